/- Long whole numbers as values: their digits and bytes. Digits in memory that may be none. Package long: the limbs of a number. Package long: making a number of a sign and limbs. Package long: numbers of 64 bits, signs. Package long: comparing. math/bits Len32 and LeadingZeros32: by their contracts. Package long: how many bits a number has; the limit. Package long: numbers of 64 bits back. Package long: sums and differences of limbs. Package long: sums of numbers. Package long: products of limbs. Package long: products of numbers. -/
import Derived.Test.YtaiffmebphhdaaaGreatBaseA
import Derived.Test.YtaiffmebphhdaaaGreatBaseB
import Derived.Laws.IdiomStrings
import Derived.Lib.BufferRead
import Derived.Test.YtaiffmebphhdaaaGreatProg
import Derived.Shelf.Small.Bits
namespace Go.Proofs.YtaiffmebphhdaaaGreat
set_option maxRecDepth 100000
set_option maxHeartbeats 16000000
set_option linter.unusedSimpArgs false
set_option linter.unusedVariables false
open Go.ChangeShapes Go.WideShapes Go.RowKit
def digN (n:Nat):List Nat:=if h:n=0 then []else n%4294967296::digN (n/4294967296)
termination_by n
decreasing_by exact Nat.div_lt_self (by omega) (by omega)
theorem digN_zero:digN 0= []:=by unfold digN;simp
theorem digN_pos {n:Nat}(h:n≠0):digN n=n%4294967296::digN (n/4294967296):=by
 conv=>lhs;unfold digN
 rw [dif_neg h]
theorem digN_val (n:Nat):dval (digN n)=n:=by
 induction n using Nat.strongRecOn with
 | ind n ih=>
  by_cases h:n=0
  ·subst h;rw [digN_zero];rfl
  ·rw [digN_pos h,dval,ih _ (Nat.div_lt_self (by omega) (by omega))]
   omega
theorem digN_lt (n:Nat):∀d∈digN n,d<4294967296:=by
 induction n using Nat.strongRecOn with
 | ind n ih=>
  by_cases h:n=0
  ·subst h;rw [digN_zero];simp
  ·rw [digN_pos h]
   intro d hd
   rcases List.mem_cons.1 hd with rfl | hd
   ·omega
   ·exact ih _ (Nat.div_lt_self (by omega) (by omega)) d hd
theorem digN_eq_nil {n:Nat}:digN n= []↔n=0:=by
 constructor
 ·intro h
  have:=digN_val n;rw [h]at this;exact this.symm
 ·rintro rfl;exact digN_zero
theorem noEnd_tail {d:Nat}{ds:List Nat}(h:NoEnd (d::ds)):NoEnd ds:=by
 unfold NoEnd at*
 by_cases h0:ds= []
 ·exact .inl h0
 ·right
  rcases h with h | h
  ·cases h
  ·have hl:0<ds.length:=List.length_pos_iff.2 h0
   obtain⟨k,hk⟩:∃k,ds.length=k+1:=⟨ds.length-1,by omega⟩
   rw [List.length_cons,hk]at h;rw [hk]
   simpa using h
theorem digN_dval:∀ {ds:List Nat},(∀d∈ds,d<4294967296)→NoEnd ds→digN (dval ds)=ds
 | [],_,_=>digN_zero
 | d::ds,hd,hn=>by
  have ih:=digN_dval (fun x hx=>hd x (List.mem_cons_of_mem _ hx)) (noEnd_tail hn)
  have hd1:=hd d (by simp)
  have h0:dval (d::ds)≠0:=by
   have:=dval_ge (d::ds) hn (by simp)
   have:=Nat.pow_pos (a:=4294967296) (n:=(d::ds).length-1) (by omega)
   omega
  rw [digN_pos h0];simp only [dval];rw [Nat.add_mul_mod_self_left,Nat.mod_eq_of_lt hd1,Nat.add_mul_div_left _ _ (by omega),Nat.div_eq_of_lt hd1,Nat.zero_add,ih]
theorem digN_noEnd (n:Nat):NoEnd (digN n):=by
 induction n using Nat.strongRecOn with
 | ind n ih=>
  by_cases h:n=0
  ·subst h;rw [digN_zero];exact .inl rfl
  ·rw [digN_pos h]
   right
   have ih':=ih _ (Nat.div_lt_self (by omega:0<n) (by omega:1<4294967296))
   by_cases h1:n/4294967296=0
   ·rw [h1,digN_zero]
    simp;omega
   ·rcases ih' with h2 | h2
    ·exact absurd (digN_eq_nil.1 h2) h1
    ·have hl:0<(digN (n/4294967296)).length:=List.length_pos_iff.2 fun h=>h1 (digN_eq_nil.1 h)
     obtain⟨k,hk⟩:∃k,(digN (n/4294967296)).length=k+1:=⟨(digN (n/4294967296)).length-1,by omega⟩
     rw [hk]at h2;rw [List.length_cons,hk]
     simpa using h2
theorem digN_len {n k:Nat}(h:n<4294967296^k):(digN n).length≤k:=by
 by_cases h0:digN n= []
 ·rw [h0];simp
 ·have h1:=dval_ge _ (digN_noEnd n) h0
  rw [digN_val]at h1;have:=(Nat.pow_lt_pow_iff_right (a:=4294967296) (by omega)).1 (Nat.lt_of_le_of_lt h1 h)
  omega
def dbytes (d:Nat):List UInt8:= [UInt8.ofNat d,UInt8.ofNat (d/256),UInt8.ofNat (d/65536),UInt8.ofNat (d/16777216)]
def bl (ds:List Nat):List UInt8:=ds.flatMap dbytes
def bytesOf (ds:List Nat):ByteArray:=⟨(bl ds).toArray⟩
theorem bl_len (ds:List Nat):(bl ds).length=4*ds.length:=by
 unfold bl
 induction ds with
 | nil=>rfl
 | cons d ds ih=>rw [List.flatMap_cons,List.length_append,ih,List.length_cons];simp [dbytes];omega
theorem bytesOf_size (ds:List Nat):(bytesOf ds).size=4*ds.length:=by
 show(bl ds).toArray.size=_;rw [List.size_toArray,bl_len]
def longV (z:Int):Value:= .agg #[.bool (decide (z<0)),.string (bytesOf (digN z.natAbs))]
theorem keep_own {w0 w:World}(h:Keep NoS w0 w){b i:Nat}(v:Value)(hb:w0.heap.size≤b):Keep NoS w0 (w.setCell ⟨b,i,none⟩ v):=h.setCell _ fun hh=>absurd hh (by omega)
def IsDg (w:World)(v:Value)(ds:List Nat):Prop:=
 ∃oa cap,v= .slice oa ds.length cap∧ds.length≤cap∧cap≤maxLen∧(∀d∈ds,d<4294967296)∧
  (ds≠ []→∃g o,oa=some ⟨g,o,none⟩∧g<w.heap.size∧∀i,i<ds.length→w.cell? ⟨g,o+i,none⟩=some (.int .u32 (ds.getD i 0:Nat)))
theorem IsDg.keep {w w':World}{v:Value}{ds:List Nat}(h:IsDg w v ds)(k:Keep NoS w w'):IsDg w' v ds:=by
 obtain⟨oa,cap,h1,h2,h3,h4,h5⟩:=h;refine⟨oa,cap,h1,h2,h3,h4,fun hne=> ?_⟩
 obtain⟨g,o,e,hg,hc⟩:=h5 hne;exact⟨g,o,e,Nat.lt_of_lt_of_le hg k.size,fun i hi=>by rw [k.cell hg];exact hc i hi⟩
theorem IsDig.dg {w:World}{v:Value}{ds:List Nat}(h:IsDig w v ds):IsDg w v ds:=by
 obtain⟨g,cap,hv,h1,h2,hg,hc,hb⟩:=h.open;have hall:=h;obtain⟨_,_,_,_,_,_,_,_,_,hall⟩:=hall;exact⟨_,cap,hv,h1,h2,hall,fun _=>⟨g,0,rfl,hg,fun i hi=>by rw [Nat.zero_add];exact hc w (Keep.refl _ _) i hi⟩⟩
theorem dg_nil (w:World):IsDg w (.slice none 0 0) []:=⟨none,0,rfl,by simp,by simp,by simp,fun h=>absurd rfl h⟩
theorem IsDg.len {w:World}{v:Value}{ds:List Nat}(h:IsDg w v ds):∃oa cap,v= .slice oa ds.length cap∧ds.length≤cap∧cap≤maxLen:=by
 obtain⟨oa,cap,h1,h2,h3,_⟩:=h;exact⟨oa,cap,h1,h2,h3⟩
theorem IsDg.lt {w:World}{v:Value}{ds:List Nat}(h:IsDg w v ds):∀d∈ds,d<4294967296:=by
 obtain⟨_,_,_,_,_,h4,_⟩:=h;exact h4
theorem IsDg.at {w:World}{oa:Option Addr}{n cap:Nat}{ds:List Nat}(h:IsDg w (.slice oa n cap) ds)(h0:0<ds.length):∃g o,oa=some ⟨g,o,none⟩∧g<w.heap.size∧∀i,i<ds.length→w.cell? ⟨g,o+i,none⟩=some (.int .u32 (ds.getD i 0:Nat)):=by
 obtain⟨oa',cap',hv,_,_,_,h5⟩:=h
 cases hv
 exact h5 (by rintro rfl;simp at h0)
theorem IsDg.take {w:World}{oa:Option Addr}{n cap:Nat}{ds:List Nat}(h:IsDg w (.slice oa n cap) ds){k:Nat}(hk:k≤ds.length):IsDg w (.slice oa k cap) (ds.take k):=by
 obtain⟨oa',cap',hv,h2,h3,h4,h5⟩:=h
 cases hv
 have hl:(ds.take k).length=k:=by rw [List.length_take];omega
 refine⟨oa,cap,by rw [hl],by omega,h3,fun d hd=>h4 d (List.mem_of_mem_take hd),fun hne=> ?_⟩
 obtain⟨g,o,e,hg,hc⟩:=h5 (by rintro rfl;simp at hne)
 refine⟨g,o,e,hg,fun i hi=> ?_⟩
 rw [hl]at hi;rw [hc i (by omega),List.getD_eq_getElem?_getD,List.getD_eq_getElem?_getD,List.getElem?_take,if_pos hi]
theorem dg_get {ds:List Nat}(h:∀d∈ds,d<4294967296)(i:Nat):ds.getD i 0<4294967296:=by
 rw [List.getD_eq_getElem?_getD]
 rcases Nat.lt_or_ge i ds.length with hi | hi
 ·rw [List.getElem?_eq_getElem hi];exact h _ (List.getElem_mem hi)
 ·rw [List.getElem?_eq_none hi];simp
def trimN (ds:List Nat):Nat→Nat
 | 0=>0
 | n+1=>if ds.getD n 0=0 then trimN ds n else n+1
def trimD (ds:List Nat):List Nat:=ds.take (trimN ds ds.length)
theorem trimN_le (ds:List Nat):∀n,trimN ds n≤n
 | 0=>Nat.le_refl _
 | n+1=>by unfold trimN;split;exact Nat.le_succ_of_le (trimN_le ds n);exact Nat.le_refl _
theorem trimN_val (ds:List Nat):∀n,n≤ds.length→dval (ds.take (trimN ds n))=dval (ds.take n)
 | 0,_=>rfl
 | n+1,h=>by
  unfold trimN
  by_cases h0:ds.getD n 0=0
  ·rw [if_pos h0,trimN_val ds n (by omega),dval_take_succ ds n (by omega),h0];simp
  ·rw [if_neg h0]
theorem trimD_val (ds:List Nat):dval (trimD ds)=dval ds:=by
 unfold trimD;rw [trimN_val ds _ (Nat.le_refl _),List.take_length]
theorem trimN_end (ds:List Nat):∀n,trimN ds n=0∨ds.getD (trimN ds n-1) 0≠0
 | 0=> .inl rfl
 | n+1=>by
  unfold trimN
  by_cases h:ds.getD n 0=0
  ·rw [if_pos h];exact trimN_end ds n
  ·rw [if_neg h];exact .inr h
theorem trimD_len (ds:List Nat):(trimD ds).length=trimN ds ds.length:=by
 unfold trimD;rw [List.length_take,Nat.min_eq_left (trimN_le _ _)]
theorem trimD_le (ds:List Nat):(trimD ds).length≤ds.length:=by rw [trimD_len];exact trimN_le _ _
theorem trimD_noEnd (ds:List Nat):NoEnd (trimD ds):=by
 by_cases h0:trimN ds ds.length=0
 ·left;unfold trimD;rw [h0];simp
 ·right
  rw [trimD_len]
  rcases trimN_end ds ds.length with h | h
  ·exact absurd h h0
  ·unfold trimD
   rw [List.getD_eq_getElem?_getD,List.getElem?_take,if_pos (by omega),←List.getD_eq_getElem?_getD];exact h
theorem trimD_mem {ds:List Nat}{d:Nat}(h:d∈trimD ds):d∈ds:=List.mem_of_mem_take h
theorem trimD_dig {ds:List Nat}(h:∀d∈ds,d<4294967296):trimD ds=digN (dval ds):=by
 rw [← trimD_val ds];exact(digN_dval (fun d hd=>h d (trimD_mem hd)) (trimD_noEnd ds)).symm
theorem bl_drop (ds:List Nat)(j:Nat):(bl ds).drop (4*j)=bl (ds.drop j):=by
 induction j generalizing ds with
 | zero=>simp
 | succ j ih=>
  rcases ds with _ | ⟨d,ds⟩
  ·simp [bl]
  ·rw [List.drop_succ_cons,←ih ds]
   show(dbytes d++bl ds).drop (4*(j+1))=_;rw [List.drop_append,show 4*(j+1)=4*j+4 from by omega,List.drop_eq_nil_of_le (by simp [dbytes])]
   simp [dbytes]
theorem bytesOf_from (ds:List Nat)(j:Nat):(bytesOf ds).extract (4*j) (bytesOf ds).size=bytesOf (ds.drop j):=by
 apply ByteArray.ext
 show((bytesOf ds).extract (4*j) (bytesOf ds).size).data=(bl (ds.drop j)).toArray;rw [ByteArray.data_extract,←bl_drop];show(bl ds).toArray.extract (4*j) (bl ds).toArray.size=_;simp;exact List.take_of_length_le (by simp)
theorem digs_self (ds:List Nat):digs (fun i=>if i<ds.length then ds.getD i 0 else 0) ds.length=ds:=by
 apply List.ext_getElem (digs_len _ _)
 intro i h1 h2;have h3:=digs_get (fun i=>if i<ds.length then ds.getD i 0 else 0) (n:=ds.length) (i:=i) h2
 rw [List.getD_eq_getElem?_getD,List.getElem?_eq_getElem h1]at h3;simp only [Option.getD_some,if_pos h2]at h3;rw [h3,List.getD_eq_getElem?_getD,List.getElem?_eq_getElem h2];rfl
def lenS:Value→Nat
 | .slice _ n _=>n
 | _=>0
structure Four (S:ByteArray)(d:Nat):Prop where
 size:4≤S.size
 b0:∀h,(S[0]'h).toNat=d%256
 b1:∀h,(S[1]'h).toNat=d/256%256
 b2:∀h,(S[2]'h).toNat=d/65536%256
 b3:∀h,(S[3]'h).toNat=d/16777216%256
theorem four_of (d:Nat)(ds:List Nat):Four (bytesOf (d::ds)) d:=by
 have e:∀k (h:k<(bytesOf (d::ds)).size),(bytesOf (d::ds))[k]'h=(dbytes d++bl ds)[k]'(by rw [bytesOf_size,List.length_cons]at h;rw [List.length_append,bl_len];simp [dbytes];omega):=fun k h=>rfl
 refine⟨by rw [bytesOf_size,List.length_cons];omega,fun h=> ?_,fun h=> ?_,fun h=> ?_,fun h=> ?_⟩<;>rw [e]<;>simp [dbytes]
theorem or_bytes {d:Nat}(h:d<4294967296):bits .or .u32 (bits .or .u32 (bits .or .u32 (IntKind.u32.wrap ((d:Int)%256)) (IntKind.u32.wrap (IntKind.u32.wrap ((d:Int)/256%256)*256)))
  (IntKind.u32.wrap (IntKind.u32.wrap ((d:Int)/65536%256)*65536))) (IntKind.u32.wrap (IntKind.u32.wrap ((d:Int)/16777216%256)*16777216))=(d:Int):=by
 have e0:IntKind.u32.wrap ((d:Int)%256)=((d%256:Nat):Int):=by rw [IntKind.wrap_u32'];omega
 have e1:IntKind.u32.wrap (IntKind.u32.wrap ((d:Int)/256%256)*256)=((d/256%256*256:Nat):Int):=by rw [IntKind.wrap_u32',IntKind.wrap_u32'];omega
 have e2:IntKind.u32.wrap (IntKind.u32.wrap ((d:Int)/65536%256)*65536)=((d/65536%256*65536:Nat):Int):=by rw [IntKind.wrap_u32',IntKind.wrap_u32'];omega
 have e3:IntKind.u32.wrap (IntKind.u32.wrap ((d:Int)/16777216%256)*16777216)=((d/16777216%256*16777216:Nat):Int):=by rw [IntKind.wrap_u32',IntKind.wrap_u32'];omega
 have h1:d%256 ||| d/256%256*256=d%65536:=by
  rw [Nat.or_comm,Nat.mul_comm _ 256,show(256:Nat)=2^8 from rfl,←Nat.two_pow_add_eq_or_of_lt (by omega)];omega
 have h2:d%65536 ||| d/65536%256*65536=d%16777216:=by
  rw [Nat.or_comm,Nat.mul_comm _ 65536,show(65536:Nat)=2^16 from rfl,←Nat.two_pow_add_eq_or_of_lt (by omega)];omega
 have h3:d%16777216 ||| d/16777216%256*16777216=d:=by
  rw [Nat.or_comm,Nat.mul_comm _ 16777216,show(16777216:Nat)=2^24 from rfl,←Nat.two_pow_add_eq_or_of_lt (by omega)];omega
 rw [e0,e1,e2,e3,u32_or_nat _ _ (by omega) (by omega),h1,u32_or_nat _ _ (by omega) (by omega),h2,u32_or_nat _ _ (by omega) (by omega),h3]
theorem limbs_any (w:World)(neg:Bool)(ds:List Nat)(hd:∀d∈ds,d<4294967296)(hl:ds.length≤10000):
  Calls Tryz.prog 121 #[.agg #[.bool neg,.string (bytesOf ds)]] w (NewDig (fun es=>es=ds) w):=by
 have HD:=zh hd;have HSZ:=zh (bytesOf_size ds);obtain⟨S,hS⟩:∃S,bytesOf ds=S:=⟨_,rfl⟩;rw [hS]at HSZ ⊢;have HS:=zh hS;have hsz:S.size=4*ds.length:=HSZ.out;clear hd hS;obtain⟨i0,hi0,hz0,hs0,hb0⟩:=info_parts infoU32;obtain⟨w2,hr2,ho2,hg2⟩:=run_make_full (P:=Tryz.prog) (w.alloc (.cells #[.bool neg,.string S] 91)) (w.heap.size+1) 123 166 i0 (.int .u32 0) 1 Tryz.underlying123 hi0 hz0 hs0 .i64 .i64 ds.length (by rw [hb0];omega) (by unfold maxLen;omega) (by simp)
 rw [show(w.alloc (.cells #[.bool neg,.string S] 91)).heap.size=w.heap.size+1 from by simp]at hr2 ho2
 have hdiv:((4*ds.length:Nat):Int).tdiv 4=(ds.length:Int):=by rw [show((4*ds.length:Nat):Int)=4*(ds.length:Int)from by omega];exact Int.mul_tdiv_cancel_left _ (by decide)
 have hdiv2:(4*(ds.length:Int)).tdiv 4=(ds.length:Int):=Int.mul_tdiv_cancel_left _ (by decide)
 go_enter Tryz.func121,Tryz.ntmps121;have P2:DigA w2 (w.heap.size+1) ds.length (fun _=>0):=arr_of_own ho2 fun i hi=>made_get rfl _ i hi
 have L2:Keep NoS (w.alloc (.cells #[.bool neg,.string S] 91)) w2:=Keep.of_below (grown_keep hg2 (w.heap.size+1) (by simp) (by simp)) (by simp)
 have B2:Blk w2 w.heap.size #[.bool neg,.string S]:=Blk.keep kc L2;have K2:Keep NoS w w2:=Keep.both kp L2;have HP2:=zh P2;have HB2:=zh B2;have HK2:=zh K2;clear ho2 hg2 P2 L2 B2 K2;go_wp2;clear hr2;go_loopw [13] (fun s wr=>∃j:Nat,j≤ds.length∧s= .int .i64 j∧Keep NoS w wr∧Blk wr w.heap.size #[.bool neg,.string S]∧DigA wr (w.heap.size+1) ds.length (fun i=>if i<j then ds.getD i 0 else 0)) (fun s _=>(ds.length-intOf s).toNat)
 case atStart=>exact⟨0,by omega,rfl,HK2.out,HB2.out,by simpa using HP2.out⟩
 case round=>
  obtain⟨j,hj,rfl,hkr,hb,har⟩:=hrel;have HKR:=zh hkr;have HB:=zh hb;have HAR:=zh har;obtain⟨p0,p1,_,_,pl⟩:=hb.two
  by_cases hjl:j<ds.length
  ·have hlt:(j:Int)<(ds.length:Int):=by omega
   have q1:(0:Int)≤4*(j:Int):=by omega
   have q2:4*(j:Int)≤(S.size:Int):=by omega
   have q3:4*(j:Int)≤4*(ds.length:Int):=by omega
   have hgl:=har.lt;have hfr:=har.free j;have hce:=har.cell (i:=j) hjl;have HX:Hid (S.extract (4*j) S.size=bytesOf (ds.drop j)):=zh (by rw [← HS.out];exact bytesOf_from ds j)
   obtain⟨d,hdd⟩:∃d,ds.getD j 0=d:=⟨_,rfl⟩;have hdj:d=ds[j]:=by rw [← hdd,List.getD_eq_getElem?_getD,List.getElem?_eq_getElem hjl];rfl
   have hdl:d<4294967296:=by rw [hdj];exact HD.out _ (List.getElem_mem hjl)
   have HF:Hid (Four (bytesOf (ds.drop j)) d):=zh (by rw [List.drop_eq_getElem_cons hjl,←hdj];exact four_of d _)
   have HDD:=zh hdd;clear hkr hb har hdd hdj;rw [hsz]at HX;go_upto_region 6 with fail
   generalize S.extract (4*j) (4*ds.length)=S2 at HX ⊢;rw [← HX.out]at HF;have hs4:=HF.out.size;have b0:=HF.out.b0;have b1:=HF.out.b1;have b2:=HF.out.b2;have b3:=HF.out.b3;have i0:(0:Int)<(S2.size:Int):=by omega
   have i1:(1:Int)<(S2.size:Int):=by omega
   have i2:(2:Int)<(S2.size:Int):=by omega
   have i3:(3:Int)<(S2.size:Int):=by omega
   have n0:0<S2.size:=by omega
   have n1:1<S2.size:=by omega
   have n2:2<S2.size:=by omega
   have n3:3<S2.size:=by omega
   have HO:=zh (or_bytes hdl);clear HX HF q1 q2 q3;refine wp_region_by (fun _=>True) [21] [([0,1,2,3,4,5,6,7,8,9,10,11,12,13,14,15,16,17,18,19,20],21)] [] (by kernel_rfl) (by kernel_rfl) trivial ?_
   intro X W hne hF hcl;clear hF hcl;simp only [wpPlan,pickOps,zl0,zl1,zl2,clsOf,Bool.false_eq_true,if_false]
   (repeat(quiet_step (fail)));refine wpQuiet_nil ?_
   refine wpAt rfl rfl fun K hK=> ?_
   go_simp;rw [HO.out];refine hK _ _ ⟨fun h=>(by simp at h),?_⟩
   clear hK K
   (repeat(quiet_step (fail)));refine wpQuiet_nil ?_
   refine NoPanic.normal ?_;go_wp2;go_roundw
   case rel=>
    refine⟨j+1,by omega,by go_num,(keep_own HKR.out _ (by omega)).drew,(HB.out.setOther _ _ (by omega)).keep (Keep.refl _ _).drew,?_⟩
    refine((DigA.set HAR.out j d rfl).keep (Keep.refl _ _).drew).congr fun i hi=> ?_
    have hq:=HDD.out
    congr 1
    simp only
    by_cases h1:i=j
    ·subst h1;rw [if_pos rfl,if_pos (by omega),hq]
    ·rw [if_neg h1]
     by_cases h2:i<j
     ·rw [if_pos h2,if_pos (by omega)]
     ·rw [if_neg h2,if_neg (by omega)]
   case measure=>simp [intOf];omega
  ·have hlt:¬(j:Int)<(ds.length:Int):=by omega
   obtain rfl:j=ds.length:=by omega
   clear hkr hb har;go_wp2;go_ret;have hdg:=dig_of_arr HAR.out (Nat.le_refl _) (by unfold maxLen;omega) (fun i hi=>by simp only [if_pos hi];exact dg_get HD.out i)
   rw [digs_self]at hdg;exact⟨_,ds,rfl,HKR.out,hdg,rfl⟩
theorem longTrim_any (w:World)(v:Value)(ds:List Nat)(h:IsDg w v ds)(hl:ds.length≤100000):
  Calls Tryz.prog 138 #[v] w fun e w'=>(∃v',e= .returned v'∧IsDg w v' (trimD ds))∧w'=w:=by
 have H:=zh h;obtain⟨oa,cap,hv,hcap,hm⟩:=h.len;subst hv;unfold maxLen at hm;have HCAP:Hid (∀k,k≤ds.length→IsDg w (.slice oa k cap) (ds.take k)):=zh fun k hk=>H.out.take hk
 go_enter Tryz.func138,Tryz.ntmps138;go_wp2;go_loop [0] (fun s=>∃k:Nat,k≤ds.length∧s= .slice oa k cap∧trimN ds k=trimN ds ds.length) (fun s=>lenS s)
 case atStart=>exact⟨ds.length,Nat.le_refl _,rfl,rfl⟩
 case round=>
  obtain⟨k,hk,rfl,hb⟩:=hrel;have HB:=zh hb;clear hb
  rcases k with _ | k
  ·have HV:Hid (trimD ds=ds.take 0):=zh (by unfold trimD;rw [← HB.out];rfl)
   go_wp2;go_ret;exact⟨⟨_,rfl,by rw [HV.out];exact HCAP.out 0 (by omega)⟩,rfl⟩
  ·obtain ⟨b,o,hoa,hbl,hc⟩:=H.out.at (by omega)
   subst hoa;have c0:=hc k (by omega)
   have hk1:((k+1:Nat):Int)-1=(k:Int):=by omega
   have hk2:(0:Int)<((k+1:Nat):Int):=by omega
   have hkc:(k:Int)<((k+1:Nat):Int):=by omega
   have hkc2:(k:Int)≤(cap:Int):=by omega
   have hkc3:k≤cap:=by omega
   clear hc;obtain⟨x,hx⟩:∃x,ds.getD k 0=x:=⟨_,rfl⟩;rw [hx]at c0;have HX:=zh hx;clear hx
   by_cases h0:x=0
   ·subst h0
    have HN:Hid (trimN ds k=trimN ds ds.length):=zh (by rw [← HB.out];conv=>rhs;unfold trimN;rw [if_pos HX.out])
    go_wp2;go_round
    case rel=>exact⟨k,by omega,by simp,HN.out⟩
    case measure=>simp [lenS]
   ·have e0:((x:Int)==0)=false:=by rw [beq_eq_false_iff_ne];omega
    have HV:Hid (trimD ds=ds.take (k+1)):=zh (by unfold trimD;rw [← HB.out];conv=>lhs;unfold trimN;rw [if_neg (by rw [HX.out];exact h0)])
    go_wp2;go_ret;exact⟨⟨_,rfl,by rw [HV.out];exact HCAP.out (k+1) (by omega)⟩,rfl⟩
abbrev TB:TypeId:=5
theorem infoB:(Tryz.prog.info? 5).map (fun i=>(i.zero,i.size,i.bytes))=some (some (.int .u8 0),1,1):=by kernel_rfl
def bv (l:List UInt8):List Value:=l.map fun b=> .int .u8 (b.toNat:Int)
theorem bv_one (l:List UInt8):∀u∈bv l,u.oneCell'=true:=by
 intro u hu;obtain⟨x,_,rfl⟩:=List.mem_map.1 hu;rfl
def OwnB (w:World)(base:Nat)(v:Value)(l:List UInt8):Prop:=w.ownsRow base TB 1 v l.length (bv l)
theorem OwnB.keep {w w':World}{base:Nat}{v:Value}{l:List UInt8}(h:OwnB w base v l)(k:Keep NoS w w'):OwnB w' base v l:=by
 obtain⟨hl,h | ⟨g,cap,cur,hv,hb,hg,hl',hm,hs,ht⟩⟩:=h
 ·exact ⟨hl,.inl h⟩
 ·exact ⟨hl,.inr ⟨g,cap,cur,hv,hb,by rw [k.block g (lt_of_heap hg) fun _ h=>h];exact hg,hl',hm,hs,ht⟩⟩
theorem OwnB.block {w:World}{base:Nat}{v:Value}{l:List UInt8}(h:OwnB w base v l):∀k,v.ownBlock=some k→base≤k:=fun k hk=>(World.ownsRow.lt h k hk).1
theorem OwnB.len {w:World}{base:Nat}{v:Value}{l:List UInt8}(h:OwnB w base v l):∃oa cap,v= .slice oa l.length cap:=by
 obtain⟨hl,h | ⟨g,cap,cur,hv,hb,hg,hl',hm,hs,ht⟩⟩:=h
 ·obtain ⟨rfl,h0⟩:=h
  exact⟨none,0,by rw [h0]⟩
 ·exact ⟨_,cap,hv⟩
theorem OwnB.str {w:World}{base:Nat}{v:Value}{l:List UInt8}(h:OwnB w base v l):(convert 186 9 v).run Tryz.prog w= .ok (.string ⟨l.toArray⟩) w:=by
 obtain⟨hl,h | ⟨g,cap,cur,hv,hb,hg,hl',hm,hs,ht⟩⟩:=h
 ·obtain ⟨rfl,h0⟩:=h
  obtain rfl:l= []:=List.eq_nil_of_length_eq_zero h0;exact Lib.run_convert_nil_bytes (P:=Tryz.prog) w 186 9 5 0 Tryz.underlying186 Tryz.underlying5 Tryz.underlying9
 ·subst hv
  refine run_convert_bytes_back (P:=Tryz.prog) w 186 9 5 ⟨g,0,none⟩ cap l Tryz.underlying186 Tryz.underlying5 Tryz.underlying9 fun j hj=> ?_
  rw [add_zero_off];refine cell_of_heap hg ?_;have h1:(cur.toList.take (l.length*1))[j]? =(bv l)[j]? :=by rw [ht]
  rw [List.getElem?_take,if_pos (by omega)]at h1
  simpa [bv,hj]using h1
theorem app_four {w:World}{base:Nat}{v:Value}{l:List UInt8}(hown:OwnB w base v l)(d:Nat){g:Nat}(h0:w.cell? ⟨g,0,none⟩=some (.int .u8 ((UInt8.ofNat d).toNat:Int)))(h1:w.cell? ⟨g,1,none⟩=some (.int .u8 ((UInt8.ofNat (d/256)).toNat:Int)))
  (h2:w.cell? ⟨g,2,none⟩=some (.int .u8 ((UInt8.ofNat (d/65536)).toNat:Int))) (h3:w.cell? ⟨g,3,none⟩=some (.int .u8 ((UInt8.ofNat (d/16777216)).toNat:Int))) (hl:l.length≤1000000) (hb:base≤w.heap.size):
  ∃v' w',(Builtin.append_ #[186,186] 186 #[v,.slice (some ⟨g,0,none⟩) 4 4]).run Tryz.prog w= .ok v' w'∧OwnB w' base v' (l++dbytes d)∧w.grownBy w' v.ownBlock:=by
 obtain⟨i0,hi0,hz0,hz1,hz2⟩:=info_parts infoB;obtain⟨v',w',hr,ho,hg⟩:=app_run (P:=Tryz.prog) (w:=w) (ty:=186) Tryz.underlying186 hi0 hz0 hz1 hz2 rfl (by decide) base v l.length (bv l) hown (some ⟨g,0,none⟩) 4 4 (bv (dbytes d)) (by simp [bv,dbytes])
  (fun _=>⟨_,rfl,fun j u hj=>by
   rw [add_zero_off]
   rcases j with _ | _ | _ | _ | j
   ·simp [bv,dbytes]at hj;rw [h0,←hj];simp
   ·simp [bv,dbytes]at hj;rw [h1,←hj];simp
   ·simp [bv,dbytes]at hj;rw [h2,←hj];simp
   ·simp [bv,dbytes]at hj;rw [h3,←hj];simp
   ·simp [bv,dbytes]at hj⟩) (bv_one _) (by unfold maxLen;omega) (by omega) hb
 refine⟨v',w',hr,?_,hg⟩;unfold OwnB;rw [List.length_append,show(dbytes d).length=4 from rfl,show bv (l++dbytes d)=bv l++bv (dbytes d)from by simp [bv]]
 exact ho
theorem longV_sgn (neg:Bool)(n:Nat):longV (sgn neg n)= .agg #[.bool (neg&&decide (0<(digN n).length)),.string (bytesOf (digN n))]:=by
 unfold longV;rw [natAbs_sgn]
 congr 3
 have h:0<(digN n).length↔n≠0:=by
  rw [List.length_pos_iff,ne_eq,digN_eq_nil]
 cases neg
 ·simp [sgn]
 ·have h2:sgn true n<0↔0<(digN n).length:=by rw [h];simp only [sgn,if_true];omega
  rw [Bool.true_and,decide_eq_decide.2 h2]
theorem bl_take {ds:List Nat}{k:Nat}(hk:k<ds.length):bl (ds.take (k+1))=bl (ds.take k)++dbytes (ds.getD k 0):=by
 have e:ds.take (k+1)=ds.take k++ [ds[k]]:=List.take_succ_eq_append_getElem hk;rw [e,List.getD_eq_getElem?_getD,List.getElem?_eq_getElem hk];unfold bl;rw [List.flatMap_append];simp
theorem made_any (w:World)(neg:Bool)(v:Value)(ds:List Nat)(h:IsDg w v ds)(hl:ds.length≤20000):
  Calls Tryz.prog 115 #[.bool neg,v] w fun e w'=>e= .returned (longV (sgn neg (dval ds)))∧Keep NoS w w':=by
 have H:=zh h;obtain⟨oa,cap,rfl,hcap,hm⟩:=h.len;have HV:Hid (longV (sgn neg (dval ds))= .agg #[.bool (neg&&decide (0<(trimD ds).length)),.string (bytesOf (trimD ds))]):=zh (by rw [longV_sgn,←trimD_dig h.lt])
 have hn:=trimD_le ds;clear h;obtain⟨es,hes⟩:∃es,trimD ds=es:=⟨_,rfl⟩;rw [hes]at HV hn;have HES:=zh hes;rw [HV.out];clear hes;go_enter Tryz.func115,Tryz.ntmps115;go_wp2_with fail;have k0:Keep NoS w (w.alloc (.cells #[.bool false,.string ⟨#[]⟩] 91)):=kp;refine(longTrim_any _ _ ds (H.out.keep kp) (by omega)).mono ?_
 rintro e w1 ⟨⟨v1,rfl,hd1⟩,rfl⟩;rw [HES.out]at hd1;have HD1:=zh hd1;obtain⟨ob,cb,rfl,hcb,hmb⟩:=hd1.len;have HK0:=zh k0;have HB0:Hid (Blk (w.alloc (.cells #[.bool false,.string ⟨#[]⟩] 91)) w.heap.size #[.bool false,.string ⟨#[]⟩]):=zh kc;obtain⟨wa,hwa⟩:∃W,w.alloc (.cells #[.bool false,.string ⟨#[]⟩] 91)=W:=⟨_,rfl⟩;have hsa:wa.heap.size=w.heap.size+1:=by rw [← hwa];simp
 rw [hwa]at HD1 HK0 HB0;rw [hwa];clear k0 hd1 hwa;obtain⟨i0,hi0,hz0,hs0,hb0⟩:=info_parts infoB;obtain⟨w2,hr2,ho2,hg2⟩:=run_make_own (P:=Tryz.prog) wa wa.heap.size 186 5 i0 (.int .u8 0) 1 Tryz.underlying186 hi0 hz0 hs0 .i64 .i64 (4*es.length) (by rw [hb0];omega) (by unfold maxLen;omega) (by omega)
 have L2:Keep NoS wa w2:=Keep.of_below (grown_keep hg2 wa.heap.size (Nat.le_refl _) (by simp)) (Nat.le_refl _)
 have HO2:Hid (OwnB w2 wa.heap.size (.slice (some ⟨wa.heap.size,0,none⟩) 0 (4*es.length)) (bl (es.take 0))):=zh ho2;have HK2:=zh L2;have HSA:=zh hsa;have hr2':=hr2;rw [show((4*es.length:Nat):Int)=4*(es.length:Int)from by omega]at hr2'
 clear ho2 hg2 L2 hsa;unfold maxLen at hm hmb;have hle:(0:Int)≤4*(es.length:Int):=by omega
 go_wp2;clear hr2 hr2' hle;go_loopw [16,5] (fun s t wr=>∃k:Nat,k≤es.length∧s= .int .i64 k∧Keep NoS wa wr∧OwnB wr wa.heap.size t (bl (es.take k))) (fun s _ _=>(es.length-intOf s).toNat)
 case atStart=>exact⟨0,by omega,rfl,HK2.out,HO2.out⟩
 case round=>
  obtain⟨k,hk,rfl,hkr,ho⟩:=hrel;have HKR:=zh hkr;have HO:=zh ho;obtain⟨ot,ct,hv5⟩:=ho.len;subst hv5;have hbl:(bl (es.take k)).length=4*k:=by rw [bl_len,List.length_take,Nat.min_eq_left hk]
  have hszr:=hkr.size;rw [hbl]at HO ⊢
  by_cases hkl:k<es.length
  ·have hlt:(k:Int)<(es.length:Int):=by omega
   obtain⟨gg,og,hob,hgl,hcs⟩:=(HD1.out.keep hkr).at (by omega)
   subst hob;have hck:=hcs k hkl;have hdl:=dg_get HD1.out.lt k;have HS:=zh (bl_take hkl);obtain⟨d,hd⟩:∃d,es.getD k 0=d:=⟨_,rfl⟩;rw [hd]at hck hdl HS;clear hd hcs hkr ho;have k1:Keep NoS wr (wr.alloc (.cells #[.int .u8 ((d:Int)%256),.int .u8 ((d:Int)/256%256),.int .u8 ((d:Int)/65536%256),.int .u8 ((d:Int)/16777216)] TB)):=kp;obtain⟨v',w',hr,ho',hg⟩:=app_four (HO.out.keep k1) d (g:=wr.heap.size) (by simp) (by simp) (by simp) (by simp;omega) (by rw [hbl];omega) (by simp;omega)
   have HO':=zh ho';have HKW:Hid (Keep NoS wa w'):=zh ((HKR.out.both k1).grown hg fun k hk=>HO.out.block k hk)
   obtain⟨ot',ct',hv'⟩:=ho'.len;have hl4:(bl (es.take k)++dbytes d).length=4*k+4:=by rw [List.length_append,hbl];rfl
   rw [hl4]at hv';subst hv';clear ho' hg k1;go_wp2_with (at_builtin;refine wpList_app_run _ _ 186 _ _ rfl rfl rfl rfl hr ?_);go_roundw
   case rel=>exact⟨k+1,by omega,by go_num,HKW.out,by rw [HS.out];exact HO'.out⟩
   case measure=>simp [intOf];omega
  ·have hlt:¬(k:Int)<(es.length:Int):=by omega
   obtain rfl:k=es.length:=by omega
   rw [List.take_length]at HO;have hcv:=HO.out.str;have HBY:Hid ((⟨(bl es).toArray⟩:ByteArray)=bytesOf es):=zh rfl;rw [HBY.out]at hcv;obtain⟨p0,p1,f0,f1,pl⟩:=(HB0.out.keep hkr).two;have HK:=zh (HK0.out.both hkr);clear hkr ho
   cases neg
   ·go_wp2
    refine bodyPost_ret (by simp [results,Tryz.results115,go_sem,p0,p1,pl];rfl) rfl ?_
    exact⟨rfl,kp⟩
   ·go_wp2
    refine bodyPost_ret (by simp [results,Tryz.results115,go_sem,p0,p1,pl];rfl) rfl ?_
    exact⟨rfl,kp⟩
theorem u64_of_nonneg (x:Int)(h1:0≤x)(h2:x≤9223372036854775807):IntKind.u64.wrap x=(x.natAbs:Nat):=by
 rw [IntKind.wrap_u64];omega
theorem dig_two (w:World)(u:Nat)(hu:u<18446744073709551616):IsDg (w.alloc (.cells #[.int .u32 ((u:Int)%4294967296),.int .u32 ((u:Int)/4294967296)] U32)) (.slice (some ⟨w.heap.size,0,none⟩) 2 2) [u%4294967296,u/4294967296]:=by
 have h:=(dig_new w [u%4294967296,u/4294967296] (by simp [maxLen]) (by
  intro d hd;simp at hd;omega)).dg
 simpa using h
theorem longOf_any (w:World)(x:Int)(h1: -9223372036854775808≤x)(h2:x≤9223372036854775807):
  Calls Tryz.prog 75 #[.int .i64 x] w fun e w'=>e= .returned (longV x)∧Keep NoS w w':=by
 obtain⟨u,hu⟩:∃u,x.natAbs=u:=⟨_,rfl⟩;have hul:u<18446744073709551616:=by omega
 have hd:∀d∈ [u%4294967296,u/4294967296],d<4294967296:=by
  intro d hd;simp at hd;omega
 have HN:Hid (dval [u%4294967296,u/4294967296]=u):=zh (by simp [dval];omega)
 have HS:Hid (sgn (decide (x<0)) u=x):=zh (by
  by_cases h:x<0
  ·rw [decide_eq_true h];simp [sgn];omega
  ·rw [decide_eq_false h];simp [sgn];omega)
 have q1:IntKind.u32.wrap (u:Int)=((u%4294967296:Nat):Int):=by rw [IntKind.wrap_u32'];omega
 have q2:IntKind.u32.wrap ((u:Int)/4294967296)=((u/4294967296:Nat):Int):=by rw [IntKind.wrap_u32'];omega
 have HD:=zh hd;have k1:Keep NoS w (w.alloc (.cells #[.bool false,.string ⟨#[]⟩] 91)):=kp;have HK1:=zh k1;clear hd k1
 by_cases h0:x<0
 ·have hw:IntKind.u64.wrap (-IntKind.u64.wrap x)=(u:Nat):=by rw [← hu];exact size_neg_eq x h0 h1
  have e0:decide (x<0)=true:=dec_t h0;rw [e0]at HS;have HV:Hid (longV x= .agg #[.bool true,.string (bytesOf (digN u))]):=zh (by unfold longV;rw [e0,hu])
  go_enter Tryz.func75,Tryz.ntmps75;go_wp2_with fail;have kk:=(HK1.out.alloc (.cells #[.int .u32 ((u:Int)%4294967296),.int .u32 ((u:Int)/4294967296)] U32));have HB:Hid (Blk ((w.alloc (.cells #[.bool false,.string ⟨#[]⟩] 91)).alloc (.cells #[.int .u32 ((u:Int)%4294967296),.int .u32 ((u:Int)/4294967296)] U32)) w.heap.size #[.bool false,.string ⟨#[]⟩]):=zh kc;have hdg:=dig_two (w.alloc (.cells #[.bool false,.string ⟨#[]⟩] 91)) u hul;rw [show(w.alloc (.cells #[.bool false,.string ⟨#[]⟩] 91)).heap.size=w.heap.size+1 from by simp]at hdg
  refine(made_any _ true _ _ hdg (by simp)).mono ?_
  rintro e w1 ⟨rfl,hk1⟩;rw [HN.out,HS.out,HV.out];have HK:=zh (kk.both hk1);obtain⟨p0,p1,f0,f1,pl⟩:=(HB.out.keep hk1).two;clear kk hdg hk1;go_wp2;refine bodyPost_ret (by simp [results,Tryz.results75,go_sem,p0,p1,pl];rfl) rfl ?_
  exact⟨by rw [HV.out],kp⟩
 ·have hw:IntKind.u64.wrap x=(u:Nat):=by rw [← hu];exact u64_of_nonneg x (by omega) h2
  have e0:decide (x<0)=false:=dec_f h0;rw [e0]at HS;have HV:Hid (longV x= .agg #[.bool false,.string (bytesOf (digN u))]):=zh (by unfold longV;rw [e0,hu])
  go_enter Tryz.func75,Tryz.ntmps75;go_wp2_with fail;have kk:=(HK1.out.alloc (.cells #[.int .u32 ((u:Int)%4294967296),.int .u32 ((u:Int)/4294967296)] U32));have HB:Hid (Blk ((w.alloc (.cells #[.bool false,.string ⟨#[]⟩] 91)).alloc (.cells #[.int .u32 ((u:Int)%4294967296),.int .u32 ((u:Int)/4294967296)] U32)) w.heap.size #[.bool false,.string ⟨#[]⟩]):=zh kc;have hdg:=dig_two (w.alloc (.cells #[.bool false,.string ⟨#[]⟩] 91)) u hul;rw [show(w.alloc (.cells #[.bool false,.string ⟨#[]⟩] 91)).heap.size=w.heap.size+1 from by simp]at hdg
  refine(made_any _ false _ _ hdg (by simp)).mono ?_
  rintro e w1 ⟨rfl,hk1⟩;rw [HN.out,HS.out,HV.out];have HK:=zh (kk.both hk1);obtain⟨p0,p1,f0,f1,pl⟩:=(HB.out.keep hk1).two;clear kk hdg hk1;go_wp2;refine bodyPost_ret (by simp [results,Tryz.results75,go_sem,p0,p1,pl];rfl) rfl ?_
  exact⟨by rw [HV.out],kp⟩
theorem long_empty (n:Nat):(bytesOf (digN n)).toList.isEmpty=decide (n=0):=by
 unfold bytesOf;rw [ByteArray.toList_mk]
 by_cases h:n=0
 ·subst h;rw [digN_zero];rfl
 ·rw [decide_eq_false h,digN_pos h];rfl
theorem longV_neg {z:Int}(h:z<0):longV z= .agg #[.bool true,.string (bytesOf (digN z.natAbs))]:=by unfold longV;rw [dec_t h]
theorem longV_nonneg {z:Int}(h:¬z<0):longV z= .agg #[.bool false,.string (bytesOf (digN z.natAbs))]:=by unfold longV;rw [dec_f h]
theorem longSign_any (w:World)(z:Int):Calls Tryz.prog 77 #[longV z] w fun e w'=>e= .returned (.int .i64 z.sign)∧Keep NoS w w':=by
 have hem:=long_empty z.natAbs
 by_cases h:z<0
 ·rw [longV_neg h]
  rw [decide_eq_false (by omega)]at hem
  rw [show z.sign= -1 from Int.sign_eq_neg_one_of_neg h]
  generalize bytesOf (digN z.natAbs)=S at *;go_enter Tryz.func77,Tryz.ntmps77;go_wp2;go_ret;exact⟨rfl,kp⟩
 ·rw [longV_nonneg h]
  by_cases h0:z=0
  ·rw [decide_eq_true (by omega)]at hem
   rw [show z.sign=0 from by rw [h0];rfl]
   generalize bytesOf (digN z.natAbs)=S at *;go_enter Tryz.func77,Tryz.ntmps77;go_wp2;go_ret;exact⟨rfl,kp⟩
  ·rw [decide_eq_false (by omega)]at hem
   rw [show z.sign=1 from Int.sign_eq_one_of_pos (by omega)]
   generalize bytesOf (digN z.natAbs)=S at *;go_enter Tryz.func77,Tryz.ntmps77;go_wp2;go_ret;exact⟨rfl,kp⟩
theorem longNeg_any (w:World)(z:Int):Calls Tryz.prog 116 #[longV z] w fun e w'=>e= .returned (longV (-z))∧Keep NoS w w':=by
 have hem:=long_empty z.natAbs;have hna:(-z).natAbs=z.natAbs:=Int.natAbs_neg z
 by_cases h:z<0
 ·have HV:=zh (longV_nonneg (z:= -z) (by omega))
  rw [longV_neg h,HV.out,hna];rw [decide_eq_false (by omega)]at hem
  generalize bytesOf (digN z.natAbs)=S at *;clear HV hna;go_enter Tryz.func116,Tryz.ntmps116;go_wp2;refine bodyPost_ret (by simp [results,Tryz.results116,go_sem];rfl) rfl ?_
  exact⟨rfl,kp⟩
 ·by_cases h0:z=0
  ·have HV:=zh (longV_nonneg (z:= -z) (by omega))
   rw [longV_nonneg h,HV.out,hna];rw [decide_eq_true (by omega)]at hem
   generalize bytesOf (digN z.natAbs)=S at *;clear HV hna;go_enter Tryz.func116,Tryz.ntmps116;go_wp2;refine bodyPost_ret (by simp [results,Tryz.results116,go_sem];rfl) rfl ?_
   exact⟨rfl,kp⟩
  ·have HV:=zh (longV_neg (z:= -z) (by omega))
   rw [longV_nonneg h,HV.out,hna];rw [decide_eq_false (by omega)]at hem
   generalize bytesOf (digN z.natAbs)=S at *;clear HV hna;go_enter Tryz.func116,Tryz.ntmps116;go_wp2;refine bodyPost_ret (by simp [results,Tryz.results116,go_sem];rfl) rfl ?_
   exact⟨rfl,kp⟩
theorem longAbs_any (w:World)(z:Int):Calls Tryz.prog 132 #[longV z] w fun e w'=>e= .returned (longV (z.natAbs:Nat))∧Keep NoS w w':=by
 have HV:=zh (longV_nonneg (z:=((z.natAbs:Nat):Int)) (by omega))
 rw [HV.out,Int.natAbs_natCast];unfold longV;generalize bytesOf (digN z.natAbs)=S at *;generalize decide (z<0)=b;clear HV;go_enter Tryz.func132,Tryz.ntmps132;go_wp2;refine bodyPost_ret (by simp [results,Tryz.results132,go_sem];rfl) rfl ?_
 exact⟨rfl,kp⟩
theorem longcmp_any (w:World)(va vb:Value)(ds es:List Nat)(ha:IsDg w va ds)(hb:IsDg w vb es)(hna:NoEnd ds)(hnb:NoEnd es)(hla:ds.length≤100000)(hlb:es.length≤100000):
  Calls Tryz.prog 142 #[va,vb] w fun e w'=>e= .returned (.int .i64 (cmpN (dval ds) (dval es)))∧∃n,w'=w.drewN n:=by
 have HA:=zh ha;have HB:=zh hb;have HL:=zh ha.lt;have HL':=zh hb.lt;have HN:=zh hna;have HN':=zh hnb;obtain⟨oa,ca,rfl,hca,hma⟩:=ha.len;obtain⟨ob,cb,rfl,hcb,hmb⟩:=hb.len;clear ha hb hna hnb;unfold maxLen at hma hmb
 by_cases hl:ds.length=es.length
 ·have e1:((ds.length:Int) != (es.length:Int))=false:=by rw [bne_eq_false_iff_eq];omega
  have Hl:=zh hl;clear hl;go_enter Tryz.func142,Tryz.ntmps142;go_wp2;go_loopw [5] (fun n wr=>∃k:Nat,k≤ds.length∧n= .int .i64 ((k:Int)-1)∧ds.drop k=es.drop k∧∃m,wr=w.drewN m) (fun n _=>(intOf n+1).toNat)
  case atStart=>exact⟨ds.length,Nat.le_refl _,rfl,by rw [List.drop_length,Hl.out,List.drop_length],0,rfl⟩
  case round=>
   obtain⟨k,hk,rfl,hdr,m,rfl⟩:=hrel;have HR:=zh hdr;clear hdr
   by_cases hk0:k=0
   ·subst hk0
    have E:cmpN (dval ds) (dval es)=0:=by
     have:=HR.out;simp at this;subst this;simp [cmpN]
    have EH:=zh E;clear E;go_wp2;go_ret;exact⟨ret_int EH.out.symm,_,rfl⟩
   ·obtain ⟨j,rfl⟩:∃j,k=j+1:=⟨k-1,by omega⟩
    obtain⟨g,o,hoa,hgl,hc⟩:=HA.out.at (by omega)
    subst hoa;obtain⟨g',o',hob,hgl',hc'⟩:=HB.out.at (by have:=Hl.out;omega)
    subst hob;have q1:=hc j (by omega)
    have q1':=hc' j (by have:=Hl.out;omega)
    have hlt':(j:Int)<(es.length:Int):=by have:=Hl.out;omega
    have hlt:(j:Int)<(ds.length:Int):=by omega
    clear hc hc';generalize hp:ds.getD j 0=p at q1;generalize hp':es.getD j 0=p' at q1';have Hp:=zh hp;clear hp;have Hp':=zh hp';clear hp';have ej:((j+1:Nat):Int)-1=(j:Int):=by omega
    rw [ej]
    by_cases hlp:p<p'
    ·have E:cmpN (dval ds) (dval es)= -1:=by
      have:=dval_less ds es j Hl.out (by omega) HR.out HL.out (by rw [Hp.out,Hp'.out];exact hlp)
      simp [cmpN,this]
     have EH:=zh E;clear E;go_wp2;go_quiet (fail);go_wp2;go_ret;exact⟨ret_int EH.out.symm,_,by rw [World.drewN_drewN]⟩
    ·by_cases hgp:p'<p
     ·have E:cmpN (dval ds) (dval es)=1:=by
       have:=dval_less es ds j Hl.out.symm (by omega) HR.out.symm HL'.out (by rw [Hp.out,Hp'.out];omega)
       unfold cmpN;rw [if_neg (by omega),if_neg (by omega)]
      have EH:=zh E;clear E;go_wp2;go_quiet (fail);go_wp2;go_quiet (fail);go_wp2;go_ret;exact⟨ret_int EH.out.symm,_,by rw [World.drewN_drewN,World.drewN_drewN]⟩
     ·obtain rfl:p=p':=by omega
      go_wp2;go_quiet (fail);go_wp2;go_quiet (fail);go_wp2;go_roundw
      case rel=>
       refine⟨j,by omega,by go_num,?_,_,rfl⟩
       have h1:j<ds.length:=by omega
       have h2:j<es.length:=by omega
       rw [List.drop_eq_getElem_cons h1,List.drop_eq_getElem_cons h2,HR.out,←getD_of_lt h1,←getD_of_lt h2,Hp.out,Hp'.out]
      case measure=>simp [intOf]
 ·have e1:((ds.length:Int) != (es.length:Int))=true:=by rw [bne_iff_ne];omega
  by_cases hlt:ds.length<es.length
  ·have E:cmpN (dval ds) (dval es)= -1:=by
    have:=dval_short ds es HN'.out hlt HL.out;simp [cmpN,this]
   have EH:=zh E;clear E hl;go_enter Tryz.func142,Tryz.ntmps142;go_wp2;go_ret;exact⟨ret_int EH.out.symm,0,rfl⟩
  ·have E:cmpN (dval ds) (dval es)=1:=by
    have:=dval_short es ds HN.out (by omega) HL'.out
    unfold cmpN;rw [if_neg (by omega),if_neg (by omega)]
   have EH:=zh E;clear E hl;go_enter Tryz.func142,Tryz.ntmps142;go_wp2;go_ret;exact⟨ret_int EH.out.symm,0,rfl⟩
def dl (z:Int):Nat:=(digN z.natAbs).length
theorem digN_lt_pow (n:Nat):n<4294967296^(digN n).length:=by
 have:=dval_lt (digN n) (digN_lt n)
 rwa [digN_val]at this
theorem dl_le {z:Int}{k:Nat}(h:z.natAbs<4294967296^k):dl z≤k:=digN_len h
theorem dl_neg (z:Int):dl (-z)=dl z:=by unfold dl;rw [Int.natAbs_neg]
theorem dl_abs (z:Int):dl (z.natAbs:Nat)=dl z:=by unfold dl;rw [Int.natAbs_natCast]
theorem dl_mono {a b:Int}(h:a.natAbs≤b.natAbs):dl a≤dl b:=dl_le (Nat.lt_of_le_of_lt h (digN_lt_pow _))
theorem dl_add (a b:Int)(k:Nat)(ha:dl a≤k)(hb:dl b≤k):dl (a+b)≤k+1:=by
 apply dl_le
 have h1:a.natAbs<4294967296^k:=Nat.lt_of_lt_of_le (digN_lt_pow _) (Nat.pow_le_pow_right (by omega) ha)
 have h2:b.natAbs<4294967296^k:=Nat.lt_of_lt_of_le (digN_lt_pow _) (Nat.pow_le_pow_right (by omega) hb)
 rw [Nat.pow_succ];omega
theorem dl_mul (a b:Int):dl (a*b)≤dl a+dl b:=by
 apply dl_le
 rw [Int.natAbs_mul,Nat.pow_add];exact Nat.mul_lt_mul'' (digN_lt_pow _) (digN_lt_pow _)
theorem longV_form (z:Int):longV z= .agg #[.bool (decide (z<0)),.string (bytesOf (digN z.natAbs))]:=rfl
theorem limbs_of (w:World)(z:Int)(b:Bool)(hz:dl z≤10000):Calls Tryz.prog 121 #[.agg #[.bool b,.string (bytesOf (digN z.natAbs))]] w fun e w'=>∃v,e= .returned v∧IsDg w' v (digN z.natAbs)∧Keep NoS w w':=
 (limbs_any w b (digN z.natAbs) (digN_lt _) hz).mono fun e w' ⟨v,ds,he,hk,hd,hds⟩=>⟨v,he,by subst hds;exact hd.dg,hk⟩
theorem cmpN_sg (a b:Nat):cmpN a b=((a:Int)-b).sign:=by
 unfold cmpN
 split
 ·rw [Int.sign_eq_neg_one_of_neg (by omega)]
 ·split
  ·rename_i h1 h2;subst h2;simp
  ·rw [Int.sign_eq_one_of_pos (by omega)]
theorem sign_lt {x y:Int}(h:x.sign<y.sign):x-y<0:=by
 apply Classical.byContradiction
 intro h'
 rcases Int.lt_trichotomy x 0 with h1 | h1 | h1
 ·rw [Int.sign_eq_neg_one_of_neg h1,Int.sign_eq_neg_one_of_neg (by omega)]at h;omega
 ·subst h1
  rcases Int.lt_or_le y 0 with h2 | h2
  ·rw [Int.sign_eq_neg_one_of_neg h2]at h;simp at h
  ·obtain rfl:y=0:=by omega
   simp at h
 ·rw [Int.sign_eq_one_of_pos h1]at h
  rcases Int.lt_trichotomy y 0 with h2 | h2 | h2
  ·rw [Int.sign_eq_neg_one_of_neg h2]at h;omega
  ·subst h2;simp at h
  ·rw [Int.sign_eq_one_of_pos h2]at h;omega
theorem longCmp_any (w:World)(x y:Int)(hx:dl x≤10000)(hy:dl y≤10000):
  Calls Tryz.prog 119 #[longV x,longV y] w fun e w'=>e= .returned (.int .i64 (x-y).sign)∧Keep NoS w w':=by
 have HX:=zh hx;have HY:=zh hy;have SX:=fun w=>zh (longSign_any w x)
 have SY:=fun w=>zh (longSign_any w y)
 have LX:=fun w b=>zh (limbs_of w x b hx)
 have LY:=fun w b=>zh (limbs_of w y b hy)
 rw [longV_form]at SX;rw [longV_form]at SY;rw [longV_form,longV_form];obtain⟨S,hS⟩:∃S,bytesOf (digN x.natAbs)=S:=⟨_,rfl⟩;obtain⟨T,hT⟩:∃S,bytesOf (digN y.natAbs)=S:=⟨_,rfl⟩;rw [hS]at SX LX ⊢;rw [hT]at SY LY ⊢;clear hx hy hS hT;go_enter Tryz.func119,Tryz.ntmps119;go_wp2;obtain⟨bx,hbx⟩:∃b,decide (x<0)=b:=⟨_,rfl⟩;obtain⟨by',hby⟩:∃b,decide (y<0)=b:=⟨_,rfl⟩
 rw [hbx]at SX ⊢;rw [hby]at SY ⊢;have HBX:=zh hbx;have HBY:=zh hby;clear hbx hby;have B0:Blk ((w.alloc (.cells #[.bool bx,.string S] 91)).alloc (.cells #[.bool by',.string T] 91)) w.heap.size #[.bool bx,.string S]:=kc
 have B1:Blk ((w.alloc (.cells #[.bool bx,.string S] 91)).alloc (.cells #[.bool by',.string T] 91)) (w.heap.size+1) #[.bool by',.string T]:=kc
 have K0:Hid (Keep NoS w ((w.alloc (.cells #[.bool bx,.string S] 91)).alloc (.cells #[.bool by',.string T] 91))):=zh kp
 generalize (w.alloc (.cells #[.bool bx,.string S] 91)).alloc (.cells #[.bool by',.string T] 91)=w0 at*
 have HB0:=zh B0;have HB1:=zh B1;clear B0 B1;refine wp_region_by (fun w'=>Keep NoS w0 w') [] [([0,2],1),([],3)] [4,5] (by kernel_rfl) (by kernel_rfl) kp ?_
 intro X W hne hF hcl;have HCL:=zh hcl;have hx0:=fun x=>(HB0.out.keep (hF x)).two
 have hx1:=fun x=>(HB1.out.keep (hF x)).two
 clear hF hcl;simp only [wpPlan,pickOps,zl0,zl1,zl2,clsOf,Bool.false_eq_true,if_false]
 (repeat(quiet_step (fail)));refine wpQuiet_nil ?_
 refine wpAt rfl rfl fun K hK=> ?_
 go_simp;refine(SX _).out.mono ?_;rintro e w1 ⟨rfl,hk1⟩;have k1:Keep NoS w0 w1:=Keep.trans kp hk1 fun _ _ _ h=>h
 refine hK _ _ ⟨fun _=>HCL.out _ k1,?_⟩
 clear hK K hk1
 (repeat(quiet_step (fail)));refine wpQuiet_nil ?_
 refine wpAt rfl rfl fun K hK=> ?_
 go_simp;refine(SY _).out.mono ?_;rintro e w2 ⟨rfl,hk2⟩;have k2:=k1.both hk2;refine hK _ _ ⟨fun _=>HCL.out _ k2,?_⟩
 clear hK K hk2 k1
 (repeat(quiet_step (fail)));refine wpQuiet_nil ?_
 refine NoPanic.normal ?_;have HB0:=zh (HB0.out.keep k2);have HB1:=zh (HB1.out.keep k2);have K2:=zh (K0.out.both k2);clear hx0 hx1 HCL k2 SX SY;obtain⟨p0,p1,_,_,pl⟩:=HB0.out.two;obtain⟨q0,q1,_,_,ql⟩:=HB1.out.two
 by_cases hs:x.sign=y.sign
 ·have HS:=zh hs
  rw [hs];clear hs
  cases bx
  ·have HR:Hid (cmpN x.natAbs y.natAbs=(x-y).sign):=zh (by
    have h1:¬x<0:=of_decide_eq_false HBX.out;have h2:¬y<0:=fun h=>by have:=HS.out;rw [Int.sign_eq_neg_one_of_neg h]at this;exact h1 (Int.sign_neg_iff.1 (by rw [this];omega))
    rw [cmpN_sg];congr 1;omega)
   go_wp2;clear p0 p1 pl q0 q1 ql;refine wp_region_by (fun w'=>Keep NoS w2 w') [] [([0,2],1),([],3),([],4)] [5] (by kernel_rfl) (by kernel_rfl) kp ?_
   intro X W hne hF hcl;have HCL:=zh hcl;have hx0:=fun x=>(HB0.out.keep (hF x)).two
   have hx1:=fun x=>(HB1.out.keep (hF x)).two
   clear hF hcl;simp only [wpPlan,pickOps,zl0,zl1,zl2,clsOf,Bool.false_eq_true,if_false]
   (repeat(quiet_step (fail)));refine wpQuiet_nil ?_
   refine wpAt rfl rfl fun K hK=> ?_
   go_simp;refine(LX _ _).out.mono ?_;rintro e w3 ⟨v3,rfl,hd3,hk3⟩;have k3:Keep NoS w2 w3:=Keep.trans kp hk3 fun _ _ _ h=>h
   refine hK _ _ ⟨fun _=>HCL.out _ k3,?_⟩
   clear hK K hk3
   (repeat(quiet_step (fail)));refine wpQuiet_nil ?_
   refine wpAt rfl rfl fun K hK=> ?_
   go_simp;refine(LY _ _).out.mono ?_;rintro e w4 ⟨v4,rfl,hd4,hk4⟩;have k4:=k3.both hk4;refine hK _ _ ⟨fun _=>HCL.out _ k4,?_⟩
   have HD3:=zh (hd3.keep hk4);have HD4:=zh hd4;clear hK K hk4 k3 hd3 hd4
   (repeat(quiet_step (fail)));refine wpQuiet_nil ?_
   refine wpAt rfl rfl fun K hK=> ?_
   go_simp;refine(longcmp_any _ _ _ _ _ HD3.out HD4.out (digN_noEnd _) (digN_noEnd _) (by have:=HX.out;unfold dl at this;omega) (by have:=HY.out;unfold dl at this;omega)).mono ?_
   rintro e w5 ⟨rfl,n5,rfl⟩;have k5:=k4.both (keep_drewN w4 n5);rw [digN_val,digN_val,HR.out];refine hK _ _ ⟨fun _=>HCL.out _ k5,?_⟩
   have HK:=zh (K2.out.both k5);clear hK K k4 k5 hx0 hx1
   (repeat(quiet_step (fail)));refine wpQuiet_nil ?_
   refine NoPanic.normal ?_;go_wp2;go_ret;exact⟨rfl,HK.out⟩
  ·have HR:Hid (cmpN y.natAbs x.natAbs=(x-y).sign):=zh (by
    have h1:x<0:=of_decide_eq_true HBX.out;have h2:y<0:=Int.sign_neg_iff.1 (by rw [← HS.out,Int.sign_eq_neg_one_of_neg h1];omega)
    rw [cmpN_sg];congr 1;omega)
   go_wp2;clear p0 p1 pl q0 q1 ql;refine wp_region_by (fun w'=>Keep NoS w2 w') [] [([0,2],1),([],3),([],4)] [5] (by kernel_rfl) (by kernel_rfl) kp ?_
   intro X W hne hF hcl;have HCL:=zh hcl;have hx0:=fun x=>(HB0.out.keep (hF x)).two
   have hx1:=fun x=>(HB1.out.keep (hF x)).two
   clear hF hcl;simp only [wpPlan,pickOps,zl0,zl1,zl2,clsOf,Bool.false_eq_true,if_false]
   (repeat(quiet_step (fail)));refine wpQuiet_nil ?_
   refine wpAt rfl rfl fun K hK=> ?_
   go_simp;refine(LY _ _).out.mono ?_;rintro e w3 ⟨v3,rfl,hd3,hk3⟩;have k3:Keep NoS w2 w3:=Keep.trans kp hk3 fun _ _ _ h=>h
   refine hK _ _ ⟨fun _=>HCL.out _ k3,?_⟩
   clear hK K hk3
   (repeat(quiet_step (fail)));refine wpQuiet_nil ?_
   refine wpAt rfl rfl fun K hK=> ?_
   go_simp;refine(LX _ _).out.mono ?_;rintro e w4 ⟨v4,rfl,hd4,hk4⟩;have k4:=k3.both hk4;refine hK _ _ ⟨fun _=>HCL.out _ k4,?_⟩
   have HD3:=zh (hd3.keep hk4);have HD4:=zh hd4;clear hK K hk4 k3 hd3 hd4
   (repeat(quiet_step (fail)));refine wpQuiet_nil ?_
   refine wpAt rfl rfl fun K hK=> ?_
   go_simp;refine(longcmp_any _ _ _ _ _ HD3.out HD4.out (digN_noEnd _) (digN_noEnd _) (by have:=HY.out;unfold dl at this;omega) (by have:=HX.out;unfold dl at this;omega)).mono ?_
   rintro e w5 ⟨rfl,n5,rfl⟩;have k5:=k4.both (keep_drewN w4 n5);rw [digN_val,digN_val,HR.out];refine hK _ _ ⟨fun _=>HCL.out _ k5,?_⟩
   have HK:=zh (K2.out.both k5);clear hK K k4 k5 hx0 hx1
   (repeat(quiet_step (fail)));refine wpQuiet_nil ?_
   refine NoPanic.normal ?_;go_wp2;go_ret;exact⟨rfl,HK.out⟩
 ·have e1:(x.sign != y.sign)=true:=by rw [bne_iff_ne];exact hs
  by_cases hl:x.sign<y.sign
  ·have HR:Hid ((x-y).sign= -1):=zh (Int.sign_eq_neg_one_of_neg (sign_lt hl))
   clear hs;go_wp2;go_ret;exact⟨ret_int HR.out.symm,K2.out⟩
  ·have HR:Hid ((x-y).sign=1):=zh (Int.sign_eq_one_of_pos (by have:=sign_lt (x:=y) (y:=x) (by omega);omega))
   clear hs;go_wp2;go_ret;exact⟨ret_int HR.out.symm,K2.out⟩
open Go.Shelf
def rhoB:Ren:=⟨fun n=>if n=128 then 151 else if n=133 then 154 else 0,fun n=>if n=3 then 3 else if n=4 then 4 else if n=5 then 5 else if n=9 then 9 else if n=46 then 167 else if n=51 then 166 else 0,fun x=>x⟩
theorem lays128:Lays.n128 Tryz.prog rhoB where
 mixed:=by kernel_rfl
 f128:=by kernel_rfl
 t3:=by kernel_rfl
 a3:=fun w=>by kernel_rfl
 z3:=fun w=>by kernel_rfl
 v3:=fun w=>by kernel_rfl
 t4:=by kernel_rfl
 a4:=fun w=>by kernel_rfl
 z4:=fun w=>by kernel_rfl
 v4:=fun w=>by kernel_rfl
 t5:=by kernel_rfl
 a5:=fun w=>by kernel_rfl
 z5:=fun w=>by kernel_rfl
 v5:=fun w=>by kernel_rfl
 t9:=by kernel_rfl
 a9:=fun w=>by kernel_rfl
 z9:=fun w=>by kernel_rfl
 v9:=fun w=>by kernel_rfl
 t46:=by kernel_rfl
 a46:=fun w=>by kernel_rfl
 z46:=fun w=>by kernel_rfl
 v46:=fun w=>by kernel_rfl
 t51:=by kernel_rfl
 a51:=fun w=>by kernel_rfl
 z51:=fun w=>by kernel_rfl
 v51:=fun w=>by kernel_rfl
theorem lays133:Lays.n133 Tryz.prog rhoB where
 mixed:=by kernel_rfl
 f128:=by kernel_rfl
 f133:=by kernel_rfl
 t3:=by kernel_rfl
 a3:=fun w=>by kernel_rfl
 z3:=fun w=>by kernel_rfl
 v3:=fun w=>by kernel_rfl
 t4:=by kernel_rfl
 a4:=fun w=>by kernel_rfl
 z4:=fun w=>by kernel_rfl
 v4:=fun w=>by kernel_rfl
 t5:=by kernel_rfl
 a5:=fun w=>by kernel_rfl
 z5:=fun w=>by kernel_rfl
 v5:=fun w=>by kernel_rfl
 t9:=by kernel_rfl
 a9:=fun w=>by kernel_rfl
 z9:=fun w=>by kernel_rfl
 v9:=fun w=>by kernel_rfl
 t46:=by kernel_rfl
 a46:=fun w=>by kernel_rfl
 z46:=fun w=>by kernel_rfl
 v46:=fun w=>by kernel_rfl
 t51:=by kernel_rfl
 a51:=fun w=>by kernel_rfl
 z51:=fun w=>by kernel_rfl
 v51:=fun w=>by kernel_rfl
theorem len32_any (x:Int)(w:World)(h0:0≤x)(h1:x≤4294967295):Calls Tryz.prog 151 #[.int .u32 x] w fun e w'=>e= .returned (.int .i64 (Lib.bitLen x.toNat))∧w'=w:=Any.bits_Len32 lays128 x w h0 h1
def bitsZ (z:Int):Nat:=if digN z.natAbs= []then 0 else 32*(dl z-1)+Lib.bitLen ((digN z.natAbs).getD (dl z-1) 0)
theorem bitsZ_le (z:Int):bitsZ z≤32*dl z:=by
 unfold bitsZ
 split
 ·omega
 ·rename_i h
  have h1:0<dl z:=List.length_pos_iff.2 h;have h2:=dg_get (digN_lt z.natAbs) (dl z-1);have h3:Lib.bitLen ((digN z.natAbs).getD (dl z-1) 0)≤32:=Lib.bitLen_le _ 32 (by omega) (by omega)
  omega
def limZ (z:Int):Int:=if 131072<bitsZ z then 0 else z
def limC (z:Int):Int:=if 131072<bitsZ z then 10 else 0
theorem limZ_ok {z:Int}(h:dl z≤4096):limZ z=z∧limC z=0:=by
 have:=bitsZ_le z;unfold limZ limC;rw [if_neg (by omega),if_neg (by omega)]
 exact⟨rfl,rfl⟩
theorem longBits_any (w:World)(z:Int)(hz:dl z≤10000):Calls Tryz.prog 139 #[longV z] w fun e w'=>e= .returned (.int .i64 (bitsZ z:Nat))∧Keep NoS w w':=by
 have LX:=fun w b=>zh (limbs_of w z b hz)
 rw [longV_form];obtain⟨ds,hds⟩:∃ds,digN z.natAbs=ds:=⟨_,rfl⟩;have hdl:dl z=ds.length:=by unfold dl;rw [hds]
 obtain⟨N,hN⟩:∃N,bitsZ z=N:=⟨_,rfl⟩;rw [hN];have HB:Hid (N=if ds= []then 0 else 32*(ds.length-1)+Lib.bitLen (ds.getD (ds.length-1) 0)):=zh (by rw [← hN];unfold bitsZ;rw [hds,hdl])
 have hlt:∀d∈ds,d<4294967296:=by rw [← hds];exact digN_lt _
 have HLT:=zh hlt;rw [hds]at LX ⊢;rw [hdl]at hz;clear hds hdl hlt hN;generalize decide (z<0)=b;generalize bytesOf ds=S at *;go_enter Tryz.func139,Tryz.ntmps139;go_wp2_with fail;refine(LX _ b).out.mono ?_;rintro e w1 ⟨v1,rfl,hd1,hk1⟩;obtain⟨oa,ca,rfl,hca,hma⟩:=hd1.len;have HD:=zh hd1;have HK:Hid (Keep NoS w w1):=zh (Keep.both kp hk1);unfold maxLen at hma;clear hk1 hd1
 by_cases h0:ds= []
 ·subst h0
  go_wp2;go_ret;exact⟨ret_int (by rw [HB.out];simp),HK.out⟩
 ·have hl0:0<ds.length:=List.length_pos_iff.2 h0
  obtain⟨g,o,hoa,hgl,hc⟩:=HD.out.at hl0;subst hoa;have e0:((ds.length:Int)==0)=false:=by rw [beq_eq_false_iff_ne];omega
  have hck:=hc (ds.length-1) (by omega)
  have hdk:=dg_get HLT.out (ds.length-1);have q1:(ds.length:Int)-1=((ds.length-1:Nat):Int):=by omega
  have q2:((ds.length-1:Nat):Int)<(ds.length:Int):=by omega
  rw [if_neg h0]at HB;obtain⟨d,hd⟩:∃d,ds.getD (ds.length-1) 0=d:=⟨_,rfl⟩;rw [hd]at hck hdk HB;have hbl:Lib.bitLen d≤32:=Lib.bitLen_le _ 32 (by omega) (by omega)
  clear hc hd h0;go_wp2_with fail;refine(len32_any _ _ (by omega) (by omega)).mono ?_
  rintro e w2 ⟨rfl,rfl⟩;rw [Int.toNat_natCast];go_wp2;go_ret;exact⟨ret_int (by rw [HB.out];omega),HK.out⟩
theorem longLimited_any (w:World)(z:Int)(hz:dl z≤10000):Calls Tryz.prog 140 #[longV z] w fun e w'=>e= .returned (.tuple #[longV (limZ z),.int .i64 (limC z)])∧Keep NoS w w':=by
 have BX:=fun w=>zh (longBits_any w z hz)
 have hb0:(0:Int)≤(bitsZ z:Nat):=by omega
 have HL:Hid ((131072<bitsZ z→limZ z=0∧limC z=10)∧(¬131072<bitsZ z→limZ z=z∧limC z=0)):=zh ⟨fun h=>by unfold limZ limC;rw [if_pos h,if_pos h];exact⟨rfl,rfl⟩,fun h=>by unfold limZ limC;rw [if_neg h,if_neg h];exact⟨rfl,rfl⟩⟩
 have HZ0:Hid (longV 0= .agg #[.bool false,.string ⟨#[]⟩]):=zh (by unfold longV;rw [show(0:Int).natAbs=0 from rfl,digN_zero];rfl)
 rw [longV_form]at BX ⊢
 by_cases hl:131072<bitsZ z
 ·rw [(HL.out.1 hl).1,(HL.out.1 hl).2,HZ0.out]
  have hl2:(131072:Int)<(bitsZ z:Nat):=by omega
  generalize bitsZ z=N at *;generalize decide (z<0)=b at *;generalize bytesOf (digN z.natAbs)=S at *;go_enter Tryz.func140,Tryz.ntmps140;go_wp2_with fail;refine(BX _).out.mono ?_;rintro e w1 ⟨rfl,hk1⟩;have B1:Blk w1 (w.heap.size+1) #[.bool false,.string ⟨#[]⟩]:=Blk.keep kc hk1;have HK:Hid (Keep NoS w w1):=zh (Keep.both kp hk1);obtain⟨p0,p1,f0,f1,pl⟩:=B1.two;clear B1 hk1;go_wp2;refine bodyPost_ret (by simp [results,Tryz.results140,go_sem,p0,p1,pl];rfl) rfl ?_
  exact⟨rfl,kp⟩
 ·rw [(HL.out.2 hl).1,(HL.out.2 hl).2,longV_form]
  have hl2:¬(131072:Int)<(bitsZ z:Nat):=by omega
  generalize bitsZ z=N at *;generalize decide (z<0)=b at *;generalize bytesOf (digN z.natAbs)=S at *;go_enter Tryz.func140,Tryz.ntmps140;go_wp2_with fail;refine(BX _).out.mono ?_;rintro e w1 ⟨rfl,hk1⟩;have B0:Blk w1 w.heap.size #[.bool b,.string S]:=Blk.keep kc hk1;have B1:Blk w1 (w.heap.size+1) #[.bool false,.string ⟨#[]⟩]:=Blk.keep kc hk1;have HK:Hid (Keep NoS w w1):=zh (Keep.both kp hk1);obtain⟨q0,q1,_,_,ql⟩:=B0.two;obtain⟨p0,p1,f0,f1,pl⟩:=B1.two;clear B0 B1 hk1;go_wp2;refine bodyPost_ret (by simp [results,Tryz.results140,go_sem,p0,p1,pl];rfl) rfl ?_
  exact⟨rfl,kp⟩
def is64 (z:Int):Prop:= -9223372036854775808≤z∧z≤9223372036854775807
instance (z:Int):Decidable (is64 z):=by unfold is64;infer_instance
def small64 (z:Int):Value:=if is64 z then .tuple #[.int .i64 z,.bool true]else .tuple #[.int .i64 0,.bool false]
theorem big_of_len {ds:List Nat}(h:NoEnd ds)(hl:2<ds.length):18446744073709551616≤dval ds:=by
 have h1:=dval_ge ds h (by rintro rfl;simp at hl)
 have h2:4294967296^2≤4294967296^(ds.length-1):=Nat.pow_le_pow_right (by omega) (by omega)
 omega
theorem or_z0 (d:Nat)(h:d<18446744073709551616):bits .or .u64 0 (d:Int)=(d:Int):=by
 have:=u64_or_nat 0 d (by omega) h
 simpa using this
theorem or_hi (a d:Nat)(ha:a<4294967296)(hd:d<4294967296):bits .or .u64 (a:Int) ((d:Int)*4294967296)=((a+4294967296*d:Nat):Int):=by
 rw [show((d:Int)*4294967296)=((d*4294967296:Nat):Int)from by simp,u64_or_nat _ _ (by omega) (by omega)]
 congr 1
 have:=Nat.shiftLeft_add_eq_or_of_lt (i:=32) (by simpa using ha) d
 rw [Nat.shiftLeft_eq]at this;have e:d*4294967296+a=d*4294967296 ||| a:=by simpa using this
 rw [Nat.or_comm,←e];omega
theorem longSmall_any (w:World)(z:Int)(hz:dl z≤10000):Calls Tryz.prog 87 #[longV z] w fun e w'=>e= .returned (small64 z)∧Keep NoS w w':=by
 have LX:=fun w b=>zh (limbs_of w z b hz)
 have hne:=digN_noEnd z.natAbs;have hlt:=digN_lt z.natAbs;have hval:=digN_val z.natAbs;have hlen:(digN z.natAbs).length≤10000:=hz;rw [longV_form];obtain⟨ds,hds⟩:∃ds,digN z.natAbs=ds:=⟨_,rfl⟩;rw [hds]at LX hne hlt hval hlen ⊢;clear hds hz
 by_cases hl:2<ds.length
 ·have hb:=big_of_len hne hl
  have HV:Hid (small64 z= .tuple #[.int .i64 0,.bool false]):=zh (by unfold small64;rw [if_neg];rintro⟨h1,h2⟩;omega)
  rw [HV.out];have hl2:(2:Int)<(ds.length:Int):=by omega
  clear hne hlt hval hb;generalize decide (z<0)=b;generalize bytesOf ds=S at *;go_enter Tryz.func87,Tryz.ntmps87;go_wp2_with fail;refine(LX _ b).out.mono ?_;rintro e w1 ⟨v1,rfl,hd1,hk1⟩;obtain⟨oa,ca,rfl,hca,hma⟩:=hd1.len;have HK:Hid (Keep NoS w w1):=zh (Keep.both kp hk1);unfold maxLen at hma;clear hk1 hd1;go_wp2;go_returns;exact⟨rfl,HK.out⟩
 ·have hl2:¬(2:Int)<(ds.length:Int):=by omega
  have HLT:=zh hlt;have HT:Hid (∀k,k<ds.length→∃a b:Nat,dval (ds.take k)=a∧ds.getD k 0=b∧a<4294967296∧b<4294967296∧(k=0∧a=0∨k=1)∧dval (ds.take (k+1))=a+4294967296^k*b):=zh (by
   intro k hk;refine⟨_,_,rfl,rfl,?_,dg_get hlt k,?_,dval_take_succ ds k hk⟩
   ·have h1:=dval_lt (ds.take k) fun d h=>hlt d (List.mem_of_mem_take h)
    have h2:4294967296^(ds.take k).length≤4294967296^1:=Nat.pow_le_pow_right (by omega) (by rw [List.length_take];omega)
    omega
   ·rcases k with _ | k
    ·left;simp [dval]
    ·right;omega)
  have hN:z.natAbs<18446744073709551616:=by
   rw [← hval];have h1:=dval_lt ds hlt;have h2:4294967296^ds.length≤4294967296^2:=Nat.pow_le_pow_right (by omega) (by omega)
   omega
  have HVAL:=zh hval;clear hne hlt hval;obtain⟨b,hb⟩:∃b,decide (z<0)=b:=⟨_,rfl⟩;rw [hb];have HB:=zh hb;clear hb;generalize bytesOf ds=S at *;go_enter Tryz.func87,Tryz.ntmps87;go_wp2_with fail;refine(LX _ b).out.mono ?_;rintro e w1 ⟨v1,rfl,hd1,hk1⟩;obtain⟨oa,ca,rfl,hca,hma⟩:=hd1.len;have HD:=zh hd1;have B0:Blk w1 w.heap.size #[.bool b,.string S]:=Blk.keep kc hk1;have HB0:=zh B0;have HK:Hid (Keep NoS w w1):=zh (Keep.both kp hk1);unfold maxLen at hma;clear hk1 hd1 B0;go_wp2;go_loopw [15,5] (fun s t wr=>∃k:Nat,k≤ds.length∧s= .int .i64 k∧t= .int .u64 (dval (ds.take k):Nat)∧w1=wr) (fun s _ _=>(ds.length-intOf s).toNat)
  case atStart=>exact⟨0,by omega,rfl,by simp [dval],rfl⟩
  case round=>
   obtain⟨k,hk,rfl,rfl,hw⟩:=hrel;subst hw
   by_cases hkl:k<ds.length
   ·have hlt:(k:Int)<(ds.length:Int):=by omega
    obtain⟨g,o,hoa,hgl,hc⟩:=HD.out.at (by omega)
    subst hoa;have hck:=hc k hkl;obtain⟨a,d,h1,h2,ha,hd,hk01,h3⟩:=HT.out k hkl;rw [h2]at hck;rw [h1];have H3:=zh h3;clear h1 h2 h3 hc
    rcases hk01 with⟨rfl,rfl⟩ | rfl
    ·rw [Nat.add_zero]at hck
     rw [show((0:Nat):Int)=0 from rfl]at hlt ⊢
     go_wp2;refine⟨⟨1,by omega,rfl,?_,trivial⟩,by simp [intOf]<;>omega⟩
     rw [H3.out,or_z0 d (by omega)]
     try simp
    ·go_wp2
     refine⟨⟨2,by omega,rfl,?_,trivial⟩,by simp [intOf]<;>omega⟩
     rw [H3.out,or_hi a d ha hd]
     try simp
   ·have hlt:¬(k:Int)<(ds.length:Int):=by omega
    obtain rfl:k=ds.length:=by omega
    rw [List.take_length,HVAL.out];obtain⟨p0,p1,_,_,pl⟩:=HB0.out.two;obtain⟨n,hn⟩:∃n,z.natAbs=n:=⟨_,rfl⟩;rw [hn]at hN ⊢;have HN:=zh hn;clear hn
    cases b
    ·have HS:Hid (z=(n:Int)):=zh (by have:=of_decide_eq_false HB.out;have:=HN.out;omega)
     by_cases hs:n<9223372036854775808
     ·have HV:Hid (small64 z= .tuple #[.int .i64 n,.bool true]):=zh (by unfold small64;rw [if_pos,HS.out];rw [HS.out];exact⟨by omega,by omega⟩)
      have hsI:(n:Int)<9223372036854775808:=by omega
      have hw:wrap64 (n:Int)=n:=by unfold wrap64;omega
      clear hs;go_wp2;go_returns;exact⟨congrArg Ending.returned HV.out.symm,HK.out⟩
     ·have HV:Hid (small64 z= .tuple #[.int .i64 0,.bool false]):=zh (by unfold small64;rw [if_neg];rintro⟨h1,h2⟩;have:=HS.out;omega)
      have hsI:¬(n:Int)<9223372036854775808:=by omega
      clear hs;go_wp2;go_returns;exact⟨congrArg Ending.returned HV.out.symm,HK.out⟩
    ·have HS:Hid (z= -(n:Int)):=zh (by have:=of_decide_eq_true HB.out;have:=HN.out;omega)
     by_cases hs:n≤9223372036854775808
     ·have HV:Hid (small64 z= .tuple #[.int .i64 (-(n:Int)),.bool true]):=zh (by unfold small64;rw [if_pos,HS.out];rw [HS.out];exact⟨by omega,by omega⟩)
      have hsI:(n:Int)≤9223372036854775808:=by omega
      have hw:wrap64 (-wrap64 (n:Int))= -(n:Int):=by unfold wrap64;omega
      clear hs;go_wp2;go_returns;exact⟨congrArg Ending.returned HV.out.symm,HK.out⟩
     ·have HV:Hid (small64 z= .tuple #[.int .i64 0,.bool false]):=zh (by unfold small64;rw [if_neg];rintro⟨h1,h2⟩;have:=HS.out;omega)
      have hsI:¬(n:Int)≤9223372036854775808:=by omega
      clear hs;go_wp2;go_returns;exact⟨congrArg Ending.returned HV.out.symm,HK.out⟩
def NewDg (P:List Nat→Prop)(w:World)(e:Ending)(w':World):Prop:=∃v ds,e= .returned v∧Keep NoS w w'∧IsDg w' v ds∧P ds
def OwnU (w:World)(base:Nat)(v:Value)(ds:List Nat):Prop:=w.ownsRow base U32 1 v ds.length (u32s ds)
theorem OwnU.keep {w w':World}{base:Nat}{v:Value}{l:List Nat}(h:OwnU w base v l)(k:Keep NoS w w'):OwnU w' base v l:=by
 obtain⟨hl,h | ⟨g,cap,cur,hv,hb,hg,hl',hm,hs,ht⟩⟩:=h
 ·exact ⟨hl,.inl h⟩
 ·exact ⟨hl,.inr ⟨g,cap,cur,hv,hb,by rw [k.block g (lt_of_heap hg) fun _ h=>h];exact hg,hl',hm,hs,ht⟩⟩
theorem OwnU.block {w:World}{base:Nat}{v:Value}{l:List Nat}(h:OwnU w base v l):∀k,v.ownBlock=some k→base≤k:=fun k hk=>(World.ownsRow.lt h k hk).1
theorem OwnU.len {w:World}{base:Nat}{v:Value}{l:List Nat}(h:OwnU w base v l):∃oa cap,v= .slice oa l.length cap:=by
 obtain⟨hl,h | ⟨g,cap,cur,hv,hb,hg,hl',hm,hs,ht⟩⟩:=h
 ·obtain ⟨rfl,h0⟩:=h
  exact⟨none,0,by rw [h0]⟩
 ·exact ⟨_,cap,hv⟩
theorem OwnU.dg {w:World}{base:Nat}{v:Value}{ds:List Nat}(h:OwnU w base v ds)(hd:∀d∈ds,d<4294967296):IsDg w v ds:=by
 obtain⟨hl,h | ⟨g,cap,cur,hv,hb,hg,hl',hm,hs,ht⟩⟩:=h
 ·obtain ⟨rfl,h0⟩:=h
  obtain rfl:ds= []:=List.eq_nil_of_length_eq_zero h0;exact dg_nil w
 ·refine ⟨_,cap,hv,hl',hm,hd,fun hne=>⟨g,0,rfl,lt_of_heap hg,fun i hi=> ?_⟩⟩
  rw [Nat.zero_add];refine cell_of_heap hg ?_;have h1:(cur.toList.take (ds.length*1))[i]? =(u32s ds)[i]? :=by rw [ht]
  rw [List.getElem?_take,if_pos (by omega)]at h1
  rw [List.getD_eq_getElem?_getD,List.getElem?_eq_getElem hi]
  simpa [u32s,hi]using h1
theorem app_u32 {w:World}{base:Nat}{v:Value}{l:List Nat}(hown:OwnU w base v l)(d:Nat){g:Nat}(h0:w.cell? ⟨g,0,none⟩=some (.int .u32 (d:Int)))(hl:l.length≤1000000)(hb:base≤w.heap.size):
  ∃v' w',(Builtin.append_ #[123,123] 123 #[v,.slice (some ⟨g,0,none⟩) 1 1]).run Tryz.prog w= .ok v' w'∧OwnU w' base v' (l++ [d])∧w.grownBy w' v.ownBlock:=by
 obtain⟨i0,hi0,hz0,hz1,hz2⟩:=info_parts infoU32;obtain⟨v',w',hr,ho,hg⟩:=app_run (P:=Tryz.prog) (w:=w) (ty:=123) Tryz.underlying123 hi0 hz0 hz1 hz2 rfl (by decide) base v l.length (u32s l) hown (some ⟨g,0,none⟩) 1 1 (u32s [d]) (by simp [u32s])
  (fun _=>⟨_,rfl,fun j u hj=>by
   rw [add_zero_off]
   rcases j with _ | j
   ·simp [u32s]at hj;rw [h0,←hj]
   ·simp [u32s]at hj⟩) (by intro u hu;obtain⟨x,_,rfl⟩:=List.mem_map.1 hu;rfl) (by unfold maxLen;omega) (by omega) hb
 refine⟨v',w',hr,?_,hg⟩;unfold OwnU;rw [List.length_append,show([d]:List Nat).length=1 from rfl,show u32s (l++ [d])=u32s l++u32s [d]from by simp [u32s]]
 exact ho
theorem made_u32 (w:World)(n:Nat)(hn:n≤1000000):∃w',(Instr.makeSlice 123 (.int .i64 0) (.int .i64 (n:Int))).run Tryz.prog w= .ok (.slice (some ⟨w.heap.size,0,none⟩) 0 n) w'∧
  OwnU w' w.heap.size (.slice (some ⟨w.heap.size,0,none⟩) 0 n) []∧Keep NoS w w':=by
 obtain⟨i0,hi0,hz0,hs0,hb0⟩:=info_parts infoU32;obtain⟨w2,hr2,ho2,hg2⟩:=run_make_own (P:=Tryz.prog) w w.heap.size 123 166 i0 (.int .u32 0) 1 Tryz.underlying123 hi0 hz0 hs0 .i64 .i64 n (by rw [hb0];omega) (by unfold maxLen;omega) (Nat.le_refl _)
 exact⟨w2,hr2,ho2,Keep.of_below (grown_keep hg2 w.heap.size (Nat.le_refl _) (by simp)) (Nat.le_refl _)⟩
theorem dval_take_any (ds:List Nat)(k:Nat):dval (ds.take (k+1))=dval (ds.take k)+4294967296^k*ds.getD k 0:=by
 rcases Nat.lt_or_ge k ds.length with h | h
 ·exact dval_take_succ ds k h
 ·rw [List.take_of_length_le (by omega),List.take_of_length_le h,List.getD_eq_getElem?_getD,List.getElem?_eq_none h];simp
structure PlusInv (a b os:List Nat)(k q:Nat):Prop where
 len:os.length=k
 lt:∀d∈os,d<4294967296
 car:q≤1
 val:dval os+4294967296^k*q=dval (a.take k)+dval (b.take k)
theorem PlusInv.step {a b os:List Nat}{k q:Nat}(h:PlusInv a b os k q)(ha:∀d∈a,d<4294967296)(hb:∀d∈b,d<4294967296):PlusInv a b (os++ [(q+a.getD k 0+b.getD k 0)%4294967296]) (k+1) ((q+a.getD k 0+b.getD k 0)/4294967296):=by
 have hx:=dg_get ha k;have hy:=dg_get hb k;have hq:=h.car;refine⟨by rw [List.length_append,h.len];rfl,fun d hd=> ?_,by omega,?_⟩
 ·rcases List.mem_append.1 hd with hd | hd
  ·exact h.lt d hd
  ·obtain rfl:d=_:=by simpa using hd
   omega
 ·rw [dval_append,h.len,dval_take_any,dval_take_any]
  have:=sum_step (x:=a.getD k 0) (y:=b.getD k 0) k rfl h.val;simp only [dval,Nat.mul_zero,Nat.add_zero];exact this
structure MinusInv (a b os:List Nat)(k c:Nat):Prop where
 len:os.length=k
 lt:∀d∈os,d<4294967296
 car:c≤1
 val:dval os+dval (b.take k)=dval (a.take k)+4294967296^k*c
theorem MinusInv.step {a b os:List Nat}{k c d c1:Nat}(h:MinusInv a b os k c)(hd:d<4294967296)(hc:c1≤1)(he:d+b.getD k 0+c=a.getD k 0+4294967296*c1):MinusInv a b (os++ [d]) (k+1) c1:=by
 refine⟨by rw [List.length_append,h.len];rfl,fun x hx=> ?_,hc,?_⟩
 ·rcases List.mem_append.1 hx with hx | hx
  ·exact h.lt x hx
  ·obtain rfl:x=d:=by simpa using hx
   exact hd
 ·rw [dval_append,h.len,dval_take_any,dval_take_any,Nat.pow_succ]
  simp only [dval,Nat.mul_zero,Nat.add_zero];have hv:=h.val;have e:4294967296^k*(d+b.getD k 0+c)=4294967296^k*(a.getD k 0+4294967296*c1):=by rw [he]
  rw [Nat.mul_add,Nat.mul_add,Nat.mul_add,←Nat.mul_assoc]at e;omega
theorem MinusInv.fin {a b os:List Nat}{c:Nat}(h:MinusInv a b os a.length c)(hl:b.length≤a.length)(hle:dval b≤dval a)(ha:∀d∈a,d<4294967296):dval os=dval a-dval b:=by
 have hv:=h.val;rw [List.take_length,List.take_of_length_le hl]at hv;have h1:=dval_lt os h.lt;rw [h.len]at h1;have h2:=h.car;have hc:c=0:=by
  rcases Nat.lt_or_ge 0 c with h' | h'
  ·obtain rfl:c=1:=by omega
   omega
  ·omega
 subst hc;omega
theorem longPlus_any (w:World)(va vb:Value)(al bl_:List Nat)(ha:IsDg w va al)(hb:IsDg w vb bl_)(hla:al.length≤10000)(hlb:bl_.length≤10000):
  Calls Tryz.prog 158 #[va,vb] w (NewDg (fun ds=>dval ds=dval al+dval bl_∧ds.length≤10001) w):=by
 have HA:=zh ha;have HB:=zh hb;obtain⟨oa,ca,rfl,hca,hma⟩:=ha.len;obtain⟨ob,cb,rfl,hcb,hmb⟩:=hb.len;clear ha hb;unfold maxLen at hma hmb;go_enter Tryz.func158,Tryz.ntmps158;go_upto_if 13 with fail
 go_cut [0,1] (fun s t wx=>∃xs ys:List Nat,∃ox cx oy cy,s= .slice ox xs.length cx∧t= .slice oy ys.length cy∧w=wx∧IsDg w (.slice ox xs.length cx) xs∧IsDg w (.slice oy ys.length cy) ys∧ys.length≤xs.length∧xs.length≤10000∧dval xs+dval ys=dval al+dval bl_)
 case first=>
  by_cases hl:al.length<bl_.length
  ·have e1:decide (al.length<bl_.length)=true:=decide_eq_true hl
   have e2:decide ((al.length:Int)<(bl_.length:Int))=true:=dec_t (by omega)
   go_wp2_with fail;go_meet;exact⟨bl_,al,_,_,_,_,rfl,rfl,rfl,HB.out,HA.out,by omega,by omega,by omega⟩
  ·have e1:decide (al.length<bl_.length)=false:=decide_eq_false hl
   have e2:decide ((al.length:Int)<(bl_.length:Int))=false:=dec_f (by omega)
   go_wp2_with fail;go_meet;exact⟨al,bl_,_,_,_,_,rfl,rfl,rfl,HA.out,HB.out,by omega,by omega,rfl⟩
 case rest=>
  obtain⟨xs,ys,ox,cx,oy,cy,rfl,rfl,rfl,hx,hy,hl1,hl2,hsum⟩:=hcut;have HX:=zh hx;have HY:=zh hy;have HSUM:=zh hsum;obtain⟨_,_,hvx,hcx,hmx⟩:=hx.len
  cases hvx
  obtain⟨_,_,hvy,hcy,hmy⟩:=hy.len
  cases hvy
  unfold maxLen at hmx hmy;obtain⟨w2,hr2,ho2,hk2⟩:=made_u32 w (xs.length+1) (by omega)
  rw [show((xs.length+1:Nat):Int)=(xs.length:Int)+1 from by omega]at hr2
  have HO2:=zh ho2;have HK2:=zh hk2;clear hx hy hsum ho2 hk2 HA HB;go_wp2;clear hr2;go_loopw [22,6,5] (fun s t u wr=>∃k:Nat,k≤xs.length∧s= .int .i64 k∧∃q:Nat,∃os,t= .int .u64 q∧Keep NoS w wr∧OwnU wr w.heap.size u os∧PlusInv xs ys os k q) (fun s _ _ _=>(xs.length-intOf s).toNat)
  case atStart=>exact⟨0,by omega,rfl,0,[],rfl,HK2.out,HO2.out,rfl,by simp,by omega,by simp [dval]⟩
  case round=>
   obtain⟨k,hk,rfl,q,os,rfl,hkr,hou,hinv⟩:=hrel;have HKR:=zh hkr;have HOU:=zh hou;have HIN:=zh hinv;have hol:=hinv.len;have hq:=hinv.car;obtain⟨oo,co,hu⟩:=hou.len;rw [hol]at hu;subst hu;have HOL:=zh hol;have hsz:=hkr.size
   by_cases hkl:k<xs.length
   ·have hlt:(k:Int)<(xs.length:Int):=by omega
    obtain⟨gx,px,hox,hgx,hcx⟩:=(HX.out.keep hkr).at (by omega)
    subst hox;have c0:=hcx k hkl;have bx:=dg_get HX.out.lt k;have by':=dg_get HY.out.lt k
    have HST:=zh (hinv.step HX.out.lt HY.out.lt);obtain⟨x,hxx⟩:∃x,xs.getD k 0=x:=⟨_,rfl⟩;obtain⟨y,hyy⟩:∃y,ys.getD k 0=y:=⟨_,rfl⟩;rw [hxx]at c0 bx HST;rw [hyy]at by' HST
    have HYY:=zh hyy;clear hxx hyy hkr hou hinv hol hcx;go_upto_if 34 with fail
    go_cut [6] (fun s wx=>s= .int .u64 ((q+x+y:Nat):Int)∧wr=wx)
    case first=>
     by_cases hky:k<ys.length
     ·have hlt2:(k:Int)<(ys.length:Int):=by omega
      have e2:decide ((k:Int)<(ys.length:Int))=true:=dec_t hlt2;obtain⟨gy,py,hoy,hgy,hcy⟩:=(HY.out.keep HKR.out).at (by omega)
      subst hoy;have c1:=hcy k hky;rw [HYY.out]at c1;clear hcy;go_wp2_with fail;go_meet;exact⟨by simp,rfl⟩
     ·have hlt2:¬(k:Int)<(ys.length:Int):=by omega
      have e2:decide ((k:Int)<(ys.length:Int))=false:=dec_f hlt2;have hy0:y=0:=by rw [← HYY.out,List.getD_eq_getElem?_getD,List.getElem?_eq_none (by omega)];rfl
      have HY0:=zh hy0;clear hy0;go_wp2_with fail;go_meet;exact⟨by rw [HY0.out];simp,rfl⟩
    case rest=>
     obtain⟨rfl,rfl⟩:=hcut;have hsm:q+x+y<18446744073709551616:=by omega
     obtain⟨s,hs⟩:∃s,q+x+y=s:=⟨_,rfl⟩;rw [hs]at HST hsm ⊢;clear hs;have k1:Keep NoS wr (wr.alloc (.cells #[.int .u32 ((s:Int)%4294967296)] U32)):=kp;obtain⟨v',w',hr,ho',hg⟩:=app_u32 (HOU.out.keep k1) (s%4294967296) (g:=wr.heap.size) (by simp) (by rw [HOL.out];omega) (by simp;omega)
     have HO':=zh ho';have HKW:Hid (Keep NoS w w'):=zh ((HKR.out.both k1).grown hg fun k hk=>HOU.out.block k hk)
     obtain⟨ot',ct',hv'⟩:=ho'.len;rw [List.length_append,HOL.out,List.length_singleton]at hv';subst hv';clear ho' hg k1;go_wp2_with (at_builtin;refine wpList_app_run _ _ 123 _ _ rfl rfl rfl rfl hr ?_);go_roundw
     case rel=>exact⟨k+1,by omega,by go_num,s/4294967296,_,by simp,HKW.out,HO'.out,HST.out⟩
     case measure=>simp [intOf];omega
   ·have hlt:¬(k:Int)<(xs.length:Int):=by omega
    obtain rfl:k=xs.length:=by omega
    have HV:Hid (dval (os++ [q])=dval al+dval bl_):=zh (by
     have:=hinv.val;rw [List.take_length,List.take_of_length_le hl1]at this;rw [dval_append,hol,←HSUM.out];simp only [dval,Nat.mul_zero,Nat.add_zero];exact this)
    have hlt2:∀d∈os++ [q],d<4294967296:=fun d hd=>by
     rcases List.mem_append.1 hd with hd | hd
     ·exact hinv.lt d hd
     ·obtain rfl:d=q:=by simpa using hd
      omega
    have HLT2:=zh hlt2;have k1:Keep NoS wr (wr.alloc (.cells #[.int .u32 (q:Int)] U32)):=kp;obtain⟨v',w',hr,ho',hg⟩:=app_u32 (HOU.out.keep k1) q (g:=wr.heap.size) (by simp) (by rw [HOL.out];omega) (by simp;omega)
    have HO':=zh ho';have HKW:Hid (Keep NoS w w'):=zh ((HKR.out.both k1).grown hg fun k hk=>HOU.out.block k hk)
    have hqq:(q:Int)%4294967296=(q:Int):=by omega
    clear ho' hg k1 hkr hou hinv hlt2;go_wp2_with (at_builtin;refine wpList_app_run _ _ 123 _ _ rfl rfl rfl rfl hr ?_);go_ret;exact⟨_,_,rfl,HKW.out,HO'.out.dg HLT2.out,HV.out,by rw [List.length_append,HOL.out];simp;omega⟩
theorem longMinus_any (w:World)(va vb:Value)(xs ys:List Nat)(ha:IsDg w va xs)(hb:IsDg w vb ys)(hla:xs.length≤10001)(hlb:ys.length≤xs.length)(hle:dval ys≤dval xs):
  Calls Tryz.prog 159 #[va,vb] w (NewDg (fun ds=>dval ds=dval xs-dval ys∧ds.length≤10001) w):=by
 have HX:=zh ha;have HY:=zh hb;have HLE:=zh hle;obtain⟨ox,cx,rfl,hcx,hmx⟩:=ha.len;obtain⟨oy,cy,rfl,hcy,hmy⟩:=hb.len;clear ha hb hle;unfold maxLen at hmx hmy;obtain⟨w2,hr2,ho2,hk2⟩:=made_u32 w xs.length (by omega)
 have HO2:=zh ho2;have HK2:=zh hk2;clear ho2 hk2;go_enter Tryz.func159,Tryz.ntmps159;go_wp2;clear hr2;go_loopw [15,6,5] (fun s t u wr=>∃k:Nat,k≤xs.length∧s= .int .i64 k∧∃q:Nat,∃os,t= .int .i64 q∧Keep NoS w wr∧OwnU wr w.heap.size u os∧MinusInv xs ys os k q) (fun s _ _ _=>(xs.length-intOf s).toNat)
 case atStart=>exact⟨0,by omega,rfl,0,[],rfl,HK2.out,HO2.out,rfl,by simp,by omega,by simp [dval]⟩
 case round=>
  obtain⟨k,hk,rfl,q,os,rfl,hkr,hou,hinv⟩:=hrel;have HKR:=zh hkr;have HOU:=zh hou;have HIN:=zh hinv;have hol:=hinv.len;have hq:=hinv.car;obtain⟨oo,co,hu⟩:=hou.len;rw [hol]at hu;subst hu;have HOL:=zh hol;have hsz:=hkr.size
  by_cases hkl:k<xs.length
  ·have hlt:(k:Int)<(xs.length:Int):=by omega
   obtain⟨gx,px,hox,hgx,hcx⟩:=(HX.out.keep hkr).at (by omega)
   subst hox;have c0:=hcx k hkl;have bx:=dg_get HX.out.lt k;have by':=dg_get HY.out.lt k
   have HST:Hid (∀d c1,d<4294967296→c1≤1→d+ys.getD k 0+q=xs.getD k 0+4294967296*c1→MinusInv xs ys (os++ [d]) (k+1) c1):=zh fun d c1 h1 h2 h3=>hinv.step h1 h2 h3
   obtain⟨x,hxx⟩:∃x,xs.getD k 0=x:=⟨_,rfl⟩;obtain⟨y,hyy⟩:∃y,ys.getD k 0=y:=⟨_,rfl⟩;rw [hxx]at c0 bx HST;rw [hyy]at by' HST
   have HYY:=zh hyy;clear hxx hyy hkr hou hinv hol hcx;go_upto_if 27 with fail
   go_cut [9] (fun s wx=>s= .int .i64 ((x:Int)-q-y)∧wr=wx)
   case first=>
    by_cases hky:k<ys.length
    ·have hlt2:(k:Int)<(ys.length:Int):=by omega
     have e2:decide ((k:Int)<(ys.length:Int))=true:=dec_t hlt2;obtain⟨gy,py,hoy,hgy,hcy⟩:=(HY.out.keep HKR.out).at (by omega)
     subst hoy;have c1:=hcy k hky;rw [HYY.out]at c1;clear hcy;go_wp2_with fail;go_meet;exact⟨rfl,rfl⟩
    ·have hlt2:¬(k:Int)<(ys.length:Int):=by omega
     have e2:decide ((k:Int)<(ys.length:Int))=false:=dec_f hlt2;have hy0:y=0:=by rw [← HYY.out,List.getD_eq_getElem?_getD,List.getElem?_eq_none (by omega)];rfl
     have HY0:=zh hy0;clear hy0;go_wp2_with fail;go_meet;exact⟨by rw [HY0.out];simp,rfl⟩
   case rest=>
    obtain⟨rfl,rfl⟩:=hcut;obtain⟨D,hD⟩:∃D:Int,(x:Int)-q-y=D:=⟨_,rfl⟩;rw [hD];obtain⟨d,c1,hd,hc1,he,hw⟩:∃d c1:Nat,d<4294967296∧c1≤1∧d+y+q=x+4294967296*c1∧(D<0∧c1=1∧D+4294967296=(d:Int)∨¬D<0∧c1=0∧D=(d:Int)):=by
     by_cases h:D<0
     ·exact ⟨(D+4294967296).toNat,1,by omega,by omega,by omega,.inl ⟨h,rfl,by omega⟩⟩
     ·exact ⟨D.toNat,0,by omega,by omega,by omega,.inr ⟨h,rfl,by omega⟩⟩
    have HST':=zh (HST.out d c1 hd hc1 he);clear hD he;go_upto_if 36 with fail
    go_cut [9,6] (fun s t wx=>s= .int .i64 (d:Int)∧t= .int .i64 (c1:Int)∧wr=wx)
    case first=>
     rcases hw with⟨h1,rfl,h2⟩ | ⟨h1,rfl,h2⟩
     ·have HE:=zh h2
      clear h2;go_wp2_with fail;go_meet;exact⟨by rw [HE.out];try rw [show wrap64 (d:Int)=(d:Int)from by unfold wrap64;omega],rfl,rfl⟩
     ·have HE:=zh h2
      clear h2;go_wp2_with fail;go_meet;exact⟨by rw [HE.out];try rw [show wrap64 (d:Int)=(d:Int)from by unfold wrap64;omega],rfl,rfl⟩
    case rest=>
     obtain⟨rfl,rfl,rfl⟩:=hcut;have hdd:(d:Int)%4294967296=(d:Int):=by omega
     have k1:Keep NoS wr (wr.alloc (.cells #[.int .u32 (d:Int)] U32)):=kp;obtain⟨v',w',hr,ho',hg⟩:=app_u32 (HOU.out.keep k1) d (g:=wr.heap.size) (by simp) (by rw [HOL.out];omega) (by simp;omega)
     have HO':=zh ho';have HKW:Hid (Keep NoS w w'):=zh ((HKR.out.both k1).grown hg fun k hk=>HOU.out.block k hk)
     obtain⟨ot',ct',hv'⟩:=ho'.len;rw [List.length_append,HOL.out,List.length_singleton]at hv';subst hv';clear ho' hg k1 hw;go_wp2_with (at_builtin;refine wpList_app_run _ _ 123 _ _ rfl rfl rfl rfl hr ?_);go_roundw
     case rel=>exact⟨k+1,by omega,by go_num,c1,_,rfl,HKW.out,HO'.out,HST'.out⟩
     case measure=>simp [intOf];omega
  ·have hlt:¬(k:Int)<(xs.length:Int):=by omega
   obtain rfl:k=xs.length:=by omega
   have HV:=zh (hinv.fin hlb HLE.out HX.out.lt);go_wp2;go_ret;exact⟨_,os,rfl,HKR.out,HOU.out.dg HIN.out.lt,HV.out,by rw [HOL.out];omega⟩
theorem sgn_of (z:Int):sgn (decide (z<0)) z.natAbs=z:=by
 by_cases h:z<0
 ·rw [decide_eq_true h];simp [sgn];omega
 ·rw [decide_eq_false h];simp [sgn];omega
theorem sum_same {x y:Int}(h:decide (x<0)=decide (y<0)):sgn (decide (x<0)) (x.natAbs+y.natAbs)=x+y:=by
 rw [add_same h,sgn_of,sgn_of]
theorem sum_more {x y:Int}(h:decide (x<0)≠decide (y<0))(hl:y.natAbs≤x.natAbs):sgn (decide (x<0)) (x.natAbs-y.natAbs)=x+y:=by
 rw [add_more h hl,sgn_of,sgn_of]
theorem sum_less {x y:Int}(h:decide (x<0)≠decide (y<0))(hl:x.natAbs≤y.natAbs):sgn (decide (y<0)) (y.natAbs-x.natAbs)=x+y:=by
 rw [add_less h hl,sgn_of,sgn_of]
theorem digN_len_le {x y:Int}(h:y.natAbs≤x.natAbs):(digN y.natAbs).length≤(digN x.natAbs).length:=dl_mono h
theorem longSum_any (w:World)(x y:Int)(hx:dl x≤9000)(hy:dl y≤9000):
  Calls Tryz.prog 131 #[longV x,longV y] w fun e w'=>e= .returned (longV (x+y))∧Keep NoS w w':=by
 have HX:=zh hx;have HY:=zh hy;have LX:=fun w b=>zh (limbs_of w x b (by omega))
 have LY:=fun w b=>zh (limbs_of w y b (by omega))
 obtain⟨Z,hZ⟩:∃Z,x+y=Z:=⟨_,rfl⟩;have HZ:=zh hZ;rw [hZ,longV_form x,longV_form y];obtain⟨S,hS⟩:∃S,bytesOf (digN x.natAbs)=S:=⟨_,rfl⟩;obtain⟨T,hT⟩:∃S,bytesOf (digN y.natAbs)=S:=⟨_,rfl⟩;rw [hS]at LX ⊢;rw [hT]at LY ⊢;obtain⟨bx,hbx⟩:∃b,decide (x<0)=b:=⟨_,rfl⟩;obtain⟨by',hby⟩:∃b,decide (y<0)=b:=⟨_,rfl⟩
 rw [hbx,hby];have HBX:=zh hbx;have HBY:=zh hby;clear hx hy hS hT hbx hby hZ;go_enter Tryz.func131,Tryz.ntmps131;go_wp2;have B0:Blk (((w.alloc (.cells #[.bool bx,.string S] 91)).alloc (.cells #[.bool by',.string T] 91)).alloc (.cells #[.bool false,.string ⟨#[]⟩] 91)) w.heap.size #[.bool bx,.string S]:=kc
 have B1:Blk (((w.alloc (.cells #[.bool bx,.string S] 91)).alloc (.cells #[.bool by',.string T] 91)).alloc (.cells #[.bool false,.string ⟨#[]⟩] 91)) (w.heap.size+1) #[.bool by',.string T]:=kc
 have B2:Blk (((w.alloc (.cells #[.bool bx,.string S] 91)).alloc (.cells #[.bool by',.string T] 91)).alloc (.cells #[.bool false,.string ⟨#[]⟩] 91)) (w.heap.size+1+1) #[.bool false,.string ⟨#[]⟩]:=kc
 have K0:Hid (Keep NoS w (((w.alloc (.cells #[.bool bx,.string S] 91)).alloc (.cells #[.bool by',.string T] 91)).alloc (.cells #[.bool false,.string ⟨#[]⟩] 91))):=zh kp
 generalize ((w.alloc (.cells #[.bool bx,.string S] 91)).alloc (.cells #[.bool by',.string T] 91)).alloc (.cells #[.bool false,.string ⟨#[]⟩] 91)=w0 at*
 have HB0:=zh B0;have HB1:=zh B1;have HB2:=zh B2;clear B0 B1 B2;refine wp_region_by (fun w'=>Keep NoS w0 w') [] [([0,2],1),([],3)] [4,5] (by kernel_rfl) (by kernel_rfl) kp ?_
 intro X W hne hF hcl;have HCL:=zh hcl;have hx0:=fun x=>(HB0.out.keep (hF x)).two
 have hx1:=fun x=>(HB1.out.keep (hF x)).two
 clear hF hcl;simp only [wpPlan,pickOps,zl0,zl1,zl2,clsOf,Bool.false_eq_true,if_false]
 (repeat(quiet_step (fail)));refine wpQuiet_nil ?_
 refine wpAt rfl rfl fun K hK=> ?_
 go_simp;refine(LX _ _).out.mono ?_;rintro e w1 ⟨v1,rfl,hd1,hk1⟩;have k1:Keep NoS w0 w1:=Keep.trans kp hk1 fun _ _ _ h=>h
 refine hK _ _ ⟨fun _=>HCL.out _ k1,?_⟩
 clear hK K hk1
 (repeat(quiet_step (fail)));refine wpQuiet_nil ?_
 refine wpAt rfl rfl fun K hK=> ?_
 go_simp;refine(LY _ _).out.mono ?_;rintro e w2 ⟨v2,rfl,hd2,hk2⟩;have k2:=k1.both hk2;refine hK _ _ ⟨fun _=>HCL.out _ k2,?_⟩
 have HD1:=zh (hd1.keep hk2);have HD2:=zh hd2;obtain⟨o1,c1,rfl,_⟩:=hd1.len;obtain⟨o2,c2,rfl,_⟩:=hd2.len;clear hK K hk2 k1 hd1 hd2
 (repeat(quiet_step (fail)));refine wpQuiet_nil ?_
 refine NoPanic.normal ?_;have HB0:=zh (HB0.out.keep k2);have HB1:=zh (HB1.out.keep k2);have HB2:=zh (HB2.out.keep k2);have K2:=zh (K0.out.both k2);have hdx:(digN x.natAbs).length≤9000:=HX.out;have hdy:(digN y.natAbs).length≤9000:=HY.out;clear hx0 hx1 HCL k2 LX LY
 by_cases hs:bx=by'
 ·have HV:Hid (sgn bx (x.natAbs+y.natAbs)=Z):=zh (by rw [← HZ.out,←HBX.out];exact sum_same (by rw [HBX.out,HBY.out,hs]))
  have e1:(bx==by')=true:=by rw [hs];simp
  have HS:=zh hs;clear hs;obtain⟨p0,p1,_,_,pl⟩:=HB0.out.two;obtain⟨q0,q1,_,_,ql⟩:=HB1.out.two;go_wp2;clear p0 p1 pl q0 q1 ql;refine wp_region_by (fun w'=>Keep NoS w2 w') [6] [([0,1,2,3],4),([],5),([],6)] [] (by kernel_rfl) (by kernel_rfl) kp ?_
  intro X W hne hF hcl;have HCL:=zh hcl;have hx0:=fun x=>(HB0.out.keep (hF x)).two
  clear hF hcl;simp only [wpPlan,pickOps,zl0,zl1,zl2,clsOf,Bool.false_eq_true,if_false]
  (repeat(quiet_step (fail)));refine wpQuiet_nil ?_
  refine wpAt rfl rfl fun K hK=> ?_
  go_simp;refine(longPlus_any _ _ _ _ _ (HD1.out.keep kp) (HD2.out.keep kp) (by omega) (by omega)).mono ?_
  rintro e w3 ⟨v3,ds,rfl,hk3,hd3,hv3,hl3⟩;have k3:Keep NoS w2 w3:=Keep.trans kp hk3 fun _ _ _ h=>h
  refine hK _ _ ⟨fun _=>HCL.out _ k3,?_⟩
  clear hK K hk3
  (repeat(quiet_step (fail)));refine wpQuiet_nil ?_
  refine wpAt rfl rfl fun K hK=> ?_
  go_simp;refine(made_any _ bx _ _ hd3 (by omega)).mono ?_
  rintro e w4 ⟨rfl,hk4⟩;have k4:=k3.both hk4;rw [hv3,digN_val,digN_val,HV.out];refine hK _ _ ⟨fun _=>HCL.out _ k4,?_⟩
  have HB2:=zh (HB2.out.keep k4);have HK:=zh (K2.out.both k4);clear hK K k4 hx0 k3 hd3 hv3 hl3 hk4 HCL;obtain⟨r0,r1,f0,f1,rl⟩:=HB2.out.two;rw [longV_form]
  (repeat(quiet_step (fail)));refine wpQuiet_nil ?_
  refine wpAt rfl rfl fun K hK=> ?_
  go_simp;refine hK _ _ ⟨fun h=>(by simp at h),?_⟩
  clear hK K
  (repeat(quiet_step (fail)));refine wpQuiet_nil ?_
  refine NoPanic.normal ?_;go_wp2;refine bodyPost_ret (by simp [results,Tryz.results131,go_sem,r0,r1,rl];rfl) rfl ?_
  exact⟨rfl,kp⟩
 ·have hne':decide (x<0)≠decide (y<0):=by rw [HBX.out,HBY.out];exact hs
  have e1:(bx==by')=false:=by rw [beq_eq_false_iff_ne];exact hs
  have HNE:=zh hne';clear hs hne';obtain⟨p0,p1,_,_,pl⟩:=HB0.out.two;obtain⟨q0,q1,_,_,ql⟩:=HB1.out.two;go_wp2_with fail;refine(longcmp_any _ _ _ _ _ HD1.out HD2.out (digN_noEnd _) (digN_noEnd _) (by omega) (by omega)).mono ?_
  rintro e w2' ⟨rfl,n2,rfl⟩;rw [digN_val,digN_val];have kd:=keep_drewN w2 n2;have HB0:=zh (HB0.out.keep kd);have HB1:=zh (HB1.out.keep kd);have HB2:=zh (HB2.out.keep kd);have K2:=zh (K2.out.both kd);have HD1:=zh (HD1.out.keep kd);have HD2:=zh (HD2.out.keep kd);generalize w2.drewN n2=w2 at *;clear kd p0 p1 pl q0 q1 ql
  by_cases hl:y.natAbs≤x.natAbs
  ·have HV:Hid (sgn bx (x.natAbs-y.natAbs)=Z):=zh (by rw [← HZ.out,←HBX.out];exact sum_more HNE.out hl)
   have e2:decide (0≤cmpN x.natAbs y.natAbs)=true:=by rw [cmpN_ge];exact decide_eq_true hl
   have e3:0≤cmpN x.natAbs y.natAbs:=of_decide_eq_true e2;have hll:=digN_len_le hl;generalize cmpN x.natAbs y.natAbs=C at *;obtain⟨p0,p1,_,_,pl⟩:=HB0.out.two;obtain⟨q0,q1,_,_,ql⟩:=HB1.out.two;go_wp2;clear p0 p1 pl q0 q1 ql;refine wp_region_by (fun w'=>Keep NoS w2 w') [6] [([0,1,2,3],4),([],5),([],6)] [] (by kernel_rfl) (by kernel_rfl) kp ?_
   intro X W hne hF hcl;have HCL:=zh hcl;have hx0:=fun x=>(HB0.out.keep (hF x)).two
   clear hF hcl;simp only [wpPlan,pickOps,zl0,zl1,zl2,clsOf,Bool.false_eq_true,if_false]
   (repeat(quiet_step (fail)));refine wpQuiet_nil ?_
   refine wpAt rfl rfl fun K hK=> ?_
   go_simp;refine(longMinus_any _ _ _ _ _ (HD1.out.keep kp) (HD2.out.keep kp) (by omega) (by omega) (by rw [digN_val,digN_val];exact hl)).mono ?_
   rintro e w3 ⟨v3,ds,rfl,hk3,hd3,hv3,hl3⟩;have k3:Keep NoS w2 w3:=Keep.trans kp hk3 fun _ _ _ h=>h
   refine hK _ _ ⟨fun _=>HCL.out _ k3,?_⟩
   clear hK K hk3
   (repeat(quiet_step (fail)));refine wpQuiet_nil ?_
   refine wpAt rfl rfl fun K hK=> ?_
   go_simp;refine(made_any _ bx _ _ hd3 (by omega)).mono ?_
   rintro e w4 ⟨rfl,hk4⟩;have k4:=k3.both hk4;rw [hv3,digN_val,digN_val,HV.out];refine hK _ _ ⟨fun _=>HCL.out _ k4,?_⟩
   have HB2:=zh (HB2.out.keep k4);have HK:=zh (K2.out.both k4);clear hK K k4 hx0 k3 hd3 hv3 hl3 hk4 HCL;obtain⟨r0,r1,f0,f1,rl⟩:=HB2.out.two;rw [longV_form]
   (repeat(quiet_step (fail)));refine wpQuiet_nil ?_
   refine wpAt rfl rfl fun K hK=> ?_
   go_simp;refine hK _ _ ⟨fun h=>(by simp at h),?_⟩
   clear hK K
   (repeat(quiet_step (fail)));refine wpQuiet_nil ?_
   refine NoPanic.normal ?_;go_wp2;refine bodyPost_ret (by simp [results,Tryz.results131,go_sem,r0,r1,rl];rfl) rfl ?_
   exact⟨rfl,kp⟩
  ·have HV:Hid (sgn by' (y.natAbs-x.natAbs)=Z):=zh (by rw [← HZ.out,←HBY.out];exact sum_less HNE.out (by omega))
   have e2:decide (0≤cmpN x.natAbs y.natAbs)=false:=by rw [cmpN_ge];exact decide_eq_false hl
   have e3:¬0≤cmpN x.natAbs y.natAbs:=of_decide_eq_false e2;have hll:=digN_len_le (x:=y) (y:=x) (by omega)
   have hl':x.natAbs≤y.natAbs:=by omega
   generalize cmpN x.natAbs y.natAbs=C at *;obtain⟨p0,p1,_,_,pl⟩:=HB0.out.two;obtain⟨q0,q1,_,_,ql⟩:=HB1.out.two;go_wp2;clear p0 p1 pl q0 q1 ql;refine wp_region_by (fun w'=>Keep NoS w2 w') [6] [([0,1,2,3],4),([],5),([],6)] [] (by kernel_rfl) (by kernel_rfl) kp ?_
   intro X W hne hF hcl;have HCL:=zh hcl;have hx0:=fun x=>(HB1.out.keep (hF x)).two
   clear hF hcl;simp only [wpPlan,pickOps,zl0,zl1,zl2,clsOf,Bool.false_eq_true,if_false]
   (repeat(quiet_step (fail)));refine wpQuiet_nil ?_
   refine wpAt rfl rfl fun K hK=> ?_
   go_simp;refine(longMinus_any _ _ _ _ _ (HD2.out.keep kp) (HD1.out.keep kp) (by omega) (by omega) (by rw [digN_val,digN_val];exact hl')).mono ?_
   rintro e w3 ⟨v3,ds,rfl,hk3,hd3,hv3,hl3⟩;have k3:Keep NoS w2 w3:=Keep.trans kp hk3 fun _ _ _ h=>h
   refine hK _ _ ⟨fun _=>HCL.out _ k3,?_⟩
   clear hK K hk3
   (repeat(quiet_step (fail)));refine wpQuiet_nil ?_
   refine wpAt rfl rfl fun K hK=> ?_
   go_simp;refine(made_any _ by' _ _ hd3 (by omega)).mono ?_
   rintro e w4 ⟨rfl,hk4⟩;have k4:=k3.both hk4;rw [hv3,digN_val,digN_val,HV.out];refine hK _ _ ⟨fun _=>HCL.out _ k4,?_⟩
   have HB2:=zh (HB2.out.keep k4);have HK:=zh (K2.out.both k4);clear hK K k4 hx0 k3 hd3 hv3 hl3 hk4 HCL;obtain⟨r0,r1,f0,f1,rl⟩:=HB2.out.two;rw [longV_form]
   (repeat(quiet_step (fail)));refine wpQuiet_nil ?_
   refine wpAt rfl rfl fun K hK=> ?_
   go_simp;refine hK _ _ ⟨fun h=>(by simp at h),?_⟩
   clear hK K
   (repeat(quiet_step (fail)));refine wpQuiet_nil ?_
   refine NoPanic.normal ?_;go_wp2;refine bodyPost_ret (by simp [results,Tryz.results131,go_sem,r0,r1,rl];rfl) rfl ?_
   exact⟨rfl,kp⟩
theorem longAdd_any (w:World)(x y:Int)(hx:dl x≤9000)(hy:dl y≤9000):
  Calls Tryz.prog 120 #[longV x,longV y] w fun e w'=>e= .returned (.tuple #[longV (limZ (x+y)),.int .i64 (limC (x+y))])∧Keep NoS w w':=by
 have SM:=fun w=>zh (longSum_any w x y hx hy)
 have LM:=fun w=>zh (longLimited_any w (x+y) (by have:=dl_add x y 9000 hx hy;omega))
 rw [longV_form (limZ (x+y))]at LM;rw [longV_form x,longV_form y]at SM ⊢;rw [longV_form (limZ (x+y))];generalize decide (x<0)=b at *;generalize bytesOf (digN x.natAbs)=S at *;generalize decide (y<0)=c at *;generalize bytesOf (digN y.natAbs)=T at *;generalize decide (limZ (x+y)<0)=d at *;generalize bytesOf (digN (limZ (x+y)).natAbs)=U at *;generalize limC (x+y)=E at *;generalize longV (x+y)=V at *;clear hx hy;go_enter Tryz.func120,Tryz.ntmps120;go_wp2_with fail;refine(SM _).out.mono ?_;rintro e w1 ⟨rfl,hk1⟩;have B2:Blk w1 (w.heap.size+1+1) #[.bool false,.string ⟨#[]⟩]:=Blk.keep kc hk1;have K1:Hid (Keep NoS w w1):=zh (Keep.both kp hk1);have HB2:=zh B2;clear B2 hk1;go_wp2_with fail;refine(LM _).out.mono ?_;rintro e w2 ⟨rfl,hk2⟩;obtain⟨p0,p1,f0,f1,pl⟩:=(HB2.out.keep hk2).two;have HK:=zh (K1.out.both hk2);clear hk2;go_wp2;refine bodyPost_ret (by simp [results,Tryz.results120,go_sem,p0,p1,pl];rfl) rfl ?_
 exact⟨rfl,kp⟩
theorem longTimes_any (w:World)(va vb:Value)(ds es:List Nat)(ha:IsDg w va ds)(hb:IsDg w vb es)(hla:ds.length≤10000)(hlb:es.length≤10000):
  Calls Tryz.prog 141 #[va,vb] w (NewDg (fun os=>dval os=dval ds*dval es∧os.length=ds.length+es.length) w):=by
 have HX:=zh ha;have HY:=zh hb;obtain⟨ox,cx,rfl,hcx,hmx⟩:=ha.len;obtain⟨oy,cy,rfl,hcy,hmy⟩:=hb.len;clear ha hb;unfold maxLen at hmx hmy;obtain⟨i0,hi0,hz0,hs0,hb0⟩:=info_parts infoU32;obtain⟨w2,hr2,ho2,hg2⟩:=run_make_full (P:=Tryz.prog) w w.heap.size 123 166 i0 (.int .u32 0) 1 Tryz.underlying123 hi0 hz0 hs0 .i64 .i64 (ds.length+es.length) (by rw [hb0];omega) (by unfold maxLen;omega) (by simp)
 rw [show((ds.length+es.length:Nat):Int)=(ds.length:Int)+(es.length:Int)from by omega]at hr2
 obtain⟨go,hgo⟩:∃go,w.heap.size=go:=⟨_,rfl⟩;rw [hgo]at hr2 ho2;have P2:DigA w2 go (ds.length+es.length) (fun _=>0):=arr_of_own ho2 fun i hi=>made_get rfl _ i hi
 have L2:Keep NoS w w2:=Keep.of_below (grown_keep hg2 w.heap.size (by simp) (by simp)) (by simp)
 have HP2:=zh P2;have HL2:=zh L2;have HGO:=zh hgo;clear ho2 hg2 P2 L2 hgo;go_enter Tryz.func141,Tryz.ntmps141;go_wp2;clear hr2;go_loopw [19] (fun s wr=>∃i:Nat,i≤ds.length∧s= .int .i64 i∧Keep NoS w wr∧∃f,DigA wr go (ds.length+es.length) f∧MulRow (fun p=>ds.getD p 0) (fun p=>es.getD p 0) ds.length es.length i f) (fun s _=>(ds.length-intOf s).toNat)
 case atStart=>exact⟨0,by omega,rfl,HL2.out,fun _=>0,HP2.out,fun _ _=>by omega,fun _ _ _=>rfl,by
  have:=dv_pad (f:=fun _=>0) (n:=0) (ds.length+es.length) (fun _ _ _=>rfl)
  rw [Nat.zero_add]at this;rw [this];simp [dv]⟩
 case round=>
  obtain⟨i,hi,rfl,hkp,f,har,hrow⟩:=hrel;have HKP:=zh hkp;have HAR:=zh har;have HRO:=zh hrow;clear har hrow
  by_cases hil:i<ds.length
  ·have hlt:(i:Int)<(ds.length:Int):=by omega
   obtain⟨gx,px,hox,hgx,hcx⟩:=(HX.out.keep hkp).at (by omega)
   subst hox;have ca:=hcx i hil;have ba:=dg_get HX.out.lt i;clear hcx hkp;have HCO:=zh HRO.out.start;clear HRO;obtain⟨w3,rfl⟩:∃W:World,W=wr:=⟨_,rfl⟩;generalize hX:(fun p=>ds.getD p 0)=X at*
   have hXi:ds.getD i 0=X i:=by rw [← hX]
   rw [hXi]at ca ba;have HXX:=zh hX;clear hX hXi;generalize hx:X i=xi at ca ba;have HXI:=zh hx;clear hx;go_wp2;clear ca;have bxi:(xi:Int)<4294967296:=by omega
   go_loopw [26,8] (fun s t wr=>∃j:Nat,j≤es.length∧s= .int .i64 j∧Keep NoS w wr∧∃q:Nat,∃f,t= .int .u64 q∧DigA wr go (ds.length+es.length) f∧MulCol X (fun p=>es.getD p 0) ds.length es.length i j q f) (fun s _ _=>(es.length-intOf s).toNat)
   case atStart=>exact⟨0,by omega,rfl,HKP.out,0,f,rfl,HAR.out,HCO.out⟩
   case round=>
    obtain⟨j,hj,rfl,hkq,q,f2,rfl,har,hcol⟩:=hrel;have HKQ:=zh hkq;have HA2:=zh har;have HC2:=zh hcol;have hgo2:=har.lt;have hfree:=har.free;have bq:(q:Int)<4294967296:=by have:=hcol.qlt;omega
    by_cases hjl:j<es.length
    ·have hltj:(j:Int)<(es.length:Int):=by omega
     obtain⟨gy,py,hoy,hgy,hcy⟩:=(HY.out.keep hkq).at (by omega)
     subst hoy;have cb:=hcy j hjl;have bb:=dg_get HY.out.lt j;have co:=har.cell (i:=i+j) (by omega)
     have bo:=hcol.lt (i+j) (by omega)
     have fij:=hfree (i+j);have hst:∀d q1,d=(q+(xi*es.getD j 0+f2 (i+j)))%4294967296→q1=(q+(xi*es.getD j 0+f2 (i+j)))/4294967296→MulCol X (fun p=>es.getD p 0) ds.length es.length i (j+1) q1 fun p=>if p=i+j then d else f2 p:=fun d q1 h1 h2=>
      hcol.step hil hjl (by rw [HXI.out];exact ba) bb (by rw [HXI.out];exact h1) (by rw [HXI.out];exact h2)
     have HST:=zh hst;clear hcy hkq har hcol hst hfree;generalize es.getD j 0=b at *;generalize f2 (i+j)=o at *;obtain⟨hm3,hm2⟩:=mul_ltI ba bb;have hix:(i:Int)+(j:Int)<(ds.length:Int)+(es.length:Int):=by omega
     go_wp2;go_roundw
     case rel=>
      exact⟨j+1,by omega,by go_num,HKQ.out.setCell _ (fun h=>absurd h (by have:=HGO.out;omega)),(q+(xi*b+o))/4294967296,_,congrArg (Value.int .u64) (by rw [← Int.natCast_mul];omega),
       DigA.set HA2.out (i+j) ((q+(xi*b+o))%4294967296) (congrArg (Value.int .u32) (by rw [← Int.natCast_mul];omega)),HST.out _ _ rfl rfl⟩
     case measure=>simp [intOf];omega
    ·have hltj:¬(j:Int)<(es.length:Int):=by omega
     obtain rfl:j=es.length:=by omega
     have co:=har.cell (i:=i+es.length) (by omega)
     have fij:=hfree (i+es.length);have HFI:=zh (hcol.fin hil);clear hkq har hcol hfree;generalize f2 (i+es.length)=o at co;have hix:(i:Int)+(es.length:Int)<(ds.length:Int)+(es.length:Int):=by omega
     go_wp2;go_roundw
     case rel=>
      exact⟨i+1,by omega,by go_num,HKQ.out.setCell _ (fun h=>absurd h (by have:=HGO.out;omega)),_,DigA.set HA2.out (i+es.length) q rfl,HFI.out⟩
     case measure=>simp [intOf];omega
  ·have hlt:¬(i:Int)<(ds.length:Int):=by omega
   obtain rfl:i=ds.length:=by omega
   have HD1:=zh (dig_of_arr HAR.out (Nat.le_refl _) (by unfold maxLen;omega) HRO.out.lt)
   have HV:Hid (dval (digs f (ds.length+es.length))=dval ds*dval es):=zh (by
    rw [digs_val,HRO.out.val,←dval_dv,←dval_dv])
   go_wp2;go_ret;exact⟨_,_,rfl,HKP.out,HD1.out.dg,HV.out,digs_len _ _⟩
theorem sgn_prod (x y:Int):sgn (decide (x<0) != decide (y<0)) (x.natAbs*y.natAbs)=x*y:=by
 rw [sgn_mul,sgn_of,sgn_of]
theorem longMul_any (w:World)(x y:Int)(hx:dl x≤4500)(hy:dl y≤4500)(hb:bitsZ x+bitsZ y≤131073):
  Calls Tryz.prog 118 #[longV x,longV y] w fun e w'=>e= .returned (.tuple #[longV (limZ (x*y)),.int .i64 (limC (x*y))])∧Keep NoS w w':=by
 have LX:=fun w b=>zh (limbs_of w x b (by omega))
 have LY:=fun w b=>zh (limbs_of w y b (by omega))
 have BX:=fun w=>zh (longBits_any w x (by omega))
 have BY:=fun w=>zh (longBits_any w y (by omega))
 have hdm:=dl_mul x y;have LM:=fun w=>zh (longLimited_any w (x*y) (by omega))
 rw [longV_form (limZ (x*y))]at LM;have HV:=zh (sgn_prod x y);have hdx:(digN x.natAbs).length≤4500:=hx;have hdy:(digN y.natAbs).length≤4500:=hy;rw [longV_form x]at BX;rw [longV_form y]at BY;rw [longV_form x,longV_form y,longV_form (limZ (x*y))];obtain⟨S,hS⟩:∃S,bytesOf (digN x.natAbs)=S:=⟨_,rfl⟩;obtain⟨T,hT⟩:∃S,bytesOf (digN y.natAbs)=S:=⟨_,rfl⟩;rw [hS]at LX BX ⊢;rw [hT]at LY BY ⊢;obtain⟨bx,hbx⟩:∃b,decide (x<0)=b:=⟨_,rfl⟩;obtain⟨by',hby⟩:∃b,decide (y<0)=b:=⟨_,rfl⟩
 rw [hbx]at BX HV ⊢;rw [hby]at BY HV ⊢;generalize decide (limZ (x*y)<0)=dz at *;generalize bytesOf (digN (limZ (x*y)).natAbs)=U at *;generalize limC (x*y)=E at *;generalize x*y=Z at *;generalize bitsZ x=nx at *;generalize bitsZ y=ny at *;clear hx hy hS hT hbx hby hdm;go_enter Tryz.func118,Tryz.ntmps118;go_wp2;have B0:Blk (((w.alloc (.cells #[.bool bx,.string S] 91)).alloc (.cells #[.bool by',.string T] 91)).alloc (.cells #[.bool false,.string ⟨#[]⟩] 91)) w.heap.size #[.bool bx,.string S]:=kc
 have B1:Blk (((w.alloc (.cells #[.bool bx,.string S] 91)).alloc (.cells #[.bool by',.string T] 91)).alloc (.cells #[.bool false,.string ⟨#[]⟩] 91)) (w.heap.size+1) #[.bool by',.string T]:=kc
 have B2:Blk (((w.alloc (.cells #[.bool bx,.string S] 91)).alloc (.cells #[.bool by',.string T] 91)).alloc (.cells #[.bool false,.string ⟨#[]⟩] 91)) (w.heap.size+1+1) #[.bool false,.string ⟨#[]⟩]:=kc
 have K0:Hid (Keep NoS w (((w.alloc (.cells #[.bool bx,.string S] 91)).alloc (.cells #[.bool by',.string T] 91)).alloc (.cells #[.bool false,.string ⟨#[]⟩] 91))):=zh kp
 generalize ((w.alloc (.cells #[.bool bx,.string S] 91)).alloc (.cells #[.bool by',.string T] 91)).alloc (.cells #[.bool false,.string ⟨#[]⟩] 91)=w0 at*
 have HB0:=zh B0;have HB1:=zh B1;have HB2:=zh B2;clear B0 B1 B2;have hww:IntKind.i64.wrap ((nx:Int)+(ny:Int))=(nx:Int)+(ny:Int):=Go.IntWalk.i64_in _ (by omega)
 have hnn:¬(131073:Int)<(nx:Int)+(ny:Int):=by omega
 refine wp_region_by (fun w'=>Keep NoS w0 w') [] [([0,2],1),([],3)] [4,5] (by kernel_rfl) (by kernel_rfl) kp ?_
 intro X W hne hF hcl;have HCL:=zh hcl;have hx0:=fun x=>(HB0.out.keep (hF x)).two
 have hx1:=fun x=>(HB1.out.keep (hF x)).two
 clear hF hcl;simp only [wpPlan,pickOps,zl0,zl1,zl2,clsOf,Bool.false_eq_true,if_false]
 (repeat(quiet_step (fail)));refine wpQuiet_nil ?_
 refine wpAt rfl rfl fun K hK=> ?_
 go_simp;refine(BX _).out.mono ?_;rintro e w1 ⟨rfl,hk1⟩;have k1:Keep NoS w0 w1:=Keep.trans kp hk1 fun _ _ _ h=>h
 refine hK _ _ ⟨fun _=>HCL.out _ k1,?_⟩
 clear hK K hk1
 (repeat(quiet_step (fail)));refine wpQuiet_nil ?_
 refine wpAt rfl rfl fun K hK=> ?_
 go_simp;refine(BY _).out.mono ?_;rintro e w2 ⟨rfl,hk2⟩;have k2:=k1.both hk2;refine hK _ _ ⟨fun _=>HCL.out _ k2,?_⟩
 clear hK K hk2 k1
 (repeat(quiet_step (fail)));refine wpQuiet_nil ?_
 refine NoPanic.normal ?_;have HB0:=zh (HB0.out.keep k2);have HB1:=zh (HB1.out.keep k2);have HB2:=zh (HB2.out.keep k2);have K2:=zh (K0.out.both k2);clear hx0 hx1 HCL k2 BX BY;go_wp2;clear hnn hww;refine wp_region_by (fun w'=>Keep NoS w2 w') [14,15] [([0,1,2,3,4,5,7],6),([],8),([],9),([],10),([],11),([12,13],14)] [15] (by kernel_rfl) (by kernel_rfl) kp ?_
 intro X W hne hF hcl;have HCL:=zh hcl;have hx0:=fun x=>(HB0.out.keep (hF x)).two
 have hx1:=fun x=>(HB1.out.keep (hF x)).two
 clear hF hcl;simp only [wpPlan,pickOps,zl0,zl1,zl2,clsOf,Bool.false_eq_true,if_false]
 (repeat(quiet_step (fail)));refine wpQuiet_nil ?_
 refine wpAt rfl rfl fun K hK=> ?_
 go_simp;refine(LX _ _).out.mono ?_;rintro e w3 ⟨v3,rfl,hd3,hk3⟩;have k3:Keep NoS w2 w3:=Keep.trans kp hk3 fun _ _ _ h=>h
 refine hK _ _ ⟨fun _=>HCL.out _ k3,?_⟩
 clear hK K hk3
 (repeat(quiet_step (fail)));refine wpQuiet_nil ?_
 refine wpAt rfl rfl fun K hK=> ?_
 go_simp;refine(LY _ _).out.mono ?_;rintro e w4 ⟨v4,rfl,hd4,hk4⟩;have k4:=k3.both hk4;refine hK _ _ ⟨fun _=>HCL.out _ k4,?_⟩
 have hd3:=hd3.keep hk4;clear hK K hk4 k3
 (repeat(quiet_step (fail)));refine wpQuiet_nil ?_
 refine wpAt rfl rfl fun K hK=> ?_
 go_simp;refine(longTimes_any _ _ _ _ _ hd3 hd4 (by omega) (by omega)).mono ?_
 rintro e w5 ⟨v5,ds,rfl,hk5,hd5,hv5,hl5⟩;have k5:=k4.both hk5;refine hK _ _ ⟨fun _=>HCL.out _ k5,?_⟩
 clear hK K hk5 k4 hd3 hd4
 (repeat(quiet_step (fail)));refine wpQuiet_nil ?_
 refine wpAt rfl rfl fun K hK=> ?_
 go_simp;refine(made_any _ _ _ _ hd5 (by omega)).mono ?_
 rintro e w6 ⟨rfl,hk6⟩;have k6:=k5.both hk6;rw [hv5,digN_val,digN_val,show sgn (!bx==by') (x.natAbs*y.natAbs)=Z from HV.out]
 refine hK _ _ ⟨fun _=>HCL.out _ k6,?_⟩
 clear hK K hk6 k5 hd5 hv5 hl5
 (repeat(quiet_step (fail)));refine wpQuiet_nil ?_
 refine wpAt rfl rfl fun K hK=> ?_
 go_simp;refine(LM _).out.mono ?_;rintro e w7 ⟨rfl,hk7⟩;have k7:=k6.both hk7;refine hK _ _ ⟨fun _=>HCL.out _ k7,?_⟩
 have HB2:=zh (HB2.out.keep k7);have HK:=zh (K2.out.both k7);clear hK K hk7 k6 hx0 hx1 HCL;obtain⟨r0,r1,f0,f1,rl⟩:=HB2.out.two
 (repeat(quiet_step (fail)));refine wpQuiet_nil ?_
 refine wpAt rfl rfl fun K hK=> ?_
 go_simp;refine hK _ _ ⟨fun h=>(by simp at h),?_⟩
 clear hK K
 (repeat(quiet_step (fail)));refine wpQuiet_nil ?_
 refine NoPanic.normal ?_;go_wp2;refine bodyPost_ret (by simp [results,Tryz.results118,go_sem,r0,r1,rl];rfl) rfl ?_
 exact⟨rfl,kp⟩
end Go.Proofs.YtaiffmebphhdaaaGreat
