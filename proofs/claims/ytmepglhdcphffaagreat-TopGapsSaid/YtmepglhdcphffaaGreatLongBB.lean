/- Package long: division by one limb. Package long: shifting left by less than 32 places. Package long: shifting right by less than 32 places. Package long: taking a multiple off in place. Package long: long division. -/
import Derived.Test.YtmepglhdcphffaaGreatLongAA
import Derived.Test.YtmepglhdcphffaaGreatBaseC
import Derived.Deep.DeepCutAuto
import Derived.Deep.CutBlock
import Derived.Lib.ItoaNum
namespace Go.Proofs.YtmepglhdcphffaaGreat
set_option maxRecDepth 100000
set_option maxHeartbeats 8000000
set_option linter.unusedSimpArgs false
set_option linter.unusedVariables false
open Go.ChangeShapes Go.WideShapes Go.RowKit
def Xz (x d:Nat)(n:Nat)(w:World)(e:Ending)(w':World):Prop:=∃v ds,e= .returned (.tuple #[v,.int .u32 ((x%d:Nat):Int)])∧Keep au w w'∧dX w' v ds∧dval ds=x/d∧ds.length=n
theorem Fb (w:World)(vx:Value)(xs:List Nat)(d:Nat)(hx:dX w vx xs)(hd0:0<d)(bd:d<4294967296)(hlx:xs.length≤20000):
  Calls Tryz.prog 260 #[vx,.int .u32 d] w (Xz (dval xs) d xs.length w):=by
 have HX:=zh hx;obtain⟨ox,cx,rfl,hcx,hmx⟩:=hx.len;clear hx;unfold maxLen at hmx;obtain⟨i0,hi0,hz0,hs0,hb0⟩:=info_parts rY;obtain⟨w2,hr2,ho2,hg2⟩:=run_make_full (P:=Tryz.prog) w w.heap.size 233 238 i0 (.int .u32 0) 1 Tryz.underlying233 hi0 hz0 hs0 .i64 .i64 xs.length (by rw [hb0];omega) (by unfold maxLen;omega) om;obtain⟨go,hgo⟩:∃go,w.heap.size=go:=⟨_,rfl⟩;rw [hgo]at hr2 ho2;have P2:iM w2 go xs.length (fun _=>0):=kE ho2 fun i hi=>uG rfl _ i hi;have L2:Keep au w w2:=Keep.of_below (dB hg2 w.heap.size (Nat.le_refl _) sm) (Nat.le_refl _);have YD:=zh P2;have HL2:=zh L2;have EO:=zh hgo;clear ho2 hg2 P2 L2 hgo;go_enter Tryz.func260,Tryz.ntmps260;go_wp2;clear hr2;go_loopw [8,7] (fun s t wr=>∃j:Nat,j≤xs.length∧s= .int .i64 ((j:Int)-1)∧Keep au w wr∧∃r:Nat,∃f,t= .int .u64 r∧iM wr go xs.length f∧Ic xs d j r f) (fun s _ _=>(intOf s+1).toNat)
 case atStart=>exact⟨xs.length,Nat.le_refl _,rfl,HL2.out,0,fun _=>0,rfl,YD.out,fun _ _=>om,fun _ _=>rfl,hd0,by
  have:=wZ (f:=fun _=>0) (n:=0) xs.length (fun _ _ _=>rfl);rw [Nat.zero_add]at this;rw [this,qM xs _ (Nat.le_refl _)];simp [dv]⟩
 obtain⟨j,hj,rfl,hkp,r,f,rfl,har,hinv⟩:=hrel;have BD:=zh hkp;have Kk:=zh har;have zH:=zh hinv;have hgl:=har.lt;rcases j with _ | j
 ·have hr0:r<d:=hinv.rlt;have hrm:(r:Int)%4294967296=(r:Int):=om;have hv:=zH.out.val;simp only [Nat.pow_zero,Nat.one_mul,dv,Nat.add_zero]at hv;have hq:dv f xs.length=dval xs/d∧dval xs%d=r:=by
   have h1:=zH.out.rlt;rw [← hv];exact⟨by rw [Nat.mul_add_div hd0,Nat.div_eq_of_lt h1,Nat.add_zero],by rw [Nat.mul_add_mod,Nat.mod_eq_of_lt h1]⟩
  have HQ:=zh hq;clear hkp har hinv hv hq;go_wp2;go_ret2;exact⟨.slice (some ⟨go,0,none⟩) xs.length xs.length,Dg f xs.length,congrArg (fun z:Nat=>Ending.returned (.tuple #[.slice (some ⟨go,0,none⟩) xs.length xs.length,.int .u32 (z:Int)])) HQ.out.2.symm,BD.out,(kF Kk.out (Nat.le_refl _) (by unfold maxLen;omega) zH.out.lt).dg,by rw [uM];exact HQ.out.1,iB _ _⟩
 have hjl:j<xs.length:=om;obtain⟨gx,px,hox,hgx,hcx⟩:=(HX.out.keep hkp).at om;subst hox;have cx0:=hcx j hjl;have bx0:=eT HX.out.lt j;have cf0:=har.cell (i:=j) hjl;have hf0:=har.free j;have br:(r:Int)<(d:Int):=by have:=hinv.rlt;omega
 have HST:=zh (hinv.step hjl bx0 bd);have ej:((j+1:Nat):Int)-1=(j:Int):=om;have hlt:(j:Int)<(xs.length:Int):=om;have Lu:=IK r (xs.getD j 0) om bx0;rw [IntKind.wrap_u64,IntKind.wrap_u64,Int.emod_eq_of_lt om om,Int.emod_eq_of_lt om om]at Lu;have ht1:r*4294967296+xs.getD j 0<18446744073709551616:=om;clear hcx hkp har hinv;generalize xs.getD j 0=x at *;generalize f j=fj at cf0;generalize r*4294967296+x=t at *;have hd0':(0:Int)<(d:Int):=om;have hdz:¬(d:Int)=0:=om;have hdz2:¬d=0:=om;rw [ej];go_wp2;go_roundw
 case rel=>
  have hlt1:=HST.out.lt j hjl;rw [if_pos rfl]at hlt1;have q1:IntKind.u64.wrap ((t:Int)/(d:Int))%4294967296=((t/d:Nat):Int):=by
   rw [yD t d ht1];exact Int.emod_eq_of_lt (Int.natCast_nonneg _) (Int.ofNat_lt.2 hlt1)
  exact⟨j,om,rfl,BD.out.setCell _ (fun h=>absurd h (by have:=EO.out;omega)),t%d,_,congrArg (Value.int .u64) sm,iM.set Kk.out j (t/d) (congrArg (Value.int .u32) q1),HST.out⟩
 simp [intOf]
def zb6 (P:List Nat→Prop)(w:World)(e:Ending)(w':World):Prop:=
 ∃v ds,e= .returned v∧Keep au w w'∧uJ w' w.heap.size v ds∧(∀d∈ds,d<4294967296)∧P ds
structure BI (xs os:List Nat)(T k c:Nat):Prop where
 len:os.length=k
 lt:∀d∈os,d<4294967296
 top:c<T
 val:dval os+4294967296^k*c=dval (xs.take k)*T
theorem BI.step {xs os:List Nat}{s k c:Nat}(hs:s<32)(h:BI xs os (2^s) k c)(hx:∀d∈xs,d<4294967296):
  BI xs (os++ [c+xs.getD k 0*2^s%4294967296]) (2^s) (k+1) (xs.getD k 0*2^s/4294967296):=by
 obtain⟨hT,hT0,hT1⟩:=iG hs;have hval:=h.val;have htop:=h.top;have hxk:=eT hx k;have h1:xs.getD k 0*2^s/4294967296<2^s:=by
  rw [Nat.div_lt_iff_lt_mul om,Nat.mul_comm (2^s)];exact Nat.mul_lt_mul_of_pos_right hxk hT0
 have h2:c+xs.getD k 0*2^s%4294967296<4294967296:=by
  generalize xs.getD k 0=x at *;generalize hTT:2^s=T at *;generalize 2^(32-s)=S at *;rw [← hT,Nat.mul_comm x T,Nat.mul_mod_mul_left,hT];have hS:0<S:=by
   rcases Nat.eq_zero_or_pos S with h | h
   ·rw [h]at hT;omega
   exact h
  have h3:T*(x%S+1)≤T*S:=Nat.mul_le_mul_left _ (Nat.mod_lt x hS);rw [Nat.mul_add]at h3;omega
 refine⟨by rw [List.length_append,h.len];rfl,fun d hd=> ?_,h1,?_⟩
 ·rcases List.mem_append.1 hd with hd | hd
  ·exact h.lt d hd
  obtain rfl:d=_:=by simpa using hd
  exact h2
 rw [iQ,h.len,jv,Nat.add_mul,←hval];simp only [dval,Nat.mul_zero,Nat.add_zero];have e:=Nat.div_add_mod (xs.getD k 0*2^s) 4294967296;generalize xs.getD k 0*2^s%4294967296=m at *;generalize xs.getD k 0*2^s/4294967296=q at *;rw [Nat.pow_succ,Nat.mul_assoc (4294967296^k) (xs.getD k 0),←e,Nat.mul_add,Nat.mul_add,←Nat.mul_assoc (4294967296^k)];omega
theorem zaC {s q x:Nat}(hs:s<32)(hq:q<2^s):bits .or .u32 ((x:Int)*2^s%4294967296) (q:Int)=((q+x*2^s%4294967296:Nat):Int):=by
 obtain⟨hT,hT0,hT1⟩:=iG hs;have e:((x:Int)*2^s%4294967296)=((x*2^s%4294967296:Nat):Int):=sm;have hdv:2^s∣x*2^s%4294967296:=by
  rw [← hT,Nat.mul_comm x,Nat.mul_mod_mul_left];exact Nat.dvd_mul_right _ _
 have h:=VF (a:=q) (v:=x*2^s%4294967296) hs hq hdv om om;rw [u32_or_nat _ _ om om]at h;rw [e,u32_or_nat _ _ om om,Nat.or_comm];exact h
theorem XA {s x:Nat}(hs:s<32):x/2^(32-s)=x*2^s/4294967296:=by
 obtain⟨hT,hT0,hT1⟩:=iG hs;rw [← hT,Nat.mul_comm x,Nat.mul_div_mul_left _ _ hT0]
theorem zaD {s x:Nat}(hs:s<32)(hx:x<4294967296):((x:Int)/2^(32-s)%4294967296)=((x*2^s/4294967296:Nat):Int):=by
 rw [← XA hs];have e:((x:Int)/2^(32-s))=((x/2^(32-s):Nat):Int):=sm;rw [e];have hz:=Nat.div_le_self x (2^(32-s));generalize x/2^(32-s)=z at *;omega
theorem yY (w:World)(vx:Value)(xs:List Nat)(s:Nat)(hx:dX w vx xs)(hlx:xs.length≤20000)(hs:s<32):
  Calls Tryz.prog 262 #[vx,.int .i64 s] w (zb6 (fun os=>dval os=dval xs*2^s∧os.length=xs.length+1) w):=by
 have HX:=zh hx;obtain⟨ox,cx,rfl,hcx,hmx⟩:=hx.len;clear hx;unfold maxLen at hmx;obtain⟨w2,hr2,ho2,hk2⟩:=Dm w (xs.length+1) om;rw [show((xs.length+1:Nat):Int)=(xs.length:Int)+1 from om]at hr2;have Im:=zh ho2;have Ay:=zh hk2;have hd:(s:Int)/32=0:=om;have hdt:(s:Int).tdiv 32=0:=by rw [Int.tdiv_eq_ediv_of_nonneg om];omega
 have hm:(s:Int)%32=s:=om;have hmt:(s:Int).tmod 32=s:=by rw [Int.tmod_eq_emod_of_nonneg om];omega
 obtain⟨hTS,hT0,hT1⟩:=iG hs;clear ho2 hk2;go_enter Tryz.func262,Tryz.ntmps262;go_wp2;clear hr2;go_loopw [20,6,5] (fun c t u wr=>∃k:Nat,k≤xs.length∧c= .int .i64 k∧∃q:Nat,∃os,t= .int .u32 q∧Keep au w wr∧uJ wr w.heap.size u os∧BI xs os (2^s) k q) (fun c _ _ _=>(xs.length-intOf c).toNat)
 case atStart=>exact⟨0,om,rfl,0,[],rfl,Ay.out,Im.out,rfl,sm,hT0,by simp [dval]⟩
 obtain⟨k,hk,rfl,q,os,rfl,hkr,hou,hinv⟩:=hrel;have dH:=zh hkr;have zD:=zh hou;have zH:=zh hinv;have hol:=hinv.len;have hq:=hinv.top;obtain⟨oo,co,hu⟩:=hou.len;rw [hol]at hu;subst hu;have HOL:=zh hol;have hsz:=hkr.size;by_cases hkl:k<xs.length
 ·have hlt:(k:Int)<(xs.length:Int):=om;obtain⟨gx,px,hox,hgx,hcx⟩:=(HX.out.keep hkr).at om;subst hox;have c0:=hcx k hkl;have bx:=eT HX.out.lt k;have HST:=zh (hinv.step hs HX.out.lt);obtain⟨x,hxx⟩:∃x,xs.getD k 0=x:=⟨_,rfl⟩;rw [hxx]at c0 bx HST;clear hxx hkr hou hinv hol hcx;have m64:min s 64=s:=om;have m32:min s 32=s:=om;have hor:=zaC (x:=x) hs hq;obtain⟨d,hd'⟩:∃d,q+x*2^s%4294967296=d:=⟨_,rfl⟩;rw [hd']at hor HST;have k1:Keep au wr (wr.alloc (.cells #[.int .u32 (d:Int)] FL)):=kp;obtain⟨v',w',hr,ho',hg⟩:=yJ (zD.out.keep k1) d (g:=wr.heap.size) sm (by rw [HOL.out];omega) (by simp;omega);have NW:=zh ho';have EM:Hid (Keep au w w'):=zh ((dH.out.both k1).grown hg fun k hk=>zD.out.block k hk);obtain⟨ot',ct',hv'⟩:=ho'.len;rw [List.length_append,HOL.out,List.length_singleton]at hv';subst hv';clear ho' hg k1 hd';go_wp2_with (at_builtin;refine aV _ _ 233 _ _ rfl rfl rfl rfl hr ?_);go_roundw
  case rel=>exact⟨k+1,om,gn,x*2^s/4294967296,_,congrArg (Value.int .u32) (zaD hs bx),EM.out,NW.out,HST.out⟩
  simp [intOf];omega
 have hlt:¬(k:Int)<(xs.length:Int):=om;obtain rfl:k=xs.length:=om;have HV:Hid (dval (os++ [q])=dval xs*2^s):=zh (by
  have:=hinv.val;rw [List.take_length]at this;rw [iQ,hol];simp only [dval,Nat.mul_zero,Nat.add_zero];exact this)
 have hlt2:∀d∈os++ [q],d<4294967296:=fun d hd=>by
  rcases List.mem_append.1 hd with hd | hd
  ·exact hinv.lt d hd
  obtain rfl:d=q:=by simpa using hd
  omega
 have zbH:=zh hlt2;have k1:Keep au wr (wr.alloc (.cells #[.int .u32 (q:Int)] FL)):=kp;obtain⟨v',w',hr,ho',hg⟩:=yJ (zD.out.keep k1) q (g:=wr.heap.size) sm (by rw [HOL.out];omega) (by simp;omega);have NW:=zh ho';have EM:Hid (Keep au w w'):=zh ((dH.out.both k1).grown hg fun k hk=>zD.out.block k hk);clear ho' hg k1 hkr hou hinv hlt2;go_wp2_with (at_builtin;refine aV _ _ 233 _ _ rfl rfl rfl rfl hr ?_);go_ret;exact⟨_,_,rfl,EM.out,NW.out,zbH.out,HV.out,by rw [List.length_append,HOL.out];rfl⟩
def XC (P:List Nat→Prop)(w:World)(e:Ending)(w':World):Prop:=∃v ds b,e= .returned (.tuple #[v,.bool b])∧Keep au w w'∧dX w' v ds∧P ds
theorem Fe (w:World)(vx:Value)(xs:List Nat)(s:Nat)(hx:dX w vx xs)(hlx:xs.length≤20000)(hl0:0<xs.length)(hs:s<32):
  Calls Tryz.prog 264 #[vx,.int .i64 s] w (XC (fun os=>dval os=dval xs/2^s∧os.length=xs.length) w):=by
 have HX:=zh hx;obtain⟨ox,cx,rfl,hcx,hmx⟩:=hx.len;obtain⟨gx,px,rfl,hgx,hcs⟩:=hx.at hl0;have c00:=hcs 0 hl0;rw [Nat.add_zero]at c00;clear hx;unfold maxLen at hmx;obtain⟨i0,hi0,hz0,hs0,hb0⟩:=info_parts rY;obtain⟨w2,hr2,ho2,hg2⟩:=run_make_full (P:=Tryz.prog) w w.heap.size 233 238 i0 (.int .u32 0) 1 Tryz.underlying233 hi0 hz0 hs0 .i64 .i64 xs.length (by rw [hb0];omega) (by unfold maxLen;omega) om;obtain⟨go,hgo⟩:∃go,w.heap.size=go:=⟨_,rfl⟩;rw [hgo]at hr2 ho2;have P2:iM w2 go xs.length (fun _=>0):=kE ho2 fun i hi=>uG rfl _ i hi;have L2:Keep au w w2:=Keep.of_below (dB hg2 w.heap.size (Nat.le_refl _) sm) (Nat.le_refl _);have YD:=zh P2;have HL2:=zh L2;have EO:=zh hgo;clear ho2 hg2 P2 L2 hgo;have hd:(s:Int)/32=0:=om;have hdt:(s:Int).tdiv 32=0:=by rw [Int.tdiv_eq_ediv_of_nonneg om];omega
 have hm:(s:Int)%32=s:=om;have hmt:(s:Int).tmod 32=s:=by rw [Int.tmod_eq_emod_of_nonneg om];omega
 have hl1:((xs.length:Int)==0)=false:=by rw [beq_eq_false_iff_ne];omega
 have hl3:¬xs.length=0:=om;have hmn:min (0:Int) (xs.length:Int)=0:=om;have hne:¬xs= []:=by rintro rfl;simp at hl0
 obtain⟨x0,hx0⟩:∃x0,xs.getD 0 0=x0:=⟨_,rfl⟩;rw [hx0]at c00;clear hx0 hcs;go_enter Tryz.func264,Tryz.ntmps264;go_wp2;go_loopw [22,6] (fun s t wr=>s= .int .i64 0∧t= .bool false∧w=wr) (fun _ _ _=>0)
 case atStart=>exact⟨rfl,rfl,rfl⟩
 obtain⟨rfl,rfl,rfl⟩:=hrel;go_upto_region 12 with fail;go_cut [6] (fun s wx=>(∃b,s= .bool b)∧w=wx)
 case first=>
  obtain⟨b0,hb0⟩:∃b,((x0:Int)*2^(32-s)%4294967296 != 0)=b:=⟨_,rfl⟩;by_cases zb7:0<s
  ·have e3:decide ((0:Int)<(s:Int))=true:=cZ om;cases b0
   ·go_wp2_with fail;go_meet;exact⟨⟨_,rfl⟩,rfl⟩
   go_wp2_with fail;go_meet;exact⟨⟨_,rfl⟩,rfl⟩
  obtain rfl:s=0:=om;go_wp2_with fail;go_meet;exact⟨⟨_,rfl⟩,rfl⟩
 obtain⟨⟨bl0,rfl⟩,rfl⟩:=hcut;go_wp2;clear hr2;obtain⟨hTS,hT0,hT1⟩:=iG hs;have m32:min s 32=s:=om;have m32':min (32-s) 32=32-s:=om;have m33:((32:Int)-(s:Int)).toNat=32-s:=om;go_loopw [60] (fun c wr=>∃k:Nat,k≤xs.length∧c= .int .i64 k∧Keep au w wr∧∃f,iM wr go xs.length f∧zO xs (2^s) k f) (fun c _=>(xs.length-intOf c).toNat)
 case atStart=>exact⟨0,om,rfl,HL2.out,fun _=>0,YD.out,fun p hp=>absurd hp om,by simp [dv]⟩
 obtain⟨k,hk,rfl,hkp,f,har,hinv⟩:=hrel;have BD:=zh hkp;have Kk:=zh har;have zH:=zh hinv;have hgl:=har.lt;by_cases hkl:k<xs.length
 ·have hlt:(k:Int)<(xs.length:Int):=om;obtain⟨gx',px',hox,hgx',hcx⟩:=(HX.out.keep hkp).at om;cases hox;have cx0:=hcx k hkl;have cx1:=hcx (k+1);have bx0:=eT HX.out.lt k;have bx1:=eT HX.out.lt (k+1);have cf0:=har.cell (i:=k) hkl;have hf0:=har.free k;have hgo2:¬gx=go:=by have:=EO.out;omega
  have HST:=zh (hinv.step hs bx0);have h1z:¬k+1<xs.length→xs.getD (k+1) 0=0:=fun h=>by simp [List.getD,List.getElem?_eq_none (Nat.le_of_not_lt h)]
  clear hcx hkp har hinv;generalize xs.getD k 0=x at *;generalize xs.getD (k+1) 0=y at *;generalize f k=fk at cf0;by_cases hk1:k+1<xs.length
  ·have e1:decide ((k:Int)+1<(xs.length:Int))=true:=cZ om;have e2:decide (k+1<xs.length)=true:=decide_eq_true hk1;have cy:=cx1 hk1;by_cases zb7:0<s
   ·have e3:decide ((0:Int)<(s:Int))=true:=cZ om;have e4:decide (0<s)=true:=decide_eq_true zb7;go_wp2;have yB:IntKind.i64.wrap ((k:Int)+1)=(k:Int)+1:=Go.IntWalk.i64_in _ om;have hsw:IntKind.i64.wrap ((32:Int)-(s:Int))=(32:Int)-(s:Int):=Go.IntWalk.i64_in _ om;have hk1':(k:Int)+1<(xs.length:Int):=om;have hkn:((k:Int)+1).toNat=k+1:=om;have hk0:(0:Int)≤(k:Int)+1:=om;have hs3:(0:Int)≤(32:Int)-(s:Int):=om;refine aD (fun w'=>w'.cell? ⟨go,k,none⟩=some (.int .u32 ((x:Int)/2^s))∧w'.cell? ⟨gx,px+(k+1),none⟩=some (.int .u32 y)) [14] [([0,1,2,3,4,5,6,7,8,9,10,11,12,13],14)] [] kr kr ?_ ?_
    ·refine ⟨?_,?_⟩
     ·have:=(nT.set Kk.out k (.int .u32 ((x:Int)/2^s))).cell (i:=k) hkl;rw [if_pos rfl]at this;exact this
     exact(World.cell?_setCell_other _ _ _ _ (fun e=>hgo2 (by injection e with e1;exact e1.symm))).trans cy
    intro X W hne' hF hcl;have hx0:=fun x=>(hF x).1;have hx1:=fun x=>(hF x).2;clear hF hcl;simp only [aW,aJ,zl0,zl1,zl2,aX,Bool.false_eq_true,if_false]
    (repeat(quiet_step (fail)));refine wpQuiet_nil ?_
    refine ay rfl rfl fun K hK=> ?_;go_simp;refine hK _ _ ⟨fun h=>(by simp at h),?_⟩;clear hK K hx0 hx1
    (repeat(quiet_step (fail)));refine wpQuiet_nil ?_
    refine NoPanic.normal ?_;go_wp2;go_roundw
    case rel=>
     have q2:(y:Int)*2^(32-s)%4294967296=((y*2^(32-s)%4294967296:Nat):Int):=sm;have q1:(x:Int)/2^s=((x/2^s:Nat):Int):=sm;have q3:=zbx hs zb7 bx0 (y:=y);have hd2:=iM.set (iM.set Kk.out k (x/2^s) (congrArg (Value.int .u32) q1)) k (x/2^s+y%2^s*2^(32-s)) (v:= .int .u32 (bits .or .u32 ((x:Int)/2^s) ((y:Int)*2^(32-s)%4294967296))) (congrArg (Value.int .u32) (by rw [q1,q2];exact q3));exact⟨k+1,om,gn,((BD.out.setCell _ (fun h=>absurd h (by have:=EO.out;omega))).setCell _ (fun h=>absurd h (by have:=EO.out;omega))).drew,_,
      (nT.congr hd2 (fun i hi=>by by_cases e:i=k<;>simp [e])).keep (Keep.refl _ _).drew,HST.out⟩
    simp [intOf];omega
   obtain rfl:s=0:=om;clear cy;go_wp2;go_roundw
   case rel=>
    have q1:(x:Int)=((x/2^0+y%2^0*2^(32-0):Nat):Int):=by simp [Nat.mod_one]
    exact⟨k+1,om,gn,BD.out.setCell _ (fun h=>absurd h (by have:=EO.out;omega)),_,iM.set Kk.out k _ (congrArg (Value.int .u32) q1),HST.out⟩
   simp [intOf];omega
  have e1:decide ((k:Int)+1<(xs.length:Int))=false:=bQ om;have e2:decide (k+1<xs.length)=false:=decide_eq_false hk1;obtain rfl:y=0:=h1z hk1;clear cx1;go_wp2;go_roundw
  case rel=>
   have q1:(x:Int)/2^s=((x/2^s+0%2^s*2^(32-s):Nat):Int):=sm;exact⟨k+1,om,gn,BD.out.setCell _ (fun h=>absurd h (by have:=EO.out;omega)),_,iM.set Kk.out k _ (congrArg (Value.int .u32) q1),HST.out⟩
  simp [intOf];omega
 have hlt:¬(k:Int)<(xs.length:Int):=om;obtain rfl:k=xs.length:=om;have HD1:=zh (kF Kk.out (Nat.le_refl _) (by unfold maxLen;omega) zH.out.lt);clear hkp har hinv;go_wp2;go_returns;exact⟨_,_,_,rfl,BD.out,HD1.out.dg,by rw [uM];exact zH.out.fin hs,iB _ _⟩
def YZ (g:Nat):Nat→Nat→Prop:=fun k _=>k=g
theorem dX.keepB {g:Nat}{w w':World}{oa:Option Addr}{n cap:Nat}{ds:List Nat}(h:dX w (.slice oa n cap) ds)(k:Keep (YZ g) w w')(hne:∀b o,oa=some ⟨b,o,none⟩→b≠g):dX w' (.slice oa n cap) ds:=by
 obtain⟨MP,cap',hv,h2,h3,h4,h5⟩:=h;cases hv;refine⟨oa,cap,rfl,h2,h3,h4,fun hn=> ?_⟩;obtain⟨b,o,e,hb,hc⟩:=h5 hn;refine⟨b,o,e,bJ hb k.size,fun i hi=> ?_⟩;have hbl:=k.block b hb fun _ h=>hne b o e h;exact(World.cell?_of_block (w:=w) hbl).trans (hc i hi)
theorem XD {g:Nat}{w0 w:World}(h:Keep (YZ g) w0 w)(i:Nat)(v:Value):Keep (YZ g) w0 (w.setCell ⟨g,i,none⟩ v):=h.setCell v fun _=>rfl
theorem XE (c p:Nat)(h:c+p<18446744073709551616):bits .and .u64 ((c:Int)+(p:Int)) 4294967295=((c:Int)+(p:Int))%4294967296:=by
 have h1:=u64_and_nat (c+p) 4294967295 h om;rw [show((4294967295:Nat):Int)=4294967295 from rfl,Int.natCast_add]at h1;rw [h1,show(4294967295:Nat)=2^32-1 from rfl,Nat.and_two_pow_sub_one_eq_mod];simp
theorem jy.fin0 {f f':Nat→Nat}{vs:List Nat}{k q b:Nat}(h:jy f (fun i=>vs.getD i 0) f' k q (vs.length+1) 0 b):
  dv (fun p=>f' (k+p)) (vs.length+1)+q*dv (fun i=>vs.getD i 0) vs.length=dv (fun p=>f (k+p)) (vs.length+1)+4294967296^(vs.length+1)*b:=by
 have hv:=h.val;rw [Nat.zero_add]at hv;have e:dv (fun i=>vs.getD i 0) (vs.length+1)=dv (fun i=>vs.getD i 0) vs.length:=by
  rw [dv,dV,List.getElem?_eq_none (Nat.le_refl _)];simp
 rw [e]at hv;exact hv
def zb8 (g2 L k n q:Nat)(f:Nat→Nat)(vs:List Nat)(w:World)(e:Ending)(w':World):Prop:=
 ∃b1:Nat,∃f',e= .returned (.bool (decide (0<b1)))∧Keep (YZ g2) w w'∧iM w' g2 L f'∧b1≤1∧(∀p,p<n+1→f' (k+p)<4294967296)∧(∀p,¬(k≤p∧p<k+(n+1))→f' p=f p)∧
  dv (fun p=>f' (k+p)) (n+1)+q*dv (fun i=>vs.getD i 0) n=dv (fun p=>f (k+p)) (n+1)+4294967296^(n+1)*b1
theorem Ad (w:World)(vv:Value)(vs:List Nat)(g2 L k n cap q:Nat)(f:Nat→Nat)(hv:dX w vv vs)(hn:vs.length=n)(hv2:∀b o m c,vv= .slice (some ⟨b,o,none⟩) m c→b≠g2)(ha:iM w g2 L f)(hL:k+n+1≤L)(hLb:L≤30000)(hq:q<4294967296)
  (hf:∀p,p<n+1→f (k+p)<4294967296):
  Calls Tryz.prog 263 #[.slice (some ⟨g2,k,none⟩) (n+1) cap,vv,.int .u64 q] w (zb8 g2 L k n q f vs w):=by
 have HV:=zh hv;have HA:=zh ha;have HF:=zh hf;obtain⟨ov,cv,rfl,hcv,hmv⟩:=hv.len;have kZ:Hid (∀b o,ov=some ⟨b,o,none⟩→b≠g2):=zh fun b o e=>hv2 b o _ _ (by rw [e]);subst hn;clear hv ha hf hv2;unfold maxLen at hmv;go_enter Tryz.func263,Tryz.ntmps263;go_wp2;go_loopw [13,8,7] (fun s t u wr=>∃i:Nat,i≤vs.length+1∧s= .int .i64 i∧∃c b:Nat,∃f',t= .int .u64 c∧u= .int .u64 b∧Keep (YZ g2) w wr∧iM wr g2 L f'∧jy f (fun i=>vs.getD i 0) f' k q i c b∧(vs.length<i→c=0)) (fun s _ _ _=>(vs.length+1-intOf s).toNat)
 case atStart=>exact⟨0,om,rfl,0,0,f,rfl,rfl,Keep.refl _ _,HA.out,jy.start f _ k q,fun _=>rfl⟩
 obtain⟨i,hi,rfl,cc,bb,f',rfl,rfl,hkr,har,hti,hcz⟩:=hrel;have HCZ:=zh hcz;clear hcz;have dH:=zh hkr;have Kk:=zh har;have HTI:=zh hti;have bcc:=hti.clt;have bbb:=hti.ble;have hgl:=har.lt;by_cases hil:i<vs.length+1
 ·have hlt:(i:Int)<(vs.length:Int)+1:=om;have bv:=eT HV.out.lt i;have cu:=har.cell (i:=k+i) om;have fu:=har.free (k+i);rw [hti.same (k+i) om]at cu;have bu:=HF.out i hil;have AV:Hid (∀t c1 d b1,t=cc+q*vs.getD i 0→c1=t/4294967296→c1<4294967296→d+t%4294967296+bb=f (k+i)+4294967296*b1→d<4294967296→b1≤1→jy f (fun i=>vs.getD i 0) (fun p=>if p=k+i then d else f' p) k q (i+1) c1 b1):=
   zh fun t c1 d b1 h1 h2 h3 h4 h5 h6=>HTI.out.step h1 h2 h3 h4 h5 h6
  obtain⟨vj,hvj⟩:∃v,vs.getD i 0=v:=⟨_,rfl⟩;obtain⟨uj,huj⟩:∃v,f (k+i)=v:=⟨_,rfl⟩;rw [hvj]at bv AV;rw [huj]at cu bu AV;have HVJ:=zh hvj;obtain⟨hm1,hm2⟩:=Iz hq bv;obtain⟨p,hp⟩:∃p:Nat,q*vj=p:=⟨_,rfl⟩;have hpi:(q:Int)*(vj:Int)=(p:Int):=by rw [← hp,Int.natCast_mul]
  rw [hpi]at hm1 hm2;rw [hp]at AV;have HPI:=zh hpi;have HPZ:Hid (vs.length≤i→p=0):=zh fun h=>by
   have:vj=0:=by rw [← hvj,dV,List.getElem?_eq_none h];rfl
   rw [← hp,this,Nat.mul_zero]
  have HP:=zh hp;clear hkr har hti hvj huj hp hpi;go_upto_if 19 with fail;go_cut [8] (fun s wx=>s= .int .u64 ((cc+p:Nat):Int)∧wr=wx)
  case first=>
   by_cases hiv:i<vs.length
   ·have e2:decide ((i:Int)<(vs.length:Int))=true:=cZ om;have hlt2:(i:Int)<(vs.length:Int):=om;obtain⟨gv,pv,hov,hgv,hcs⟩:=(HV.out.keepB dH.out kZ.out).at om;subst hov;have cvi:=hcs i hiv;rw [HVJ.out]at cvi;have hpi:=HPI.out;clear hcs;go_wp2_with fail;go_meet;exact⟨sm,rfl⟩
   have e2:decide ((i:Int)<(vs.length:Int))=false:=bQ om;have hlt2:¬(i:Int)<(vs.length:Int):=om;have hp0:p=0:=by
    have:vj=0:=by rw [← HVJ.out,dV,List.getElem?_eq_none om];rfl
    rw [← HP.out,this,Nat.mul_zero]
   have HP0:=zh hp0;clear hp0;go_wp2_with fail;go_meet;exact⟨by rw [HP0.out];simp,rfl⟩
  obtain⟨rfl,rfl⟩:=hcut;have hand:=XE cc p om;go_wp2;go_roundw
  case rel=>
   obtain⟨d,b1,g1',g2',g3',g4',g5'⟩:=JX uj cc p bb bu bbb;exact⟨i+1,om,gn,(cc+p)/4294967296,b1,_,congrArg (Value.int .u64) om,congrArg (Value.int .u64) g1',XD dH.out _ _,
    iM.set Kk.out (k+i) d (congrArg (Value.int .u32) g2'),AV.out (cc+p) _ d b1 rfl rfl om g3' g4' g5',fun hh=>by
     have h0:=HPZ.out om;omega⟩
  simp [intOf];omega
 have hlt:¬(i:Int)<(vs.length:Int)+1:=om;obtain rfl:i=vs.length+1:=om;obtain rfl:cc=0:=HCZ.out om;have HVL:=zh hti.fin0;have hdec:decide ((0:Int)<(bb:Int))=decide (0<bb):=by rw [decide_eq_decide];omega
 clear hkr har hti;by_cases hb0:0<bb
 focus
  have e1:decide ((0:Int)<(bb:Int))=true:=cZ om;have e2:decide (0<bb)=true:=decide_eq_true hb0
 rotate_left
 focus
  have e1:decide ((0:Int)<(bb:Int))=false:=bQ om;have e2:decide (0<bb)=false:=decide_eq_false hb0
 rotate_left
 all_goals
  have E2:=zh e2;go_wp2;go_ret;exact⟨bb,f',congrArg (fun b=>Ending.returned (.bool b)) E2.out.symm,dH.out,Kk.out,bbb,HTI.out.lt,HTI.out.same,HVL.out⟩
theorem XF (x:Int)(w:World)(h0:0≤x)(h1:x≤4294967295):Calls Tryz.prog 261 #[.int .u32 x] w fun e w'=>e= .returned (.int .i64 (32-(Lib.bitLen x.toNat:Int)))∧w'=w:=Any.bits_LeadingZeros32 lays133 x w h0 h1
theorem OU {y:Nat}(h0:y≠0)(hy:y<4294967296):∃s,s<32∧(32-(Lib.bitLen ((y:Int)).toNat:Int))=(s:Nat)∧2147483648≤y*2^s∧y*2^s<4294967296:=by
 rw [Int.toNat_natCast];obtain⟨h4,h2,h1⟩:1≤Lib.bitLen y∧2^(Lib.bitLen y-1)≤y∧y<2^Lib.bitLen y:=Lib.bitLenAux_bounds 64 y om h0;have h3:Lib.bitLen y≤32:=Lib.bitLen_le y 32 om om;generalize Lib.bitLen y=b at *;refine⟨32-b,om,om,?_,?_⟩
 ·have:2^(b-1)*2^(32-b)≤y*2^(32-b):=Nat.mul_le_mul_right _ h2;rw [← Nat.pow_add,show b-1+(32-b)=31 from om]at this;omega
 have:y*2^(32-b)<2^b*2^(32-b):=Nat.mul_lt_mul_of_pos_right h1 (Nat.pow_pos om);rw [← Nat.pow_add,show b+(32-b)=32 from om]at this;omega
theorem sK {ds:List Nat}(h:jG ds)(hd:∀d∈ds,d<4294967296):gQ ds=ds:=by
 rw [zR hd,zP hd h]
theorem Tk {ys ds:List Nat}{s:Nat}(hn:2≤ys.length)(hb:∀d∈ys,d<4294967296)(hs:s<32)(h1:2147483648≤ys.getD (ys.length-1) 0*2^s)(h2:ys.getD (ys.length-1) 0*2^s<4294967296)
  (hd:∀d∈ds,d<4294967296) (hdl:ds.length=ys.length+1) (hv:dval ds=dval ys*2^s):
  (gQ ds).length=ys.length∧2147483648≤(gQ ds).getD (ys.length-1) 0∧dv (fun i=>(gQ ds).getD i 0) ys.length=dval ys*2^s:=by
 have hf:∀i,ds.getD i 0<4294967296:=eT hd;have hv':dv (fun i=>ds.getD i 0) (ys.length+1)=dval ys*2^s:=by rw [← hdl,←oZ];exact hv
 have e1:=VK (f:=fun i=>ds.getD i 0) rfl (eT hb) hn hs h2 (fun i _=>hf i) hv';have e2:=Zz (f:=fun i=>ds.getD i 0) rfl hn h1 e1 fun i _=>hf i;have e3:ds.getD ys.length 0=0:=by
  rw [dv,e1]at hv';have hp:0<4294967296^ys.length:=Nat.pow_pos om;rcases Nat.eq_zero_or_pos (ds.getD ys.length 0)with h | h
  ·exact h
  have:=Nat.mul_pos hp h;omega
 obtain⟨m,hm⟩:∃m,ys.length=m+1:=⟨ys.length-1,om⟩;have e4:jH ds ds.length=ys.length:=by
  rw [hdl,jH,if_pos e3,hm,jH,if_neg];rw [hm,Nat.add_sub_cancel]at e2;have e2:2147483648≤ds.getD m 0:=e2;omega
 have e5:∀i,i<ys.length→(gQ ds).getD i 0=ds.getD i 0:=fun i hi=>by
  unfold gQ;rw [e4,dV,List.getElem?_take,if_pos hi,←dV]
 refine⟨by rw [zQ,e4],by rw [e5 _ om];exact e2,?_⟩;rw [fQ fun i hi=>e5 i hi];exact e1
def zb9 (x y n:Nat)(w:World)(e:Ending)(w':World):Prop:=
 ∃vq vr qs rs,e= .returned (.tuple #[vq,vr])∧Keep au w w'∧dX w' vq qs∧dX w' vr rs∧dval qs=x/y∧dval rs=x%y∧qs.length≤n∧rs.length≤n
theorem zca (w:World)(r:Nat)(hr:r<4294967296):dX (w.alloc (.cells #[.int .u32 (r:Int)] FL)) (.slice (some ⟨w.heap.size,0,none⟩) 1 1) [r]:=by
 refine⟨_,1,rfl,sm,dc,by simpa using hr,fun _=>⟨_,0,rfl,sm,fun i hi=> ?_⟩⟩;obtain rfl:i=0:=by simpa using hi
 simp
theorem Lv {a b:Nat}:kG a b<0↔a<b:=by unfold kG;split<;>(try split)<;>omega
theorem qX (w:World)(vx vy:Value)(xs ys:List Nat)(hx:dX w vx xs)(hy:dX w vy ys)(hnx:jG xs)(hny:jG ys)(hy0:0<ys.length)(hlx:xs.length≤10000)(hly:ys.length≤10000):
  Calls Tryz.prog 226 #[vx,vy] w (zb9 (dval xs) (dval ys) (xs.length+1) w):=by
 have HX:=zh hx;have HY:=zh hy;have lY:=zh hnx;have HNY:=zh hny;clear hx hy hnx hny;go_enter Tryz.func226,Tryz.ntmps226;go_wp2_with fail;refine(gW _ _ xs HX.out om).mono ?_;rintro e w1 ⟨⟨v1,rfl,hd1⟩,rfl⟩;rw [sK lY.out HX.out.lt]at hd1;have HX:=zh hd1;clear hd1;go_wp2_with fail;refine(gW _ _ ys HY.out om).mono ?_;rintro e w1 ⟨⟨v2,rfl,hd2⟩,rfl⟩;rw [sK HNY.out HY.out.lt]at hd2;have HY:=zh hd2;clear hd2;have hcmp:=pF w1 _ _ _ _ HX.out HY.out lY.out HNY.out om om;have HCM:=zh hcmp;clear hcmp;go_wp2_with fail;refine HCM.out.mono ?_;rintro e w2 ⟨rfl,n2,rfl⟩;by_cases hlt:dval xs<dval ys
 ·have e1:decide (kG (dval xs) (dval ys)<0)=true:=decide_eq_true (Lv.2 hlt);have nJ:=zh hlt;clear hlt;go_wp2_with fail;go_ret2;exact⟨_,_,[],xs,rfl,kH _ _,V7 _,HX.out.keep (kH _ _),(Nat.div_eq_of_lt nJ.out).symm,(Nat.mod_eq_of_lt nJ.out).symm,sm,om⟩
 have e1:decide (kG (dval xs) (dval ys)<0)=false:=decide_eq_false fun h=>hlt (Lv.1 h);have HGE:=zh (Nat.le_of_not_lt hlt);have hk2:Keep au w1 (w1.drewN n2):=kH _ _;obtain⟨w2,hw2⟩:∃W,w1.drewN n2=W:=⟨_,rfl⟩;rw [hw2]at hk2 ⊢;have HX:=zh (HX.out.keep hk2);have HY:=zh (HY.out.keep hk2);have Ay:=zh hk2;clear hw2 hk2 hlt HCM;obtain⟨ox,cx,rfl,hcx,hmx⟩:=HX.out.len;obtain⟨oy,cy,rfl,hcy,hmy⟩:=HY.out.len;unfold maxLen at hmx hmy;obtain⟨gy,py,rfl,hgy,hcs⟩:=HY.out.at hy0;by_cases hl1:ys.length=1
 ·have e2:((ys.length:Int)==1)=true:=by rw [beq_iff_eq];omega
  have c0:=hcs 0 om;rw [Nat.add_zero]at c0;have ZE:=zh hl1;obtain⟨d,hd⟩:∃d,ys.getD 0 0=d:=⟨_,rfl⟩;rw [hd]at c0;have bd:d<4294967296:=by rw [← hd];exact eT HY.out.lt 0
  have hdv:dval ys=d:=by
   rw [oZ,ZE.out];simp only [dv];rw [hd];simp
  have hd0:0<d:=by
   rcases HNY.out with h | h
   ·rw [h]at hy0;simp at hy0
   rw [ZE.out,hd]at h;omega
  have hlt1:0<ys.length:=hy0;have hS:=Fb w2 _ xs d HX.out hd0 bd om;have HS:=zh hS;have HDV:=zh hdv;clear hS hdv hl1 hd hcs;go_wp2_with fail;refine HS.out.mono ?_;rintro e w3 ⟨v3,ds3,rfl,hk3,hd3,hv3,hl3⟩;have HR:=zh (And.intro hk3 (And.intro hd3 (And.intro hv3 hl3)));clear hk3 hd3 hv3 hl3 c0;go_wp2_with fail;go_ret2;have hR:=HR.out;have e3:((dval xs:Int)%(d:Int))=((dval xs%d:Nat):Int):=sm;have h1:=zca w3 (dval xs%d) (by have:=Nat.mod_lt (dval xs) hd0;omega);rw [← e3]at h1;refine⟨_,_,ds3,[dval xs%d],rfl,(Ay.out.both hR.1).both kp,hR.2.1.keep kp,h1,by rw [HDV.out];exact hR.2.2.1,by rw [HDV.out];simp [dval],?_,sm⟩;have:=hR.2.2.2;omega
 have e2:((ys.length:Int)==1)=false:=by rw [beq_eq_false_iff_ne];omega
 have Jt:Hid (2≤ys.length):=zh om;obtain⟨yt,ZA⟩:∃yt,ys.getD (ys.length-1) 0=yt:=⟨_,rfl⟩;have hyt0:yt≠0:=by
  rcases HNY.out with h | h
  ·rw [h]at hy0;simp at hy0
  rw [ZA]at h;exact h
 have ze5:yt<4294967296:=by rw [← ZA];exact eT HY.out.lt _
 have c0:=hcs (ys.length-1) om;rw [ZA]at c0;obtain⟨s,hs32,hsb,hs1,hs2⟩:=OU hyt0 ze5;have i1:((ys.length:Int)-1).toNat=ys.length-1:=om;have HS:=zh (And.intro hs32 (And.intro hs1 hs2));have HYT:=zh ZA;have HLZ:=zh (XF (yt:Int) w2 om om);have hlen1:ys.length-1<ys.length:=om;have hlen2:(ys.length:Int)-1<(ys.length:Int):=om;have hlen3:(1:Int)≤(ys.length:Int):=om;clear ZA hcs hs32 hs1 hs2 hyt0 hl1;go_wp2_with fail;refine HLZ.out.mono ?_;rintro e w2' ⟨rfl,rfl⟩;rw [hsb];clear hsb c0 HLZ;have HLF:=zh (yY w2' _ ys s HY.out om HS.out.1);go_wp2_with fail;refine HLF.out.mono ?_;rintro e w3 ⟨v3,ds,rfl,hk3,ho3,hlt3,hv3,hl3⟩;have HD3:=zh (ho3.dg hlt3);have ze6:=zh (Tk Jt.out HY.out.lt HS.out.1 (by rw [HYT.out];exact HS.out.2.1) (by rw [HYT.out];exact HS.out.2.2) hlt3 hl3 hv3);have Jv:=zh hk3;have HTR:=zh (gW w3 _ ds (ho3.dg hlt3) om);have HVS:Hid (∀d∈gQ ds,d<4294967296):=zh fun d hd=>hlt3 d (FK hd);clear hlt3 hv3 hl3 ho3 hk3 HLF;go_wp2_with fail;refine HTR.out.mono ?_;rintro e w3' ⟨⟨v4,rfl,hd4⟩,rfl⟩;generalize gQ ds=vs at *;obtain⟨hn,Uu,hvd⟩:=ze6.out;obtain⟨fv,HFV⟩:∃fv:Nat→Nat,Hid ((fun i=>vs.getD i 0)=fv):=⟨_,zh rfl⟩;have hfv:∀i,vs.getD i 0=fv i:=fun i=>by rw [← HFV.out]
 have Js:Hid (∀i,fv i<4294967296):=zh fun i=>by rw [← hfv];exact eT HVS.out i
 rw [HFV.out]at hvd;rw [hfv]at Uu;have HVD:=zh hvd;have HVT:=zh Uu;have HN:=zh hn;obtain⟨ov,cv,rfl,hcv,hmv⟩:=hd4.len;rw [hn]at hd4 hcv ⊢;obtain⟨gv,pv,rfl,hgv,hcs⟩:=hd4.at om;have HD4:=zh hd4;have HGV:=zh hgv;rw [hn]at hcs;have HX3:=zh (HX.out.keep Jv.out);have HLU:=zh (yY w3' _ xs s HX3.out om HS.out.1);have HCV:Hid (∀w',Keep au w3' w'→∀i,i<ys.length→w'.cell? ⟨gv,pv+i,none⟩=some (.int .u32 (fv i:Nat))):=zh fun w' hk i hi=>(hk.cell hgv).trans (by rw [hcs i hi,hfv]);clear hcs hgv hvd Uu hd4 hfv;go_wp2_with fail;refine HLU.out.mono ?_;rintro e w4 ⟨v5,us,rfl,hk4,ho4,hlt4,hv4,hl4⟩;obtain⟨hul,h0 | ⟨g2,c2,cur2,rfl,zcb,zcc,zdx,hm2,zdy,ht2⟩⟩:=ho4
 ·exfalso;omega
 have zdz:g2<w4.heap.size:=lt_of_heap zcc;have P4:iM w4 g2 (xs.length+1) (fun i=>us.getD i 0):=kE (base:=w3'.heap.size) (cap:=c2) (m:=us.length) (xs:=yI us) ⟨hul,.inr ⟨g2,c2,cur2,rfl,zcb,zcc,zdx,hm2,zdy,ht2⟩⟩ fun i hi=>by
  have hi':i<us.length:=om;show _=some (Value.int .u32 ((us.getD i 0:Nat):Int));rw [dV,eD hi'];simp [yI,hi']
 have HXL:Hid (dval xs<4294967296^xs.length):=zh (pG _ HX.out.lt);have HYG:Hid (4294967296^(ys.length-1)≤dval ys):=zh (rW _ HNY.out (by rintro rfl;simp at hy0));have hle:ys.length≤xs.length:=by
  have h1:4294967296^(ys.length-1)<4294967296^xs.length:=Nat.lt_of_le_of_lt HYG.out (Nat.lt_of_le_of_lt HGE.out HXL.out);have:=(Nat.pow_lt_pow_iff_right (a:=4294967296) om).1 h1;omega
 have HDI:=zh (mY.begin (s:=s) (xl:=xs.length) (yl:=ys.length) (x:=dval xs) (y:=dval ys) (f:=fun i=>us.getD i 0) HXL.out HYG.out hle om (fun i _=>eT hlt4 i) (by rw [← hl4,←oZ];exact hv4));have HP4:=zh P4;have HK4:=zh hk4;have HG2:=zh (And.intro zcb zdz);rw [hl4]at zdx;rw [hl4];clear P4 hk4 hlt4 hv4 hul zcc zcb zdy ht2 cur2 HLU HXL HYG zdz hl4;obtain⟨i0,hi0,hz0,hs0,hb0⟩:=info_parts rY;obtain⟨w5,hr5,ho5,hg5⟩:=run_make_full (P:=Tryz.prog) w4 w4.heap.size 233 238 i0 (.int .u32 0) 1 Tryz.underlying233 hi0 hz0 hs0 .i64 .i64 (xs.length+1-ys.length) (by rw [hb0];omega) (by unfold maxLen;omega) om;rw [show((xs.length+1-ys.length:Nat):Int)=(xs.length:Int)+1-(ys.length:Int)from om]at hr5;obtain⟨go,hgo⟩:∃go,go=w4.heap.size:=⟨_,rfl⟩;rw [← hgo]at hr5 ho5;have P5:iM w5 go (xs.length+1-ys.length) (fun _=>0):=kE ho5 fun i hi=>uG rfl _ i hi;have L5:Keep au w4 w5:=Keep.of_below (dB hg5 w4.heap.size (Nat.le_refl _) sm) (Nat.le_refl _);have HP5:=zh P5;have Xj:=zh L5;have EO:=zh hgo;have HG3:=zh HK4.out.size;clear ho5 hg5 P5 L5 hgo hi0 hz0 hs0 hb0;have ze7:(ys.length:Int)≤(xs.length:Int)+1:=om;have ze8:ys.length≤xs.length+1:=om;go_wp2;go_loopw [10] (fun u wr=>u= .slice (some ⟨g2,0,none⟩) (xs.length+1) c2∧w4=wr) (fun _ _=>0)
 case atStart=>exact⟨rfl,rfl⟩
 obtain⟨rfl,rfl⟩:=hrel;go_wp2;clear hr5 ze7 ze8;have HLE:=zh hle;go_loopw [13] (fun c wr=>∃k:Nat,k≤xs.length+1-ys.length∧c= .int .i64 ((k:Int)-1)∧Keep au w3' wr∧∃f o,iM wr g2 (xs.length+1) f∧iM wr go (xs.length+1-ys.length) o∧(∀p,xs.length+1-ys.length≤p→o p=0)∧mY (dval xs*2^s) (dval ys*2^s) ys.length (xs.length+1) k f o) (fun c _=>(intOf c+1).toNat)
 case atStart=>exact⟨xs.length+1-ys.length,Nat.le_refl _,congrArg (Value.int .i64) om,HK4.out.both Xj.out,_,fun _=>0,nT.keep HP4.out Xj.out,HP5.out,fun _ _=>rfl,HDI.out⟩
 obtain⟨k,hk,rfl,hkp,f,o,haf,hao,hoz,hinv⟩:=hrel;have HOZ:=zh hoz;clear hoz;rcases k with _ | k
 ·as_aux_lemma=>
  have zdA:=zh (hinv.fin (by rw [← HVD.out];exact mX fun i _=>Js.out i) om);have HOL:=zh hinv.olt;have Ns:=zh hao;have BD:=zh (Ay.out.both (Jv.out.both hkp));have HDU:=zh (kF (cap:=c2) (nT.mono (m:=ys.length) haf om) om hm2 fun i hi=>hinv.lt i om).dg;have hgl:=haf.lt;have hb9:(ys.length:Int)≤(xs.length:Int)+1:=om;have hb8:ys.length≤xs.length+1:=om;have hb7:ys.length≤c2:=om;have hsr:=Fe wr _ _ s HDU.out (by rw [iB];omega) (by rw [iB];omega) HS.out.1;rw [iB]at hsr;have qJ:=zh hsr;clear hkp haf hao hinv hsr;go_wp2_with fail;refine qJ.out.mono ?_;rintro e w6 ⟨v6,ds6,b6,rfl,hk6,hd6,hv6,hl6⟩;have HR6:=zh (And.intro hk6 (And.intro hd6 (And.intro hv6 hl6)));clear hk6 hd6 hv6 hl6;go_wp2_with fail;go_ret2;have hR6:=HR6.out;exact⟨_,_,Dg o (xs.length+1-ys.length),ds6,rfl,BD.out.both hR6.1,(kF (nT.keep Ns.out hR6.1) (Nat.le_refl _) (by unfold maxLen;omega) fun i hi=>HOL.out i om).dg,
   hR6.2.1,by rw [uM,←zdA.out.1,show xs.length+1=xs.length+1-ys.length+ys.length from om,wZ ys.length fun i h1 h2=>HOZ.out i h1,Nat.sub_add_cancel om],by rw [hR6.2.2.1,uM];exact zdA.out.2,by rw [iB];omega,by rw [hR6.2.2.2];omega⟩
 have BD:=zh hkp;have HAF:=zh haf;have Ns:=zh hao;have zH:=zh hinv;have QD:Hid (Win fv f ys.length k):=zh ⟨Jt.out,fun i _=>Js.out i,fun p hp=>hinv.lt (k+p) om,by have:=HVT.out;omega,by rw [HVD.out];exact(hinv.window om (by rw [← HVD.out];exact mX fun i _=>Js.out i)).2.1⟩;have ej:((k+1:Nat):Int)-1=(k:Int):=om;have bk:(k:Int)+(ys.length:Int)<(xs.length:Int)+1:=om;have i1:((k:Int)+(ys.length:Int)-1).toNat=k+ys.length-1:=om;have i2:((k:Int)+(ys.length:Int)-2).toNat=k+ys.length-2:=om;have i3:((ys.length:Int)-2).toNat=ys.length-2:=om;have l1:(2:Int)≤(ys.length:Int):=by have:=Jt.out;omega
 have l2:(ys.length:Int)-2<(ys.length:Int):=om;have l3:(2:Int)≤(k:Int)+(ys.length:Int):=om;have l4:(k:Int)+(ys.length:Int)-2<(xs.length:Int)+1:=om;have cu1:=haf.cell (i:=k+ys.length) om;have cu0:=haf.cell (i:=k+ys.length-1) om;have cum:=haf.cell (i:=k+ys.length-2) om;have cv1:=HCV.out _ hkp (ys.length-1) om;have cv2:=HCV.out _ hkp (ys.length-2) om;have bu1:=hinv.lt (k+ys.length) om;have bu0:=hinv.lt (k+ys.length-1) om;have bum:=hinv.lt (k+ys.length-2) om;have bv1:=Js.out (ys.length-1);have bv2:=Js.out (ys.length-2);have bv1':=HVT.out;have HGS:=zh QD.out.start;have hgl:=haf.lt;have zdB:gv<wr.heap.size:=bJ HGV.out hkp.size;have Lu:=IK (f (k+ys.length)) (f (k+ys.length-1)) bu1 bu0;rw [IntKind.wrap_u64,IntKind.wrap_u64,Int.emod_eq_of_lt om om,Int.emod_eq_of_lt om om]at Lu;have ht1:f (k+ys.length)*4294967296+f (k+ys.length-1)<18446744073709551616:=om;clear hkp haf hao hinv;generalize hU1:f (k+ys.length)=u1 at *;generalize hU0:f (k+ys.length-1)=u0 at *;generalize hUM:f (k+ys.length-2)=um at *;generalize hV1:fv (ys.length-1)=v1 at *;generalize hV2:fv (ys.length-2)=v2 at *;have MV:=zh (And.intro hU1 (And.intro hU0 (And.intro hUM (And.intro hV1 hV2))));clear hU1 hU0 hUM hV1 hV2;obtain⟨t,hT⟩:∃t,u1*4294967296+u0=t:=⟨_,rfl⟩;rw [hT]at Lu ht1 HGS;have HT:=zh hT;clear hT;have HQ0:Hid (t/v1≤4294967297):=zh (by
  have h1:=QD.out.top;rw [MV.out.1,MV.out.2.2.2.1]at h1;have h2:t/v1<4294967298:=Nat.div_lt_of_lt_mul (by rw [← HT.out];omega);omega)
 rw [ej];go_wp2;go_quiet (fail);go_wp2;go_quiet (fail);go_upto_block 5 with fail;go_cut [15]from 82 to 210 (fun a wx=>∃q:Nat,a= .int .u64 q∧NA fv f ys.length k q∧∃m,wx=wr.drewN m)
 case first=>
  as_aux_lemma=>
   go_wp2;go_loopw [15,16] (fun a b wx=>∃q r:Nat,a= .int .u64 q∧b= .int .u64 r∧mZ fv f ys.length k q r∧q≤4294967297∧∃m,wx=wr.drewN m) (fun a _ _=>(intOf a).toNat)
   case atStart=>exact⟨t/v1,t%v1,congrArg (Value.int .u64) (by rw [yD t v1 ht1]),congrArg (Value.int .u64) sm,HGS.out,HQ0.out,_,by rw [World.drewN_drewN]⟩
   obtain⟨q,r,rfl,rfl,hg,hq64,m,rfl⟩:=hrel;have HG:=zh hg;have hr:=hg.rlt;clear hg;by_cases hqb:q<4294967296
   ·have e1:decide ((4294967296:Int)≤(q:Int))=false:=bQ om;have hjoin2:=IK r um hr bum;rw [IntKind.wrap_u64,IntKind.wrap_u64,Int.emod_eq_of_lt om om,Int.emod_eq_of_lt om om]at hjoin2;obtain⟨hm1,hm2⟩:=Iz hqb bv2;by_cases hc:r*4294967296+um<q*v2
    ·have e2:decide (((r*4294967296+um:Nat):Int)<(q:Int)*(v2:Int))=true:=cZ (by rw [← Int.natCast_mul];omega);have HC:=zh hc;clear hc;obtain⟨z,hZ⟩:∃z,r*4294967296+um=z:=⟨_,rfl⟩;rw [hZ]at hjoin2 e2 HC;have HZZ:=zh hZ;clear hZ;obtain⟨hq1,hsum,hge⟩:=QD.out.down HG.out (.inr (by rw [MV.out.2.2.1,MV.out.2.2.2.2,HZZ.out];exact HC.out));have zdC:(1:Int)≤(q:Int):=om;clear hsum hge;by_cases hrb:r+v1<4294967296
     ·have e3:decide (4294967296≤(r:Int)+(v1:Int))=false:=bQ om;have HGN:=zh (QD.out.next HG.out (.inr (by rw [MV.out.2.2.1,MV.out.2.2.2.2,HZZ.out];exact HC.out)) (by rw [MV.out.2.2.2.1];exact hrb));go_wp2;go_quiet (fail);go_wp2;go_roundw
      case rel=>
       have h:=HGN.out;rw [MV.out.2.2.2.1]at h;exact⟨q-1,r+v1,congrArg (Value.int .u64) om,congrArg (Value.int .u64) om,h,om,_,by first | rfl | rw [World.drewN_drewN]⟩
      simp [intOf];omega
     have e3:decide (4294967296≤(r:Int)+(v1:Int))=true:=cZ om;have HGN:=zh (QD.out.over HG.out (.inr (by rw [MV.out.2.2.1,MV.out.2.2.2.2,HZZ.out];exact HC.out)) (by rw [MV.out.2.2.2.1];omega));go_wp2;go_quiet (fail);go_wp2;go_meet;exact⟨q-1,congrArg (Value.int .u64) om,HGN.out,_,by first | rfl | rw [World.drewN_drewN]⟩
    have e2:decide (((r*4294967296+um:Nat):Int)<(q:Int)*(v2:Int))=false:=bQ (by rw [← Int.natCast_mul];omega);have HST:=zh (QD.out.stand HG.out hqb (by rw [MV.out.2.2.1,MV.out.2.2.2.2];omega));clear hc;obtain⟨z,hZ⟩:∃z,r*4294967296+um=z:=⟨_,rfl⟩;rw [hZ]at hjoin2 e2;clear hZ;go_wp2;go_quiet (fail);go_wp2;go_meet;exact⟨q,rfl,HST.out,_,by first | rfl | rw [World.drewN_drewN]⟩
   have e1:decide ((4294967296:Int)≤(q:Int))=true:=cZ om;obtain⟨hq1,hsum,hge⟩:=QD.out.down HG.out (.inl om);have zdC:(1:Int)≤(q:Int):=om;clear hsum hge;by_cases hrb:r+v1<4294967296
   ·have e3:decide (4294967296≤(r:Int)+(v1:Int))=false:=bQ om;have HGN:=zh (QD.out.next HG.out (.inl om) (by rw [MV.out.2.2.2.1];exact hrb));go_wp2;go_quiet (fail);go_wp2;go_roundw
    case rel=>
     have h:=HGN.out;rw [MV.out.2.2.2.1]at h;exact⟨q-1,r+v1,congrArg (Value.int .u64) om,congrArg (Value.int .u64) om,h,om,_,by first | rfl | rw [World.drewN_drewN]⟩
    simp [intOf];omega
   have e3:decide (4294967296≤(r:Int)+(v1:Int))=true:=cZ om;have HGN:=zh (QD.out.over HG.out (.inl om) (by rw [MV.out.2.2.2.1];omega));go_wp2;go_quiet (fail);go_wp2;go_meet;exact⟨q-1,congrArg (Value.int .u64) om,HGN.out,_,by first | rfl | rw [World.drewN_drewN]⟩
 as_aux_lemma=>
  obtain⟨q,rfl,hst,m,hm⟩:=hcut;have hk5:Keep au wr wc:=by rw [hm];exact kH wr m
  clear hm;obtain⟨w6,hw6⟩:∃W:World,W=wc:=⟨_,rfl⟩;rw [← hw6]at hk5 ⊢;clear hw6;have hqB:=hst.1;have HST:=zh hst;have Y2:=zh (BD.out.both hk5);have zdD:=Y2;have HA6:=zh (nT.keep HAF.out hk5);have HO6:=zh (nT.keep Ns.out hk5);clear hst hk5 cu1 cu0 cum cv1 cv2 hgl zdB Lu;have HV6:Hid (dX w6 (.slice (some ⟨gv,pv,none⟩) ys.length cv) vs):=zh (HD4.out.keep zdD.out);have zdE:=zh (Ad w6 _ vs g2 (xs.length+1) k ys.length (c2-k) q f HV6.out HN.out (fun b o m c e=>by
   simp at e;have:=e.1.1;have:=HG2.out.1;have:=HGV.out;omega) HA6.out om om hqB fun p hp=>QD.out.hf p hp)
  have bs1:(k:Int)+(ys.length:Int)+1≤(c2:Int):=om;have bs2:(k:Int)≤(k:Int)+(ys.length:Int)+1:=om;go_wp2_with fail;rw [show k+ys.length+1-k=ys.length+1 from om];refine zdE.out.mono ?_;rintro e w7 ⟨b1,f',rfl,hk7,ha7,hb1,hlt7,hsame7,heq7⟩;have HK7:Hid (Keep au w3' w7):=zh (Y2.out.trans hk7 fun n o hn h=>by
   have h:n=g2:=h;have:=HG2.out.1;omega)
  have HA7:=zh ha7;have YN:=zh (nT.keepS HO6.out hk7 fun i h=>by
   have h:go=g2:=h;have:=EO.out;have:=HG2.out.2;omega)
  rw [HFV.out]at heq7;have H7:=zh (And.intro hlt7 (And.intro hsame7 heq7));clear hk7 ha7 hlt7 hsame7 heq7 zdE HV6 HA6 HO6 Y2 zdD BD HAF Ns;go_upto_if 164 with fail;go_cut [15]from 82 to 210 (fun a wx=>∃q':Nat,∃f'',a= .int .u64 q'∧Keep au w3' wx∧iM wx g2 (xs.length+1) f''∧iM wx go (xs.length+1-ys.length) o∧Digit fv f f'' ys.length k q')
  case first=>
   as_aux_lemma=>
    by_cases hbz:b1=1
    ·have hdec:decide (0<b1)=true:=decide_eq_true om;rw [hdec];have zdF:Hid (dv (fun p=>f' (k+p)) (ys.length+1)+q*dv fv ys.length=dv (fun p=>f (k+p)) (ys.length+1)+4294967296^(ys.length+1)):=zh (by
      have h:=H7.out.2.2;rw [hbz,Nat.mul_one]at h;exact h)
     have hq1:1≤q:=by
      rcases Nat.eq_zero_or_pos q with h0 | h0
      ·exfalso;have h:=zdF.out;have hl:=mX (f:=fun p=>f' (k+p)) (k:=ys.length+1) H7.out.1;rw [h0,Nat.zero_mul,Nat.add_zero]at h;omega
      exact h0
     have zdC:(1:Int)≤(q:Int):=om;go_wp2;go_loopw [169,17] (fun i c wx=>∃j:Nat,j≤ys.length∧i= .int .i64 j∧∃cc:Nat,∃g',c= .int .u64 cc∧Keep au w3' wx∧iM wx g2 (xs.length+1) g'∧iM wx go (xs.length+1-ys.length) o∧kX f' fv g' k j cc) (fun i _ _=>(ys.length-intOf i).toNat)
     case atStart=>exact⟨0,om,rfl,0,_,rfl,HK7.out,HA7.out,YN.out,kX.start _ _ _⟩
     obtain⟨j,hj,rfl,c2',g',rfl,hk8,ha8,ho8,hbi⟩:=hrel;have HK8:=zh hk8;have HA8:=zh ha8;have HO8:=zh ho8;have HBI:=zh hbi;have bc2:=hbi.cle;have hgl:=ha8.lt;have zdB:=bJ HGV.out hk8.size;by_cases hjl:j<ys.length
     ·have hlt:(j:Int)<(ys.length:Int):=om;have cv:=HCV.out _ hk8 j hjl;have bv:=Js.out j;have cu:=ha8.cell (i:=k+j) om;have fu:=ha8.free (k+j);rw [hbi.same (k+j) om]at cu;have bu:=H7.out.1 j om;have hix:(k:Int)+(j:Int)<(xs.length:Int)+1:=om;have AV:Hid (∀c1 dd,dd=(c2'+(f' (k+j)+fv j))%4294967296→c1=(c2'+(f' (k+j)+fv j))/4294967296→kX f' fv (fun p=>if p=k+j then dd else g' p) k (j+1) c1):=zh fun c1 dd h1 h2=>
       HBI.out.step bu bv h1 h2
      clear hk8 ha8 ho8 hbi;generalize fv j=vj at *;generalize f' (k+j)=uj at *;go_wp2;go_roundw
      case rel=>
       exact⟨j+1,om,gn,(c2'+(uj+vj))/4294967296,_,congrArg (Value.int .u64) om,HK8.out.setCell _ (fun h=>absurd h (by have:=HG2.out.1;omega)),
        iM.set HA8.out (k+j) ((c2'+(uj+vj))%4294967296) (congrArg (Value.int .u32) om),nT.other HO8.out _ _ (by have:=EO.out;have:=HG2.out.2;omega),AV.out _ _ rfl rfl⟩
      simp [intOf];omega
     have hlt:¬(j:Int)<(ys.length:Int):=om;obtain rfl:j=ys.length:=om;have cu:=ha8.cell (i:=k+ys.length) om;have fu:=ha8.free (k+ys.length);rw [hbi.same (k+ys.length) om]at cu;have bu:=H7.out.1 ys.length om;have hix:(k:Int)+(ys.length:Int)<(xs.length:Int)+1:=om;have HDG:Hid (∀d,d=(f' (k+ys.length)+c2')%4294967296→Digit fv f (fun p=>if p=k+ys.length then d else g' p) ys.length k (q-1)):=zh fun d hd=>by
      obtain⟨h3,h4,h5⟩:=HBI.out.top (W:=dv (fun p=>f (k+p)) (ys.length+1)) (q:=q) bu hd QD.out.pos (mX fun i _=>Js.out i) zdF.out HST.out.2 H7.out.1;refine⟨by rw [h3];rfl,h4,fun p hp=> ?_,h5⟩;show(if p=k+ys.length then d else g' p)=f p;rw [if_neg om,HBI.out.same p om];exact H7.out.2.1 p hp
     clear hk8 ha8 ho8 hbi;generalize f' (k+ys.length)=uj at *;go_wp2;go_meet;exact⟨q-1,_,congrArg (Value.int .u64) om,HK8.out.setCell _ (fun h=>absurd h (by have:=HG2.out.1;omega)),
      iM.set HA8.out (k+ys.length) ((uj+c2')%4294967296) (congrArg (Value.int .u32) om),nT.other HO8.out _ _ (by have:=EO.out;have:=HG2.out.2;omega),HDG.out _ rfl⟩
    have hb0:b1=0:=om;have hdec:decide (0<b1)=false:=decide_eq_false om;rw [hdec];have HDG:Hid (Digit fv f f' ys.length k q):=zh (by
     have h:=H7.out.2.2;rw [hb0,Nat.mul_zero,Nat.add_zero]at h;obtain⟨h3,h4⟩:=VI QD.out.pos h HST.out.2;exact⟨h3,H7.out.1,H7.out.2.1,h4⟩)
    go_wp2;go_meet;exact⟨q,_,rfl,HK7.out,HA7.out,YN.out,HDG.out⟩
  as_aux_lemma=>
   obtain⟨q',f'',rfl,hk8,ha8,ho8,hdg⟩:=hcut;obtain⟨w8,hw8⟩:∃W:World,W=wc:=⟨_,rfl⟩;rw [← hw8]at hk8 ha8 ho8 ⊢;clear hw8;have HK8:=zh hk8;have HA8:=zh ha8;have HO8:=zh ho8;have HDG:=zh hdg;have hq':q'<4294967296:=by rw [hdg.q];exact QD.out.qlt
   have cf:=ho8.cell (i:=k) om;have ff:=ho8.free k;have hol:=ho8.lt;have hik:(k:Int)<(xs.length:Int)+1-(ys.length:Int):=om;have hik2:k<xs.length+1-ys.length:=om;generalize o k=ok at cf;clear hk8 ha8 ho8 hdg;go_wp2;go_roundw
   case rel=>
    refine⟨k,om,rfl,HK8.out.setCell _ (fun h=>absurd h (by have:=EO.out;have:=HG3.out;omega)),f'',_,nT.other HA8.out _ _ (by have:=EO.out;have:=HG2.out.2;omega),
     iM.set HO8.out k q' (congrArg (Value.int .u32) om),fun p hp=> ?_,zH.out.step om (by rw [← HVD.out];exact QD.out.pos) (by rw [← HVD.out];exact mX fun i _=>Js.out i) HDG.out.lt HDG.out.same (by rw [← HVD.out];exact HDG.out.rest) (by rw [← HVD.out];exact HDG.out.q)⟩
    show(if p=k then q' else o p)=0;rw [if_neg om];exact HOZ.out p hp
   simp [intOf]
end Go.Proofs.YtmepglhdcphffaaGreat
