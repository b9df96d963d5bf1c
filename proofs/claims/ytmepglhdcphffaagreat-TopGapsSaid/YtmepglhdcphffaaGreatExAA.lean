/- Package exact: its numbers as values; den, mul, add, Int, Sign. Package exact: made. Package exact: the operations, on rational numbers of Lean. Package exact: from and to fractions; whole ones. The wide fractions' operations for numbers of so many digits. -/
import Derived.Test.YtmepglhdcphffaaGreatLongCC
import Derived.Test.YtmepglhdcphffaaGreatLongAA
namespace Go.Proofs.YtmepglhdcphffaaGreat
set_option maxRecDepth 100000
set_option maxHeartbeats 8000000
set_option linter.unusedSimpArgs false
set_option linter.unusedVariables false
open Go.ChangeShapes Go.WideShapes Go.RowKit
def Bh (n d:Int):Value:= .agg #[.bool (decide (n<0)),.string (bytesOf (bV n.natAbs)),.bool (decide (d<0)),.string (bytesOf (bV d.natAbs))]
theorem Gi {z:Int}{b:Bool}{S:ByteArray}(h:bG z= .agg #[.bool b,.string S]):decide (z<0)=b∧bytesOf (bV z.natAbs)=S:=by
 unfold bG at h;simpa using h
theorem bH {n d:Int}{b c:Bool}{S U:ByteArray}(h:bG n= .agg #[.bool b,.string S])(h':bG d= .agg #[.bool c,.string U]):Bh n d= .agg #[.bool b,.string S,.bool c,.string U]:=by
 obtain⟨h1,h2⟩:=Gi h;obtain⟨h3,h4⟩:=Gi h';unfold Bh;rw [h1,h2,h3,h4]
def bM (v:Value)(q:Rat):Prop:=∃d:Int,v=Bh q.num d∧(d=q.den∨(d=0∧q.den=1))
def qj (q:Rat):Value:=Bh q.num q.den
theorem oV (q:Rat):bM (qj q) q:=⟨_,rfl,.inl rfl⟩
theorem Px:bM (Bh 0 0) 0:=⟨0,rfl,.inr ⟨rfl,rfl⟩⟩
def OM (d:Int):Int:=if d=0 then 1 else d
theorem iW {d:Int}{q:Rat}(h:d=q.den∨(d=0∧q.den=1)):OM d=q.den:=by
 unfold OM;rcases h with h | ⟨h,h'⟩
 ·rw [if_neg (by have:=q.den_pos;omega),h]
 rw [if_pos h,h'];rfl
def NB (k:Nat)(q:Rat):Prop:=dl q.num≤k∧dl q.den≤k
theorem aL.four {w:World}{k:Nat}{x y z u:Value}(h:aL w k #[x,y,z,u]):
  w.cell? ⟨k,0,none⟩=some x∧w.cell? ⟨k,1,none⟩=some y∧w.cell? ⟨k,2,none⟩=some z∧w.cell? ⟨k,3,none⟩=some u∧w.frozen? ⟨k,0,none⟩=false∧w.frozen? ⟨k,1,none⟩=false∧w.frozen? ⟨k,2,none⟩=false∧w.frozen? ⟨k,3,none⟩=false∧k<w.heap.size:=
 ⟨h.cell 0,h.cell 1,h.cell 2,h.cell 3,h.free 0,h.free 1,h.free 2,h.free 3,h.lt⟩
theorem fF {w0 w:World}{b:Nat}(h:Keep au w0 w)(hb:w0.heap.size≤b)(u v x y:Value):Keep au w0 ((((w.setCell ⟨b,0,none⟩ u).setCell ⟨b,1,none⟩ v).setCell ⟨b,2,none⟩ x).setCell ⟨b,3,none⟩ y):=
 (((h.setCell _ fun hh=>absurd hh om).setCell _ fun hh=>absurd hh om).setCell _ fun hh=>absurd hh om).setCell _ fun hh=>absurd hh om
theorem vQ {x:Int}{b:Bool}{S:ByteArray}(h:bG x= .agg #[.bool b,.string S])(h1: -9223372036854775808≤x)(h2:x≤9223372036854775807)(w:World):
  Calls Tryz.prog 90 #[.int .i64 x] w fun e w'=>e= .returned (.agg #[.bool b,.string S])∧Keep au w w':=by
 have:=xF w x h1 h2;rw [h]at this;exact this
theorem gK (w:World)(n d:Int):Calls Tryz.prog 89 #[Bh n d] w fun e w'=>e= .returned (bG (OM d))∧Keep au w w':=by
 obtain⟨nb,nS,ln,-,-⟩:=aH n;obtain⟨db,dS,ld,-,-⟩:=aH d;obtain⟨eb,eS,le,-,-⟩:=aH (OM d);have SD:=fun w=>zh (gX w d);rw [ld]at SD;rw [bH ln ld,le];by_cases h0:d=0
 ·have e0:d.sign=0:=by rw [h0];rfl
  have LO:=fun w=>zh (vQ (x:=1) (b:=eb) (S:=eS) (by rw [← le];unfold OM;rw [if_pos h0]) om om w);clear ln ld le h0;rw [e0]at SD;clear e0;go_enter Tryz.func89,Tryz.ntmps89;go_wp2_with fail;refine(SD _).out.mono ?_;rintro e w1 ⟨rfl,hk1⟩;have B2:aL w1 (w.heap.size+1) #[.bool false,.string ⟨#[]⟩]:=aL.keep kb hk1;have K1:Hid (Keep au w w1):=zh (Keep.both kp hk1);clear hk1 SD;go_wp2_with fail;refine(LO _).out.mono ?_;rintro e w2 ⟨rfl,hk2⟩;have B2:=B2.keep hk2;have K2:=zh (K1.out.both hk2);clear hk2 LO;obtain⟨r0,r1,f0,f1,rl⟩:=B2.two;go_wp2;refine bodyPost_ret (by simp [results,Tryz.results89,go_sem,r0,r1,rl];rfl) rfl ?_;exact⟨rfl,dw K2.out om _ _⟩
 have e0:(d.sign==0)=false:=by rw [beq_eq_false_iff_ne];intro h;exact h0 (Int.sign_eq_zero_iff_zero.1 h)
 have hd:OM d=d:=by unfold OM;rw [if_neg h0]
 have hh:(.agg #[.bool db,.string dS]:Value)= .agg #[.bool eb,.string eS]:=by rw [← ld,←le,hd]
 have e1:eb=db:=by simp at hh;exact hh.1.symm
 have e2:eS=dS:=by simp at hh;exact hh.2.symm
 subst e1 e2;clear ln ld le h0 hd hh;go_enter Tryz.func89,Tryz.ntmps89;go_wp2_with fail;refine(SD _).out.mono ?_;rintro e w1 ⟨rfl,hk1⟩;have B1:aL w1 w.heap.size #[.bool nb,.string nS,.bool eb,.string eS]:=aL.keep kb hk1;have B2:aL w1 (w.heap.size+1) #[.bool false,.string ⟨#[]⟩]:=aL.keep kb hk1;have K1:Hid (Keep au w w1):=zh (Keep.both kp hk1);clear hk1 SD;obtain⟨q0,q1,q2,q3,_,_,_,_,ql⟩:=B1.four;obtain⟨r0,r1,f0,f1,rl⟩:=B2.two;go_wp2;refine bodyPost_ret (by simp [results,Tryz.results89,go_sem,r0,r1,rl];rfl) rfl ?_;exact⟨rfl,dw K1.out om _ _⟩
theorem iX (w:World)(x y:Int)(hb:dl x+dl y≤4096):Calls Tryz.prog 88 #[bG x,bG y] w fun e w'=>e= .returned (bG (x*y))∧Keep au w w':=by
 have bx:=Dk x;have by':=Dk y
 have hl:=Qe (z:=x*y) (by have:=iJ x y;omega);have CM:=fun w=>zh (Ko w x y om om om);rw [hl.1,hl.2]at CM;obtain⟨xb,xS,lx,-,-⟩:=aH x;obtain⟨yb,yS,ly,-,-⟩:=aH y;obtain⟨zb,zS,lz,-,-⟩:=aH (x*y);rw [lx,ly,lz]at CM;rw [lx,ly,lz];clear hl lx ly lz hb bx by'
 go_enter Tryz.func88,Tryz.ntmps88;go_wp2_with fail;refine(CM _).out.mono ?_;rintro e w1 ⟨rfl,hk1⟩;have B2:aL w1 (w.heap.size+1+1) #[.bool false,.string ⟨#[]⟩]:=aL.keep kb hk1;have K1:Hid (Keep au w w1):=zh (Keep.both kp hk1);clear hk1 CM;obtain⟨r0,r1,f0,f1,rl⟩:=B2.two;have hne:¬w1.heap.size=w.heap.size+1+1:=om;go_wp2;refine bodyPost_ret (by simp [results,Tryz.results88,go_sem,r0,r1,rl,hne];rfl) rfl ?_;have HK:=K1;exact⟨rfl,kp⟩
theorem Ti (w:World)(x y:Int)(hb:dl x≤4095∧dl y≤4095):Calls Tryz.prog 139 #[bG x,bG y] w fun e w'=>e= .returned (bG (x+y))∧Keep au w w':=by
 have hl:=Qe (z:=x+y) (by have:=Ir x y 4095 hb.1 hb.2;omega);have CM:=fun w=>zh (Kn w x y om om);rw [hl.1,hl.2]at CM;obtain⟨xb,xS,lx,-,-⟩:=aH x;obtain⟨yb,yS,ly,-,-⟩:=aH y;obtain⟨zb,zS,lz,-,-⟩:=aH (x+y);rw [lx,ly,lz]at CM;rw [lx,ly,lz];clear hl lx ly lz hb;go_enter Tryz.func139,Tryz.ntmps139;go_wp2_with fail;refine(CM _).out.mono ?_;rintro e w1 ⟨rfl,hk1⟩;have B2:aL w1 (w.heap.size+1+1) #[.bool false,.string ⟨#[]⟩]:=aL.keep kb hk1;have K1:Hid (Keep au w w1):=zh (Keep.both kp hk1);clear hk1 CM;obtain⟨r0,r1,f0,f1,rl⟩:=B2.two;have hne:¬w1.heap.size=w.heap.size+1+1:=om;go_wp2;refine bodyPost_ret (by simp [results,Tryz.results139,go_sem,r0,r1,rl,hne];rfl) rfl ?_;have HK:=K1;exact⟨rfl,kp⟩
theorem iF (w:World)(x:Int)(h1: -9223372036854775808≤x)(h2:x≤9223372036854775807):Calls Tryz.prog 40 #[.int .i64 x] w fun e w'=>e= .returned (Bh x 1)∧Keep au w w':=by
 obtain⟨xb,xS,lx,-,-⟩:=aH x;obtain⟨yb,yS,ly,-,-⟩:=aH 1;have C1:=fun w=>zh (vQ lx h1 h2 w);have C2:=fun w=>zh (vQ ly om om w);rw [bH lx ly];clear lx ly;go_enter Tryz.func40,Tryz.ntmps40;go_wp2_with fail;refine(C1 _).out.mono ?_;rintro e w1 ⟨rfl,hk1⟩;have B2:aL w1 w.heap.size #[.bool false,.string ⟨#[]⟩,.bool false,.string ⟨#[]⟩]:=aL.keep kb hk1;have K1:Hid (Keep au w w1):=zh (Keep.both kp hk1);clear hk1 C1;go_wp2_with fail;refine(C2 _).out.mono ?_;rintro e w2 ⟨rfl,hk2⟩;have B2:=B2.keep hk2;have K2:=zh (K1.out.both hk2);clear hk2 C2;obtain⟨r0,r1,r2,r3,f0,f1,f2,f3,rl⟩:=B2.four;go_wp2;refine bodyPost_ret (by simp [results,Tryz.results40,go_sem,r0,r1,r2,r3,rl];rfl) rfl ?_;exact⟨rfl,fF K2.out om _ _ _ _⟩
theorem Cj (w:World)(n d:Int):Calls Tryz.prog 46 #[Bh n d] w fun e w'=>e= .returned (.int .i64 n.sign)∧Keep au w w':=by
 obtain⟨nb,nS,ln,-,-⟩:=aH n;obtain⟨db,dS,ld,-,-⟩:=aH d;have SD:=fun w=>zh (gX w n);rw [ln]at SD;rw [bH ln ld];clear ln ld;go_enter Tryz.func46,Tryz.ntmps46;go_wp2_with fail;refine(SD _).out.mono ?_;rintro e w1 ⟨rfl,hk1⟩;have K1:Hid (Keep au w w1):=zh (Keep.both kp hk1);clear hk1 SD;go_wp2;go_ret;exact⟨rfl,K1.out⟩
theorem OO {n d n' d':Int}(hd:d≠0)(hn:n'=if d<0 then -n else n)(hd':d'=if d<0 then -d else d):
  0<Nat.gcd n'.natAbs d'.natAbs∧n'/(Nat.gcd n'.natAbs d'.natAbs:Nat)=(Rat.divInt n d).num∧d'/(Nat.gcd n'.natAbs d'.natAbs:Nat)=(Rat.divInt n d).den:=by
 have hp:0<d':=by rw [hd'];split<;>omega
 have hg:0<Nat.gcd n'.natAbs d'.natAbs:=Nat.gcd_pos_of_pos_right _ om;have e:Rat.divInt n d=Rat.divInt n' d':=by
  rw [hn,hd'];split
  ·exact (Rat.neg_divInt_neg n d).symm
  rfl
 obtain⟨h1,h2⟩:=Bu n' d' hp;rw [e,h1,h2];refine⟨hg,?_,?_⟩
 ·rw [Int.tdiv_eq_ediv_of_dvd (Int.ofNat_dvd_left.2 (Nat.gcd_dvd_left n'.natAbs d'.natAbs))]
 rw [Int.tdiv_eq_ediv_of_dvd (Int.ofNat_dvd_left.2 (Nat.gcd_dvd_right n'.natAbs d'.natAbs))]
theorem sM (w:World)(n d:Int)(hn:dl n≤4096)(hd:dl d≤4096)(hd0:d≠0):Calls Tryz.prog 136 #[bG n,bG d] w fun e w'=>e= .returned (qj (Rat.divInt n d))∧Keep au w w':=by
 obtain⟨n',hn'⟩:∃n',n'=if d<0 then -n else n:=⟨_,rfl⟩;obtain⟨d',hd'⟩:∃d',d'=if d<0 then -d else d:=⟨_,rfl⟩;obtain⟨hg,hp,hq⟩:=OO hd0 hn' hd';have hbn:dl n'≤4096:=by rw [hn'];split;rw [zV];exact hn;exact hn
 have hbd:dl d'≤4096:=by rw [hd'];split;rw [zV];exact hd;exact hd
 have hbg:dl (Nat.gcd n'.natAbs d'.natAbs:Nat)≤4096:=by
  have hd1:0<d'.natAbs:=by rw [hd'];split<;>omega
  have:=pJ (a:=(Nat.gcd n'.natAbs d'.natAbs:Nat)) (b:=d') (by rw [Int.natAbs_natCast];exact Nat.gcd_le_right _ hd1);omega
 have GC:=fun w=>zh (Lj w n' d' om om);have D1:=fun w=>zh (uT w n' (Nat.gcd n'.natAbs d'.natAbs:Nat) om om om);have D2:=fun w=>zh (uT w d' (Nat.gcd n'.natAbs d'.natAbs:Nat) om om om);have SD:=fun w=>zh (gX w d);have N1:=fun w=>zh (uH w n);have N2:=fun w=>zh (uH w d);rw [hp]at D1;rw [hq]at D2;have Nc:Hid (d<0↔d.sign<0):=zh (by
  rcases Int.lt_trichotomy d 0 with h | h | h
  ·rw [Int.sign_eq_neg_one_of_neg h];omega
  ·rw [h];simp
  rw [Int.sign_eq_one_of_pos h];omega)
 generalize (Nat.gcd n'.natAbs d'.natAbs:Nat)=g at *;obtain⟨nb,nS,ln,-,-⟩:=aH n;obtain⟨db,dS,ld,-,-⟩:=aH d;obtain⟨nb',nS',ln',-,-⟩:=aH n';obtain⟨db',dS',ld',-,-⟩:=aH d';obtain⟨gb,gS,lg,-,-⟩:=aH g;obtain⟨pb,pS,lp,-,-⟩:=aH (Rat.divInt n d).num;obtain⟨qb,qS,lq,-,-⟩:=aH (Rat.divInt n d).den;obtain⟨r1,hr1⟩:∃v,bG (n'%g)=v:=⟨_,rfl⟩;obtain⟨r2,hr2⟩:∃v,bG (d'%g)=v:=⟨_,rfl⟩;obtain⟨x1,y1,z1⟩:=aH (n'%g);obtain⟨x2,y2,z2⟩:=aH (d'%g);rw [z1.1]at D1;rw [z2.1]at D2;rw [ln',ld',lg]at GC;rw [ln',lg,lp]at D1;rw [ld',lg,lq]at D2;rw [ld]at SD N2;rw [ln]at N1;unfold qj;rw [bH lp lq,ln,ld];have HN:Hid (d<0→(bG (-n)= .agg #[.bool nb',.string nS']∧bG (-d)= .agg #[.bool db',.string dS'])):=zh fun h=>by
  rw [if_pos h]at hn' hd';rw [← hn',←hd'];exact⟨ln',ld'⟩
 have HN0:Hid (0≤d→nb'=nb∧nS'=nS∧db'=db∧dS'=dS):=zh fun h=>by
  rw [if_neg om]at hn' hd';rw [hn',ln]at ln';rw [hd',ld]at ld';simp at ln' ld';exact⟨ln'.1.symm,ln'.2.symm,ld'.1.symm,ld'.2.symm⟩
 clear hn hd hd0 hn' hd' hg hp hq hbn hbd hbg ln ld ln' ld' lg lp lq hr1 hr2 z1 z2 r1 r2;go_enter Tryz.func136,Tryz.ntmps136;go_wp2_with fail;refine(SD _).out.mono ?_;rintro e w1 ⟨rfl,hk1⟩;have B2:aL w1 w.heap.size #[.bool nb,.string nS]:=aL.keep kb hk1;have B3:aL w1 (w.heap.size+1) #[.bool db,.string dS]:=aL.keep kb hk1;have B4:aL w1 (w.heap.size+1+1) #[.bool false,.string ⟨#[]⟩,.bool false,.string ⟨#[]⟩]:=aL.keep kb hk1;have K1:Hid (Keep au w w1):=zh (Keep.both kp hk1);have HB2:=zh B2;have HB3:=zh B3;have fC:=zh B4;have h23:w.heap.size≠w.heap.size+1:=om;have h24:w.heap.size+1+1≠w.heap.size:=om;have h34:w.heap.size+1+1≠w.heap.size+1:=om;have HS2:Hid (w.heap.size≤w.heap.size):=zh (Nat.le_refl _);have Zm:Hid (w.heap.size≤w.heap.size+1):=zh om;have EG:Hid (w.heap.size≤w.heap.size+1+1):=zh om;clear hk1 SD B2 B3 B4;generalize w.heap.size+1+1=b4 at *;generalize w.heap.size+1=b3 at *;generalize hb2:w.heap.size=b2 at HB2 h23 h24 HS2 Zm EG ⊢;have HS2:Hid (w.heap.size≤b2):=zh om;have Zm:Hid (w.heap.size≤b3):=zh (by have:=Zm.out;omega);have EG:Hid (w.heap.size≤b4):=zh (by have:=EG.out;omega);clear hb2;go_upto_if 14 with fail;go_cut [12,14]from 15 to 38 (fun s12 s14 wx=>Keep au w wx∧aL wx b2 #[.bool nb',.string nS']∧aL wx b3 #[.bool db',.string dS']∧aL wx b4 #[.bool false,.string ⟨#[]⟩,.bool false,.string ⟨#[]⟩])
 case first=>
  by_cases hneg:d<0
  ·have e1:decide (d.sign<0)=true:=decide_eq_true (Nc.out.1 hneg);obtain⟨f1,f2⟩:=HN.out hneg;rw [f1]at N1;rw [f2]at N2;clear f1 f2;go_wp2;refine aD (fun w'=>Keep au w1 w') [4,5] [([0,2],1),([],3),([],4),([],5)] [] kr kr kp ?_;intro X W hne hF hcl;have aY:=zh hcl;have hx0:=fun x=>(HB2.out.keep (hF x)).two;have hx1:=fun x=>(HB3.out.keep (hF x)).two;clear hF hcl;simp only [aW,aJ,zl0,zl1,zl2,aX,Bool.false_eq_true,if_false]
   (repeat(quiet_step (fail)));refine wpQuiet_nil ?_
   refine ay rfl rfl fun K hK=> ?_;go_simp;refine(N1 _).out.mono ?_;rintro e w2 ⟨rfl,hk2⟩;have k2:Keep au w1 w2:=Keep.trans kp hk2 fun _ _ _ h=>h;refine hK _ _ ⟨fun _=>aY.out _ k2,?_⟩;clear hK K hk2
   (repeat(quiet_step (fail)));refine wpQuiet_nil ?_
   refine ay rfl rfl fun K hK=> ?_;go_simp;refine(N2 _).out.mono ?_;rintro e w3 ⟨rfl,hk3⟩;have k3:=k2.both hk3;refine hK _ _ ⟨fun _=>aY.out _ k3,?_⟩;have K3:=zh (K1.out.both k3);have HB2:=zh (HB2.out.keep k3);have HB3:=zh (HB3.out.keep k3);have fC:=zh (fC.out.keep k3);clear hK K hk3 k2 k3 hx0 hx1;obtain⟨p0,p1,pf0,pf1,pl⟩:=HB2.out.two
   (repeat(quiet_step (fail)));refine wpQuiet_nil ?_
   refine ay rfl rfl fun K hK=> ?_;go_simp;refine hK _ _ ⟨fun h=>(by simp at h),?_⟩;have NM:=zh (HB2.out.set2 (.bool nb') (.string nS'));have HB3:=zh (HB3.out.other2 h23.symm (.bool nb') (.string nS'));have fC:=zh (fC.out.other2 h24 (.bool nb') (.string nS'));have K4:=zh (dw K3.out HS2.out (.bool nb') (.string nS'));clear hK K p0 p1 pf0 pf1 pl HB2;generalize (w3.setCell ⟨b2,0,none⟩ (.bool nb')).setCell ⟨b2,1,none⟩ (.string nS')=w4 at *;obtain⟨p0,p1,pf0,pf1,pl⟩:=HB3.out.two
   (repeat(quiet_step (fail)));refine wpQuiet_nil ?_
   refine ay rfl rfl fun K hK=> ?_;go_simp;refine hK _ _ ⟨fun h=>(by simp at h),?_⟩;have ES:=zh (HB3.out.set2 (.bool db') (.string dS'));have NM:=zh (NM.out.other2 h23 (.bool db') (.string dS'));have fC:=zh (fC.out.other2 h34 (.bool db') (.string dS'));have K5:=zh (dw K4.out Zm.out (.bool db') (.string dS'));clear hK K p0 p1 pf0 pf1 pl;generalize (w4.setCell ⟨b3,0,none⟩ (.bool db')).setCell ⟨b3,1,none⟩ (.string dS')=w5 at*
   (repeat(quiet_step (fail)));refine wpQuiet_nil ?_
   refine NoPanic.normal ?_;go_wp2_with fail;go_meet;exact⟨K5.out,NM.out,ES.out,fC.out⟩
  have e1:decide (d.sign<0)=false:=decide_eq_false fun h=>hneg (Nc.out.2 h);have e2:¬d.sign<0:=fun h=>hneg (Nc.out.2 h);have e3:0≤d.sign:=om;have e5:0≤d:=om;have HF:=zh (HN0.out e5);go_wp2_with fail;go_meet;exact⟨K1.out,by rw [HF.out.1,HF.out.2.1];exact HB2.out,by rw [HF.out.2.2.1,HF.out.2.2.2];exact HB3.out,fC.out⟩
 obtain⟨hk2,hb2,hb3,hb4⟩:=hcut;obtain⟨w2,hw2⟩:∃W:World,W=wc:=⟨_,rfl⟩;rw [← hw2]at hk2 hb2 hb3 hb4 ⊢;have HB2:=zh hb2;have HB3:=zh hb3;have fC:=zh hb4;have K2:=zh hk2;clear hw2 hk2 hb2 hb3 hb4 K1 N1 N2 HN HN0;obtain⟨p0,p1,_,_,pl⟩:=HB2.out.two;obtain⟨q0,q1,_,_,ql⟩:=HB3.out.two;go_wp2_with fail;refine(GC _).out.mono ?_;rintro e w3 ⟨rfl,hk3⟩;have HB2:=zh (HB2.out.keep hk3);have HB3:=zh (HB3.out.keep hk3);have fC:=zh (fC.out.keep hk3);have K3:=zh (K2.out.both hk3);clear hk3 p0 p1 pl q0 q1 ql GC;obtain⟨p0,p1,_,_,pl⟩:=HB2.out.two;have hn1:¬b2=w3.heap.size:=om;go_wp2_with fail;refine(D1 _).out.mono ?_;rintro e w4 ⟨rfl,hk4⟩;have k34:Keep au w3 w4:=Keep.trans kp hk4 fun _ _ _ h=>h;have BG:aL w4 w3.heap.size #[.bool gb,.string gS]:=aL.keep kb hk4;have HBG:=zh BG;have HB3:=zh (HB3.out.keep k34);have fC:=zh (fC.out.keep k34);have K4:=zh (K3.out.both k34);clear hk4 p0 p1 pl D1 HB2 k34 BG;generalize w3.heap.size=bg at *;obtain⟨p0,p1,_,_,pl⟩:=HBG.out.two;obtain⟨q0,q1,_,_,ql⟩:=HB3.out.two;have hn2:¬bg=w4.heap.size:=om;have hn3:¬b3=w4.heap.size:=om;have hn4:¬bg=w4.heap.size+1:=om;have hn5:¬b3=w4.heap.size+1:=om;go_wp2_with fail;refine(D2 _).out.mono ?_;rintro e w5 ⟨rfl,hk5⟩;have k45:Keep au w4 w5:=Keep.trans kp hk5 fun _ _ _ h=>h;have BP:aL w5 w4.heap.size #[.bool pb,.string pS]:=aL.keep kb hk5;have HBP:=zh BP;have fC:=zh (fC.out.keep k45);have K5:=zh (K4.out.both k45);clear hk5 p0 p1 pl q0 q1 ql D2 k45 BP hn2 hn3 hn4 hn5 HBG HB3;obtain⟨p0,p1,_,_,pl⟩:=HBP.out.two;obtain⟨r0,r1,r2,r3,f0,f1,f2,f3,rl⟩:=fC.out.four;have hn2:¬w4.heap.size=w5.heap.size:=om;have hn3:¬w4.heap.size=w5.heap.size+1:=om;have hn4:¬b4=w5.heap.size:=om;have hn5:¬b4=w5.heap.size+1:=om;go_wp2;refine bodyPost_ret (by simp [results,Tryz.results136,go_sem,r0,r1,r2,r3,rl,hn4,hn5];rfl) rfl ?_;have HK:=K5;have hs4:=EG.out;exact⟨rfl,kp⟩
theorem NB.mono {j k:Nat}{q:Rat}(h:NB j q)(hk:j≤k):NB k q:=⟨Nat.le_trans h.1 hk,Nat.le_trans h.2 hk⟩
theorem mM {k:Nat}{x y:Int}(hx:dl x≤k)(hy:dl y≤k)(h0:y≠0):NB k (Rat.divInt x y):=by
 have ha:∀z:Int,∀g:Nat,(z.tdiv g).natAbs≤z.natAbs:=DL;rcases Int.lt_or_le y 0 with h | h
 ·obtain ⟨h1,h2⟩:=zai x y h;refine⟨?_,?_⟩
  ·rw [h1,zV];exact Nat.le_trans (pJ (ha _ _)) hx
  rw [h2,zV];exact Nat.le_trans (pJ (ha _ _)) hy
 obtain⟨h1,h2⟩:=Bu x y om;refine⟨?_,?_⟩
 ·rw [h1];exact Nat.le_trans (pJ (ha _ _)) hx
 rw [h2];exact Nat.le_trans (pJ (ha _ _)) hy
theorem NB.add {j k:Nat}{a b:Rat}(ha:NB j a)(hb:NB k b):NB (j+k+1) (a+b):=by
 rw [← Qy];refine mM ?_ ?_ (Int.mul_ne_zero (jT a) (jT b))
 ·refine Ir _ _ (j+k) ?_ ?_
  ·have:=iJ a.num b.den;have:=ha.1;have:=hb.2;omega
  have:=iJ b.num a.den;have:=hb.1;have:=ha.2;omega
 have:=iJ a.den b.den;have:=ha.2;have:=hb.2;omega
theorem NB.mul {j k:Nat}{a b:Rat}(ha:NB j a)(hb:NB k b):NB (j+k) (a*b):=by
 rw [← Qz];refine mM ?_ ?_ (Int.mul_ne_zero (jT a) (jT b))
 ·have:=iJ a.num b.num;have:=ha.1;have:=hb.1;omega
 have:=iJ a.den b.den;have:=ha.2;have:=hb.2;omega
theorem NB.neg {k:Nat}{a:Rat}(ha:NB k a):NB k (-a):=by
 refine⟨?_,?_⟩
 ·rw [Rat.neg_num,zV];exact ha.1
 rw [Rat.neg_den];exact ha.2
theorem NB.sub {j k:Nat}{a b:Rat}(ha:NB j a)(hb:NB k b):NB (j+k+1) (a-b):=by
 rw [Rat.sub_eq_add_neg];exact ha.add hb.neg
theorem DW {b:Rat}(h:b≠0):b.num≠0:=fun h0=>h (Rat.num_eq_zero.1 h0)
theorem NB.div {j k:Nat}{a b:Rat}(ha:NB j a)(hb:NB k b)(h0:b≠0):NB (j+k) (a/b):=by
 rw [← QA h0];refine mM ?_ ?_ (Int.mul_ne_zero (jT a) (DW h0))
 ·have:=iJ a.num b.den;have:=ha.1;have:=hb.2;omega
 have:=iJ a.den b.num;have:=ha.2;have:=hb.1;omega
theorem jg {x:Int}(h:x.natAbs<4294967296):NB 1 (x:Rat):=⟨by rw [Rat.num_intCast];exact jY (by simpa using h),by rw [Rat.den_intCast];exact jY dc⟩
theorem kW:NB 1 (0:Rat):=jg (x:=0) dc
theorem Cn (x:Int):qj (x:Rat)=Bh x 1:=by unfold qj;rw [Rat.num_intCast,Rat.den_intCast];rfl
theorem fG {q:Rat}{b c:Bool}{S U:ByteArray}(h:bG q.num= .agg #[.bool b,.string S])(h':bG (q.den:Int)= .agg #[.bool c,.string U]):qj q= .agg #[.bool b,.string S,.bool c,.string U]:=bH h h'
theorem DX (w:World)(va:Value)(a:Rat)(ha:bM va a)(vb:Value)(b:Rat)(hb:bM vb b)(H:dl a.num+dl (b.den:Int)≤4095∧dl b.num+dl (a.den:Int)≤4095∧dl (a.den:Int)+dl (b.den:Int)≤4096)  :Calls Tryz.prog 77 #[va,vb] w fun e w'=>e= .returned (qj (a+b))∧Keep au w w':=by
 obtain⟨da,rfl,hda⟩:=ha;have hza:=iW hda;obtain⟨db,rfl,hdb⟩:=hb;have hzb:=iW hdb;obtain⟨a1,a2,b1⟩:=H;have m1:=iJ a.num b.den;have m2:=iJ b.num a.den;have m3:=iJ a.den b.den;have m4:=Ir (a.num*b.den) (b.num*a.den) 4095 om om;obtain⟨qz,qA,qH,-,-⟩:=aH a.num;obtain⟨qB,qC,wD,-,-⟩:=aH da;obtain⟨aeb,aeS,xR,-,-⟩:=aH (a.den:Int);obtain⟨wE,wF,DY,-,-⟩:=aH b.num;obtain⟨wG,wH,IY,-,-⟩:=aH db;obtain⟨beb,beS,Ju,-,-⟩:=aH (b.den:Int);obtain⟨xb,xS,lx,-,-⟩:=aH (a.num*b.den);obtain⟨yb,yS,ly,-,-⟩:=aH (b.num*a.den);obtain⟨sb,sS,ls,-,-⟩:=aH (a.num*b.den+b.num*a.den);obtain⟨tb,tS,lt,-,-⟩:=aH ((a.den:Int)*b.den);obtain⟨qnb,qnS,DZ,-,-⟩:=aH ((a+b).num);obtain⟨qdb,qdS,D6,-,-⟩:=aH (((a+b).den:Int));have C0:=fun w=>zh (gK w b.num db);rw [bH DY IY,hzb,Ju]at C0;have C1:=fun w=>zh (iX w (a.num) (b.den) om);rw [qH,Ju,lx]at C1;have C2:=fun w=>zh (gK w a.num da);rw [bH qH wD,hza,xR]at C2;have C3:=fun w=>zh (iX w (b.num) (a.den) om);rw [DY,xR,ly]at C3;have C4:=fun w=>zh (Ti w (a.num*b.den) (b.num*a.den) om);rw [lx,ly,ls]at C4;have C5:=fun w=>zh (iX w (a.den) (b.den) om);rw [xR,Ju,lt]at C5;have C6:=fun w=>zh (sM w (a.num*b.den+b.num*a.den) ((a.den:Int)*b.den) om om (Int.mul_ne_zero (jT a) (jT b)));rw [Qy,fG DZ D6,ls,lt]at C6;rw [fG DZ D6];rw [bH qH wD,bH DY IY];clear qH wD xR hda hza DY IY Ju hdb hzb lx ly ls lt DZ D6 a1 a2 b1 m1 m2 m3 m4;go_enter Tryz.func77,Tryz.ntmps77;go_wp2;have B0:aL (((w.alloc (.cells #[.bool qz,.string qA,.bool qB,.string qC] 102)).alloc (.cells #[.bool wE,.string wF,.bool wG,.string wH] 102)).alloc (.cells #[.bool false,.string ⟨#[]⟩,.bool false,.string ⟨#[]⟩] 102)) (w.heap.size) #[.bool qz,.string qA,.bool qB,.string qC]:=kc;have B1:aL (((w.alloc (.cells #[.bool qz,.string qA,.bool qB,.string qC] 102)).alloc (.cells #[.bool wE,.string wF,.bool wG,.string wH] 102)).alloc (.cells #[.bool false,.string ⟨#[]⟩,.bool false,.string ⟨#[]⟩] 102)) (w.heap.size+1) #[.bool wE,.string wF,.bool wG,.string wH]:=kc;have B2:aL (((w.alloc (.cells #[.bool qz,.string qA,.bool qB,.string qC] 102)).alloc (.cells #[.bool wE,.string wF,.bool wG,.string wH] 102)).alloc (.cells #[.bool false,.string ⟨#[]⟩,.bool false,.string ⟨#[]⟩] 102)) (w.heap.size+1+1) #[.bool false,.string ⟨#[]⟩,.bool false,.string ⟨#[]⟩]:=kc;have K0:Hid (Keep au w (((w.alloc (.cells #[.bool qz,.string qA,.bool qB,.string qC] 102)).alloc (.cells #[.bool wE,.string wF,.bool wG,.string wH] 102)).alloc (.cells #[.bool false,.string ⟨#[]⟩,.bool false,.string ⟨#[]⟩] 102))):=zh kp;generalize ((w.alloc (.cells #[.bool qz,.string qA,.bool qB,.string qC] 102)).alloc (.cells #[.bool wE,.string wF,.bool wG,.string wH] 102)).alloc (.cells #[.bool false,.string ⟨#[]⟩,.bool false,.string ⟨#[]⟩] 102)=w0 at *;have HB0:=zh B0;have HB1:=zh B1;have HB2:=zh B2;clear B0 B1 B2;have qJ:Hid (w.heap.size≤w.heap.size+1+1):=zh om;generalize w.heap.size+1+1=br at *;refine aD (fun w'=>Keep au w0 w') [17] [([0,1,2,5,6,7,11,13],3),([],4),([],8),([],9),([],10),([],12),([],14),([],15),([],16),([],17)] [] kr kr kp ?_;intro X W hne hF hcl;have aY:=zh hcl;have hx0:=fun x=>(HB0.out.keep (hF x)).four;have hx1:=fun x=>(HB1.out.keep (hF x)).four;clear hF hcl;simp only [aW,aJ,zl0,zl1,zl2,aX,Bool.false_eq_true,if_false]
 (repeat(quiet_step (fail)));refine wpQuiet_nil ?_
 refine ay rfl rfl fun K hK=> ?_;go_simp;refine(C0 _).out.mono ?_;rintro e w1 ⟨rfl,hk⟩;have k1:Keep au w0 w1:=Keep.trans kp hk fun _ _ _ h=>h;refine hK _ _ ⟨fun _=>aY.out _ k1,?_⟩;clear hK K hk
 (repeat(quiet_step (fail)));refine wpQuiet_nil ?_
 refine ay rfl rfl fun K hK=> ?_;go_simp;refine(C1 _).out.mono ?_;rintro e w2 ⟨rfl,hk⟩;have k2:Keep au w0 w2:=k1.both hk;refine hK _ _ ⟨fun _=>aY.out _ k2,?_⟩;clear hK K hk
 (repeat(quiet_step (fail)));refine wpQuiet_nil ?_
 refine ay rfl rfl fun K hK=> ?_;go_simp;refine(C2 _).out.mono ?_;rintro e w3 ⟨rfl,hk⟩;have k3:Keep au w0 w3:=k2.both hk;refine hK _ _ ⟨fun _=>aY.out _ k3,?_⟩;clear hK K hk
 (repeat(quiet_step (fail)));refine wpQuiet_nil ?_
 refine ay rfl rfl fun K hK=> ?_;go_simp;refine(C3 _).out.mono ?_;rintro e w4 ⟨rfl,hk⟩;have k4:Keep au w0 w4:=k3.both hk;refine hK _ _ ⟨fun _=>aY.out _ k4,?_⟩;clear hK K hk
 (repeat(quiet_step (fail)));refine wpQuiet_nil ?_
 refine ay rfl rfl fun K hK=> ?_;go_simp;refine(C4 _).out.mono ?_;rintro e w5 ⟨rfl,hk⟩;have k5:Keep au w0 w5:=k4.both hk;refine hK _ _ ⟨fun _=>aY.out _ k5,?_⟩;clear hK K hk
 (repeat(quiet_step (fail)));refine wpQuiet_nil ?_
 refine ay rfl rfl fun K hK=> ?_;go_simp;refine(C2 _).out.mono ?_;rintro e w6 ⟨rfl,hk⟩;have k6:Keep au w0 w6:=k5.both hk;refine hK _ _ ⟨fun _=>aY.out _ k6,?_⟩;clear hK K hk
 (repeat(quiet_step (fail)));refine wpQuiet_nil ?_
 refine ay rfl rfl fun K hK=> ?_;go_simp;refine(C0 _).out.mono ?_;rintro e w7 ⟨rfl,hk⟩;have k7:Keep au w0 w7:=k6.both hk;refine hK _ _ ⟨fun _=>aY.out _ k7,?_⟩;clear hK K hk
 (repeat(quiet_step (fail)));refine wpQuiet_nil ?_
 refine ay rfl rfl fun K hK=> ?_;go_simp;refine(C5 _).out.mono ?_;rintro e w8 ⟨rfl,hk⟩;have k8:Keep au w0 w8:=k7.both hk;refine hK _ _ ⟨fun _=>aY.out _ k8,?_⟩;clear hK K hk
 (repeat(quiet_step (fail)));refine wpQuiet_nil ?_
 refine ay rfl rfl fun K hK=> ?_;go_simp;refine(C6 _).out.mono ?_;rintro e w9 ⟨rfl,hk⟩;have k9:Keep au w0 w9:=k8.both hk;refine hK _ _ ⟨fun _=>aY.out _ k9,?_⟩;clear hK K hk;have HR:=zh (HB2.out.keep k9);have KR:=zh (K0.out.both k9);clear hx0 hx1 k1 k2 k3 k4 k5 k6 k7 k8 k9;obtain⟨r0,r1,r2,r3,f0,f1,f2,f3,rl⟩:=HR.out.four
 (repeat(quiet_step (fail)));refine wpQuiet_nil ?_
 refine ay rfl rfl fun K hK=> ?_;go_simp;refine hK _ _ ⟨fun h=>(by simp at h),?_⟩;clear hK K
 (repeat(quiet_step (fail)));refine wpQuiet_nil ?_
 refine NoPanic.normal ?_;go_wp2;refine bodyPost_ret (by simp [results,Tryz.results77,go_sem,r0,r1,r2,r3,rl];rfl) rfl ?_;exact⟨rfl,fF KR.out qJ.out _ _ _ _⟩
theorem mV (w:World)(va:Value)(a:Rat)(ha:bM va a)(na:NB 1000 a)(vb:Value)(b:Rat)(hb:bM vb b)(nb:NB 1000 b)  :Calls Tryz.prog 77 #[va,vb] w fun e w'=>e= .returned (qj (a+b))∧Keep au w w':=
 DX w va a ha vb b hb (by have:=na.1;have:=na.2;have:=nb.1;have:=nb.2;omega)
theorem Lp (w:World)(va:Value)(a:Rat)(ha:bM va a)(vb:Value)(b:Rat)(hb:bM vb b)(H:dl a.num+dl b.num≤4096∧dl (a.den:Int)+dl (b.den:Int)≤4096)  :Calls Tryz.prog 78 #[va,vb] w fun e w'=>e= .returned (qj (a*b))∧Keep au w w':=by
 obtain⟨da,rfl,hda⟩:=ha;have hza:=iW hda;obtain⟨db,rfl,hdb⟩:=hb;have hzb:=iW hdb;obtain⟨a1,a2⟩:=H;have m1:=iJ a.num b.num;have m3:=iJ a.den b.den;obtain⟨qz,qA,qH,-,-⟩:=aH a.num;obtain⟨qB,qC,wD,-,-⟩:=aH da;obtain⟨aeb,aeS,xR,-,-⟩:=aH (a.den:Int);obtain⟨wE,wF,DY,-,-⟩:=aH b.num;obtain⟨wG,wH,IY,-,-⟩:=aH db;obtain⟨beb,beS,Ju,-,-⟩:=aH (b.den:Int);obtain⟨xb,xS,lx,-,-⟩:=aH (a.num*b.num);obtain⟨tb,tS,lt,-,-⟩:=aH ((a.den:Int)*b.den);obtain⟨qnb,qnS,DZ,-,-⟩:=aH ((a*b).num);obtain⟨qdb,qdS,D6,-,-⟩:=aH (((a*b).den:Int));have C0:=fun w=>zh (iX w (a.num) (b.num) om);rw [qH,DY,lx]at C0;have C1:=fun w=>zh (gK w a.num da);rw [bH qH wD,hza,xR]at C1;have C2:=fun w=>zh (gK w b.num db);rw [bH DY IY,hzb,Ju]at C2;have C3:=fun w=>zh (iX w (a.den) (b.den) om);rw [xR,Ju,lt]at C3;have C4:=fun w=>zh (sM w (a.num*b.num) ((a.den:Int)*b.den) om om (Int.mul_ne_zero (jT a) (jT b)));rw [Qz,fG DZ D6,lx,lt]at C4;rw [fG DZ D6];rw [bH qH wD,bH DY IY];clear qH wD xR hda hza DY IY Ju hdb hzb lx lt DZ D6 a1 a2 m1 m3;go_enter Tryz.func78,Tryz.ntmps78;go_wp2;have B0:aL (((w.alloc (.cells #[.bool qz,.string qA,.bool qB,.string qC] 102)).alloc (.cells #[.bool wE,.string wF,.bool wG,.string wH] 102)).alloc (.cells #[.bool false,.string ⟨#[]⟩,.bool false,.string ⟨#[]⟩] 102)) (w.heap.size) #[.bool qz,.string qA,.bool qB,.string qC]:=kc;have B1:aL (((w.alloc (.cells #[.bool qz,.string qA,.bool qB,.string qC] 102)).alloc (.cells #[.bool wE,.string wF,.bool wG,.string wH] 102)).alloc (.cells #[.bool false,.string ⟨#[]⟩,.bool false,.string ⟨#[]⟩] 102)) (w.heap.size+1) #[.bool wE,.string wF,.bool wG,.string wH]:=kc;have B2:aL (((w.alloc (.cells #[.bool qz,.string qA,.bool qB,.string qC] 102)).alloc (.cells #[.bool wE,.string wF,.bool wG,.string wH] 102)).alloc (.cells #[.bool false,.string ⟨#[]⟩,.bool false,.string ⟨#[]⟩] 102)) (w.heap.size+1+1) #[.bool false,.string ⟨#[]⟩,.bool false,.string ⟨#[]⟩]:=kc;have K0:Hid (Keep au w (((w.alloc (.cells #[.bool qz,.string qA,.bool qB,.string qC] 102)).alloc (.cells #[.bool wE,.string wF,.bool wG,.string wH] 102)).alloc (.cells #[.bool false,.string ⟨#[]⟩,.bool false,.string ⟨#[]⟩] 102))):=zh kp;generalize ((w.alloc (.cells #[.bool qz,.string qA,.bool qB,.string qC] 102)).alloc (.cells #[.bool wE,.string wF,.bool wG,.string wH] 102)).alloc (.cells #[.bool false,.string ⟨#[]⟩,.bool false,.string ⟨#[]⟩] 102)=w0 at *;have HB0:=zh B0;have HB1:=zh B1;have HB2:=zh B2;clear B0 B1 B2;have qJ:Hid (w.heap.size≤w.heap.size+1+1):=zh om;generalize w.heap.size+1+1=br at *;refine aD (fun w'=>Keep au w0 w') [11] [([0,1,2,3,5,7],4),([],6),([],8),([],9),([],10),([],11)] [] kr kr kp ?_;intro X W hne hF hcl;have aY:=zh hcl;have hx0:=fun x=>(HB0.out.keep (hF x)).four;have hx1:=fun x=>(HB1.out.keep (hF x)).four;clear hF hcl;simp only [aW,aJ,zl0,zl1,zl2,aX,Bool.false_eq_true,if_false]
 (repeat(quiet_step (fail)));refine wpQuiet_nil ?_
 refine ay rfl rfl fun K hK=> ?_;go_simp;refine(C0 _).out.mono ?_;rintro e w1 ⟨rfl,hk⟩;have k1:Keep au w0 w1:=Keep.trans kp hk fun _ _ _ h=>h;refine hK _ _ ⟨fun _=>aY.out _ k1,?_⟩;clear hK K hk
 (repeat(quiet_step (fail)));refine wpQuiet_nil ?_
 refine ay rfl rfl fun K hK=> ?_;go_simp;refine(C1 _).out.mono ?_;rintro e w2 ⟨rfl,hk⟩;have k2:Keep au w0 w2:=k1.both hk;refine hK _ _ ⟨fun _=>aY.out _ k2,?_⟩;clear hK K hk
 (repeat(quiet_step (fail)));refine wpQuiet_nil ?_
 refine ay rfl rfl fun K hK=> ?_;go_simp;refine(C2 _).out.mono ?_;rintro e w3 ⟨rfl,hk⟩;have k3:Keep au w0 w3:=k2.both hk;refine hK _ _ ⟨fun _=>aY.out _ k3,?_⟩;clear hK K hk
 (repeat(quiet_step (fail)));refine wpQuiet_nil ?_
 refine ay rfl rfl fun K hK=> ?_;go_simp;refine(C3 _).out.mono ?_;rintro e w4 ⟨rfl,hk⟩;have k4:Keep au w0 w4:=k3.both hk;refine hK _ _ ⟨fun _=>aY.out _ k4,?_⟩;clear hK K hk
 (repeat(quiet_step (fail)));refine wpQuiet_nil ?_
 refine ay rfl rfl fun K hK=> ?_;go_simp;refine(C4 _).out.mono ?_;rintro e w5 ⟨rfl,hk⟩;have k5:Keep au w0 w5:=k4.both hk;refine hK _ _ ⟨fun _=>aY.out _ k5,?_⟩;clear hK K hk;have HR:=zh (HB2.out.keep k5);have KR:=zh (K0.out.both k5);clear hx0 hx1 k1 k2 k3 k4 k5;obtain⟨r0,r1,r2,r3,f0,f1,f2,f3,rl⟩:=HR.out.four
 (repeat(quiet_step (fail)));refine wpQuiet_nil ?_
 refine ay rfl rfl fun K hK=> ?_;go_simp;refine hK _ _ ⟨fun h=>(by simp at h),?_⟩;clear hK K
 (repeat(quiet_step (fail)));refine wpQuiet_nil ?_
 refine NoPanic.normal ?_;go_wp2;refine bodyPost_ret (by simp [results,Tryz.results78,go_sem,r0,r1,r2,r3,rl];rfl) rfl ?_;exact⟨rfl,fF KR.out qJ.out _ _ _ _⟩
theorem jD (w:World)(va:Value)(a:Rat)(ha:bM va a)(na:NB 1000 a)(vb:Value)(b:Rat)(hb:bM vb b)(nb:NB 1000 b)  :Calls Tryz.prog 78 #[va,vb] w fun e w'=>e= .returned (qj (a*b))∧Keep au w w':=
 Lp w va a ha vb b hb (by have:=na.1;have:=na.2;have:=nb.1;have:=nb.2;omega)
theorem OP (w:World)(va:Value)(a:Rat)(ha:bM va a)(vb:Value)(b:Rat)(hb:bM vb b)(H:dl a.num+dl (b.den:Int)≤4096∧dl (a.den:Int)+dl b.num≤4096)(h0:b≠0):Calls Tryz.prog 73 #[va,vb] w fun e w'=>e= .returned (qj (a/b))∧Keep au w w':=by
 obtain⟨da,rfl,hda⟩:=ha;have hza:=iW hda;obtain⟨db,rfl,hdb⟩:=hb;have hzb:=iW hdb;obtain⟨a1,a2⟩:=H;have m1:=iJ a.num b.den;have m3:=iJ a.den b.num;obtain⟨qz,qA,qH,-,-⟩:=aH a.num;obtain⟨qB,qC,wD,-,-⟩:=aH da;obtain⟨aeb,aeS,xR,-,-⟩:=aH (a.den:Int);obtain⟨wE,wF,DY,-,-⟩:=aH b.num;obtain⟨wG,wH,IY,-,-⟩:=aH db;obtain⟨beb,beS,Ju,-,-⟩:=aH (b.den:Int);obtain⟨xb,xS,lx,-,-⟩:=aH (a.num*b.den);obtain⟨tb,tS,lt,-,-⟩:=aH ((a.den:Int)*b.num);obtain⟨qnb,qnS,DZ,-,-⟩:=aH ((a/b).num);obtain⟨qdb,qdS,D6,-,-⟩:=aH (((a/b).den:Int));have C0:=fun w=>zh (gK w b.num db);rw [bH DY IY,hzb,Ju]at C0;have C1:=fun w=>zh (iX w (a.num) (b.den) om);rw [qH,Ju,lx]at C1;have C2:=fun w=>zh (gK w a.num da);rw [bH qH wD,hza,xR]at C2;have C3:=fun w=>zh (iX w (a.den) (b.num) om);rw [xR,DY,lt]at C3;have C4:=fun w=>zh (sM w (a.num*b.den) ((a.den:Int)*b.num) om om (Int.mul_ne_zero (jT a) (DW h0)));rw [QA h0,fG DZ D6,lx,lt]at C4;rw [fG DZ D6];rw [bH qH wD,bH DY IY];clear qH wD xR hda hza DY IY Ju hdb hzb lx lt DZ D6 a1 a2 m1 m3 h0;go_enter Tryz.func73,Tryz.ntmps73;go_wp2;have B0:aL (((w.alloc (.cells #[.bool qz,.string qA,.bool qB,.string qC] 102)).alloc (.cells #[.bool wE,.string wF,.bool wG,.string wH] 102)).alloc (.cells #[.bool false,.string ⟨#[]⟩,.bool false,.string ⟨#[]⟩] 102)) (w.heap.size) #[.bool qz,.string qA,.bool qB,.string qC]:=kc;have B1:aL (((w.alloc (.cells #[.bool qz,.string qA,.bool qB,.string qC] 102)).alloc (.cells #[.bool wE,.string wF,.bool wG,.string wH] 102)).alloc (.cells #[.bool false,.string ⟨#[]⟩,.bool false,.string ⟨#[]⟩] 102)) (w.heap.size+1) #[.bool wE,.string wF,.bool wG,.string wH]:=kc;have B2:aL (((w.alloc (.cells #[.bool qz,.string qA,.bool qB,.string qC] 102)).alloc (.cells #[.bool wE,.string wF,.bool wG,.string wH] 102)).alloc (.cells #[.bool false,.string ⟨#[]⟩,.bool false,.string ⟨#[]⟩] 102)) (w.heap.size+1+1) #[.bool false,.string ⟨#[]⟩,.bool false,.string ⟨#[]⟩]:=kc;have K0:Hid (Keep au w (((w.alloc (.cells #[.bool qz,.string qA,.bool qB,.string qC] 102)).alloc (.cells #[.bool wE,.string wF,.bool wG,.string wH] 102)).alloc (.cells #[.bool false,.string ⟨#[]⟩,.bool false,.string ⟨#[]⟩] 102))):=zh kp;generalize ((w.alloc (.cells #[.bool qz,.string qA,.bool qB,.string qC] 102)).alloc (.cells #[.bool wE,.string wF,.bool wG,.string wH] 102)).alloc (.cells #[.bool false,.string ⟨#[]⟩,.bool false,.string ⟨#[]⟩] 102)=w0 at *;have HB0:=zh B0;have HB1:=zh B1;have HB2:=zh B2;clear B0 B1 B2;have qJ:Hid (w.heap.size≤w.heap.size+1+1):=zh om;generalize w.heap.size+1+1=br at *;refine aD (fun w'=>Keep au w0 w') [11] [([0,1,2,5,7,8],3),([],4),([],6),([],9),([],10),([],11)] [] kr kr kp ?_;intro X W hne hF hcl;have aY:=zh hcl;have hx0:=fun x=>(HB0.out.keep (hF x)).four;have hx1:=fun x=>(HB1.out.keep (hF x)).four;clear hF hcl;simp only [aW,aJ,zl0,zl1,zl2,aX,Bool.false_eq_true,if_false]
 (repeat(quiet_step (fail)));refine wpQuiet_nil ?_
 refine ay rfl rfl fun K hK=> ?_;go_simp;refine(C0 _).out.mono ?_;rintro e w1 ⟨rfl,hk⟩;have k1:Keep au w0 w1:=Keep.trans kp hk fun _ _ _ h=>h;refine hK _ _ ⟨fun _=>aY.out _ k1,?_⟩;clear hK K hk
 (repeat(quiet_step (fail)));refine wpQuiet_nil ?_
 refine ay rfl rfl fun K hK=> ?_;go_simp;refine(C1 _).out.mono ?_;rintro e w2 ⟨rfl,hk⟩;have k2:Keep au w0 w2:=k1.both hk;refine hK _ _ ⟨fun _=>aY.out _ k2,?_⟩;clear hK K hk
 (repeat(quiet_step (fail)));refine wpQuiet_nil ?_
 refine ay rfl rfl fun K hK=> ?_;go_simp;refine(C2 _).out.mono ?_;rintro e w3 ⟨rfl,hk⟩;have k3:Keep au w0 w3:=k2.both hk;refine hK _ _ ⟨fun _=>aY.out _ k3,?_⟩;clear hK K hk
 (repeat(quiet_step (fail)));refine wpQuiet_nil ?_
 refine ay rfl rfl fun K hK=> ?_;go_simp;refine(C3 _).out.mono ?_;rintro e w4 ⟨rfl,hk⟩;have k4:Keep au w0 w4:=k3.both hk;refine hK _ _ ⟨fun _=>aY.out _ k4,?_⟩;clear hK K hk
 (repeat(quiet_step (fail)));refine wpQuiet_nil ?_
 refine ay rfl rfl fun K hK=> ?_;go_simp;refine(C4 _).out.mono ?_;rintro e w5 ⟨rfl,hk⟩;have k5:Keep au w0 w5:=k4.both hk;refine hK _ _ ⟨fun _=>aY.out _ k5,?_⟩;clear hK K hk;have HR:=zh (HB2.out.keep k5);have KR:=zh (K0.out.both k5);clear hx0 hx1 k1 k2 k3 k4 k5;obtain⟨r0,r1,r2,r3,f0,f1,f2,f3,rl⟩:=HR.out.four
 (repeat(quiet_step (fail)));refine wpQuiet_nil ?_
 refine ay rfl rfl fun K hK=> ?_;go_simp;refine hK _ _ ⟨fun h=>(by simp at h),?_⟩;clear hK K
 (repeat(quiet_step (fail)));refine wpQuiet_nil ?_
 refine NoPanic.normal ?_;go_wp2;refine bodyPost_ret (by simp [results,Tryz.results73,go_sem,r0,r1,r2,r3,rl];rfl) rfl ?_;exact⟨rfl,fF KR.out qJ.out _ _ _ _⟩
theorem sJ (w:World)(va:Value)(a:Rat)(ha:bM va a)(na:NB 1000 a)(vb:Value)(b:Rat)(hb:bM vb b)(nb:NB 1000 b)(h0:b≠0):Calls Tryz.prog 73 #[va,vb] w fun e w'=>e= .returned (qj (a/b))∧Keep au w w':=
 OP w va a ha vb b hb (by have:=na.1;have:=na.2;have:=nb.1;have:=nb.2;omega) h0
theorem Tj (w:World)(va:Value)(a:Rat)(ha:bM va a)(vb:Value)(b:Rat)(hb:bM vb b)(H:dl a.num+dl (b.den:Int)≤4096∧dl b.num+dl (a.den:Int)≤4096)  :Calls Tryz.prog 39 #[va,vb] w fun e w'=>e= .returned (.int .i64 (a.num*b.den-b.num*a.den).sign)∧Keep au w w':=by
 obtain⟨da,rfl,hda⟩:=ha;have hza:=iW hda;obtain⟨db,rfl,hdb⟩:=hb;have hzb:=iW hdb;obtain⟨a1,a2⟩:=H;have m1:=iJ a.num b.den;have m2:=iJ b.num a.den;obtain⟨qz,qA,qH,-,-⟩:=aH a.num;obtain⟨qB,qC,wD,-,-⟩:=aH da;obtain⟨aeb,aeS,xR,-,-⟩:=aH (a.den:Int);obtain⟨wE,wF,DY,-,-⟩:=aH b.num;obtain⟨wG,wH,IY,-,-⟩:=aH db;obtain⟨beb,beS,Ju,-,-⟩:=aH (b.den:Int);obtain⟨xb,xS,lx,-,-⟩:=aH (a.num*b.den);obtain⟨yb,yS,ly,-,-⟩:=aH (b.num*a.den);have C0:=fun w=>zh (gK w b.num db);rw [bH DY IY,hzb,Ju]at C0;have C1:=fun w=>zh (iX w (a.num) (b.den) om);rw [qH,Ju,lx]at C1;have C2:=fun w=>zh (gK w a.num da);rw [bH qH wD,hza,xR]at C2;have C3:=fun w=>zh (iX w (b.num) (a.den) om);rw [DY,xR,ly]at C3;have C4:=fun w=>zh (AF w (a.num*b.den) (b.num*a.den) om om);rw [lx,ly]at C4
 skip
 rw [bH qH wD,bH DY IY];clear qH wD xR hda hza DY IY Ju hdb hzb lx ly a1 a2 m1 m2;go_enter Tryz.func39,Tryz.ntmps39;go_wp2;have B0:aL ((w.alloc (.cells #[.bool qz,.string qA,.bool qB,.string qC] 102)).alloc (.cells #[.bool wE,.string wF,.bool wG,.string wH] 102)) (w.heap.size) #[.bool qz,.string qA,.bool qB,.string qC]:=kc;have B1:aL ((w.alloc (.cells #[.bool qz,.string qA,.bool qB,.string qC] 102)).alloc (.cells #[.bool wE,.string wF,.bool wG,.string wH] 102)) (w.heap.size+1) #[.bool wE,.string wF,.bool wG,.string wH]:=kc;have K0:Hid (Keep au w ((w.alloc (.cells #[.bool qz,.string qA,.bool qB,.string qC] 102)).alloc (.cells #[.bool wE,.string wF,.bool wG,.string wH] 102))):=zh kp;generalize (w.alloc (.cells #[.bool qz,.string qA,.bool qB,.string qC] 102)).alloc (.cells #[.bool wE,.string wF,.bool wG,.string wH] 102)=w0 at *;have HB0:=zh B0;have HB1:=zh B1;clear B0 B1;refine aD (fun w'=>Keep au w0 w') [] [([0,1,2,5,6,7],3),([],4),([],8),([],9),([],10)] [11] kr kr kp ?_;intro X W hne hF hcl;have aY:=zh hcl;have hx0:=fun x=>(HB0.out.keep (hF x)).four;have hx1:=fun x=>(HB1.out.keep (hF x)).four;clear hF hcl;simp only [aW,aJ,zl0,zl1,zl2,aX,Bool.false_eq_true,if_false]
 (repeat(quiet_step (fail)));refine wpQuiet_nil ?_
 refine ay rfl rfl fun K hK=> ?_;go_simp;refine(C0 _).out.mono ?_;rintro e w1 ⟨rfl,hk⟩;have k1:Keep au w0 w1:=Keep.trans kp hk fun _ _ _ h=>h;refine hK _ _ ⟨fun _=>aY.out _ k1,?_⟩;clear hK K hk
 (repeat(quiet_step (fail)));refine wpQuiet_nil ?_
 refine ay rfl rfl fun K hK=> ?_;go_simp;refine(C1 _).out.mono ?_;rintro e w2 ⟨rfl,hk⟩;have k2:Keep au w0 w2:=k1.both hk;refine hK _ _ ⟨fun _=>aY.out _ k2,?_⟩;clear hK K hk
 (repeat(quiet_step (fail)));refine wpQuiet_nil ?_
 refine ay rfl rfl fun K hK=> ?_;go_simp;refine(C2 _).out.mono ?_;rintro e w3 ⟨rfl,hk⟩;have k3:Keep au w0 w3:=k2.both hk;refine hK _ _ ⟨fun _=>aY.out _ k3,?_⟩;clear hK K hk
 (repeat(quiet_step (fail)));refine wpQuiet_nil ?_
 refine ay rfl rfl fun K hK=> ?_;go_simp;refine(C3 _).out.mono ?_;rintro e w4 ⟨rfl,hk⟩;have k4:Keep au w0 w4:=k3.both hk;refine hK _ _ ⟨fun _=>aY.out _ k4,?_⟩;clear hK K hk
 (repeat(quiet_step (fail)));refine wpQuiet_nil ?_
 refine ay rfl rfl fun K hK=> ?_;go_simp;refine(C4 _).out.mono ?_;rintro e w5 ⟨rfl,hk⟩;have k5:Keep au w0 w5:=k4.both hk;refine hK _ _ ⟨fun _=>aY.out _ k5,?_⟩;clear hK K hk;have KR:=zh (K0.out.both k5)
 (repeat(quiet_step (fail)));refine wpQuiet_nil ?_
 refine NoPanic.normal ?_;go_wp2;go_ret;exact⟨rfl,KR.out⟩
theorem vF (w:World)(va:Value)(a:Rat)(ha:bM va a)(na:NB 1000 a)(vb:Value)(b:Rat)(hb:bM vb b)(nb:NB 1000 b)  :Calls Tryz.prog 39 #[va,vb] w fun e w'=>e= .returned (.int .i64 (a.num*b.den-b.num*a.den).sign)∧Keep au w w':=
 Tj w va a ha vb b hb (by have:=na.1;have:=na.2;have:=nb.1;have:=nb.2;omega)
theorem Gj (w:World)(va:Value)(a:Rat)(ha:bM va a)  :Calls Tryz.prog 134 #[va] w fun e w'=>e= .returned (qj (-a))∧Keep au w w':=by
 obtain⟨da,rfl,hda⟩:=ha;have hza:=iW hda;obtain⟨qz,qA,qH,-,-⟩:=aH a.num;obtain⟨qB,qC,wD,-,-⟩:=aH da;obtain⟨aeb,aeS,xR,-,-⟩:=aH (a.den:Int);obtain⟨qnb,qnS,DZ,-,-⟩:=aH ((-a).num);obtain⟨qdb,qdS,D6,-,-⟩:=aH (((-a).den:Int));have C0:=fun w=>zh (uH w a.num);rw [← Rat.neg_num,qH,DZ]at C0;have C1:=fun w=>zh (gK w a.num da);rw [bH qH wD,hza,←Rat.neg_den,D6]at C1;rw [fG DZ D6];rw [bH qH wD];clear qH wD xR hda hza DZ D6;go_enter Tryz.func134,Tryz.ntmps134;go_wp2;have B0:aL ((w.alloc (.cells #[.bool qz,.string qA,.bool qB,.string qC] 102)).alloc (.cells #[.bool false,.string ⟨#[]⟩,.bool false,.string ⟨#[]⟩] 102)) (w.heap.size) #[.bool qz,.string qA,.bool qB,.string qC]:=kc;have B1:aL ((w.alloc (.cells #[.bool qz,.string qA,.bool qB,.string qC] 102)).alloc (.cells #[.bool false,.string ⟨#[]⟩,.bool false,.string ⟨#[]⟩] 102)) (w.heap.size+1) #[.bool false,.string ⟨#[]⟩,.bool false,.string ⟨#[]⟩]:=kc;have K0:Hid (Keep au w ((w.alloc (.cells #[.bool qz,.string qA,.bool qB,.string qC] 102)).alloc (.cells #[.bool false,.string ⟨#[]⟩,.bool false,.string ⟨#[]⟩] 102))):=zh kp;generalize (w.alloc (.cells #[.bool qz,.string qA,.bool qB,.string qC] 102)).alloc (.cells #[.bool false,.string ⟨#[]⟩,.bool false,.string ⟨#[]⟩] 102)=w0 at *;have HB0:=zh B0;have HB1:=zh B1;clear B0 B1;have qJ:Hid (w.heap.size≤w.heap.size+1):=zh om;generalize w.heap.size+1=br at *;refine aD (fun w'=>Keep au w0 w') [6] [([0,1,3],2),([],4),([5],6)] [] kr kr kp ?_;intro X W hne hF hcl;have aY:=zh hcl;have hx0:=fun x=>(HB0.out.keep (hF x)).four;clear hF hcl;simp only [aW,aJ,zl0,zl1,zl2,aX,Bool.false_eq_true,if_false]
 (repeat(quiet_step (fail)));refine wpQuiet_nil ?_
 refine ay rfl rfl fun K hK=> ?_;go_simp;refine(C0 _).out.mono ?_;rintro e w1 ⟨rfl,hk⟩;have k1:Keep au w0 w1:=Keep.trans kp hk fun _ _ _ h=>h;refine hK _ _ ⟨fun _=>aY.out _ k1,?_⟩;clear hK K hk
 (repeat(quiet_step (fail)));refine wpQuiet_nil ?_
 refine ay rfl rfl fun K hK=> ?_;go_simp;refine(C1 _).out.mono ?_;rintro e w2 ⟨rfl,hk⟩;have k2:Keep au w0 w2:=k1.both hk;refine hK _ _ ⟨fun _=>aY.out _ k2,?_⟩;clear hK K hk;have HR:=zh (HB1.out.keep k2);have KR:=zh (K0.out.both k2);clear hx0 k1 k2;obtain⟨r0,r1,r2,r3,f0,f1,f2,f3,rl⟩:=HR.out.four
 (repeat(quiet_step (fail)));refine wpQuiet_nil ?_
 refine ay rfl rfl fun K hK=> ?_;go_simp;refine hK _ _ ⟨fun h=>(by simp at h),?_⟩;clear hK K
 (repeat(quiet_step (fail)));refine wpQuiet_nil ?_
 refine NoPanic.normal ?_;go_wp2;refine bodyPost_ret (by simp [results,Tryz.results134,go_sem,r0,r1,r2,r3,rl];rfl) rfl ?_;exact⟨rfl,fF KR.out qJ.out _ _ _ _⟩
theorem Ga (w:World)(va:Value)(a:Rat)(ha:bM va a)(na:NB 1000 a)  :Calls Tryz.prog 134 #[va] w fun e w'=>e= .returned (qj (-a))∧Keep au w w':=
 Gj w va a ha
theorem Lr (w:World)(va:Value)(a:Rat)(ha:bM va a)(vb:Value)(b:Rat)(hb:bM vb b)(H:dl a.num+dl (b.den:Int)≤4095∧dl b.num+dl (a.den:Int)≤4095∧dl (a.den:Int)+dl (b.den:Int)≤4096)  :Calls Tryz.prog 135 #[va,vb] w fun e w'=>e= .returned (qj (a-b))∧Keep au w w':=by
 obtain⟨da,rfl,hda⟩:=ha;have hza:=iW hda;obtain⟨db,rfl,hdb⟩:=hb;have hzb:=iW hdb;have H':dl a.num+dl ((-b).den:Int)≤4095∧dl (-b).num+dl (a.den:Int)≤4095∧dl (a.den:Int)+dl ((-b).den:Int)≤4096:=by rw [Rat.neg_num,Rat.neg_den,zV];exact H
 obtain⟨qz,qA,qH,-,-⟩:=aH a.num;obtain⟨qB,qC,wD,-,-⟩:=aH da;obtain⟨aeb,aeS,xR,-,-⟩:=aH (a.den:Int);obtain⟨wE,wF,DY,-,-⟩:=aH b.num;obtain⟨wG,wH,IY,-,-⟩:=aH db;obtain⟨beb,beS,Ju,-,-⟩:=aH (b.den:Int);obtain⟨cnb,cnS,lcn,-,-⟩:=aH ((-b).num);obtain⟨cdb,cdS,lcd,-,-⟩:=aH (((-b).den:Int));obtain⟨qnb,qnS,DZ,-,-⟩:=aH ((a-b).num);obtain⟨qdb,qdS,D6,-,-⟩:=aH (((a-b).den:Int));have C0:=fun w=>zh (Gj w _ b ⟨db,rfl,hdb⟩);rw [bH DY IY,fG lcn lcd]at C0;have C1:=fun w=>zh (DX w _ a ⟨da,rfl,hda⟩ _ (-b) (oV _) H');rw [← Rat.sub_eq_add_neg,bH qH wD,fG lcn lcd,fG DZ D6]at C1;rw [fG DZ D6];rw [bH qH wD,bH DY IY];clear qH wD xR hda hza DY IY Ju hdb hzb lcn lcd DZ D6 H H';go_enter Tryz.func135,Tryz.ntmps135;go_wp2;have B0:aL (((w.alloc (.cells #[.bool qz,.string qA,.bool qB,.string qC] 102)).alloc (.cells #[.bool wE,.string wF,.bool wG,.string wH] 102)).alloc (.cells #[.bool false,.string ⟨#[]⟩,.bool false,.string ⟨#[]⟩] 102)) (w.heap.size) #[.bool qz,.string qA,.bool qB,.string qC]:=kc;have B1:aL (((w.alloc (.cells #[.bool qz,.string qA,.bool qB,.string qC] 102)).alloc (.cells #[.bool wE,.string wF,.bool wG,.string wH] 102)).alloc (.cells #[.bool false,.string ⟨#[]⟩,.bool false,.string ⟨#[]⟩] 102)) (w.heap.size+1) #[.bool wE,.string wF,.bool wG,.string wH]:=kc;have B2:aL (((w.alloc (.cells #[.bool qz,.string qA,.bool qB,.string qC] 102)).alloc (.cells #[.bool wE,.string wF,.bool wG,.string wH] 102)).alloc (.cells #[.bool false,.string ⟨#[]⟩,.bool false,.string ⟨#[]⟩] 102)) (w.heap.size+1+1) #[.bool false,.string ⟨#[]⟩,.bool false,.string ⟨#[]⟩]:=kc;have K0:Hid (Keep au w (((w.alloc (.cells #[.bool qz,.string qA,.bool qB,.string qC] 102)).alloc (.cells #[.bool wE,.string wF,.bool wG,.string wH] 102)).alloc (.cells #[.bool false,.string ⟨#[]⟩,.bool false,.string ⟨#[]⟩] 102))):=zh kp;generalize ((w.alloc (.cells #[.bool qz,.string qA,.bool qB,.string qC] 102)).alloc (.cells #[.bool wE,.string wF,.bool wG,.string wH] 102)).alloc (.cells #[.bool false,.string ⟨#[]⟩,.bool false,.string ⟨#[]⟩] 102)=w0 at *;have HB0:=zh B0;have HB1:=zh B1;have HB2:=zh B2;clear B0 B1 B2;have qJ:Hid (w.heap.size≤w.heap.size+1+1):=zh om;generalize w.heap.size+1+1=br at *;refine aD (fun w'=>Keep au w0 w') [4] [([0,1],2),([],3),([],4)] [] kr kr kp ?_;intro X W hne hF hcl;have aY:=zh hcl;have hx0:=fun x=>(HB0.out.keep (hF x)).four;have hx1:=fun x=>(HB1.out.keep (hF x)).four;clear hF hcl;simp only [aW,aJ,zl0,zl1,zl2,aX,Bool.false_eq_true,if_false]
 (repeat(quiet_step (fail)));refine wpQuiet_nil ?_
 refine ay rfl rfl fun K hK=> ?_;go_simp;refine(C0 _).out.mono ?_;rintro e w1 ⟨rfl,hk⟩;have k1:Keep au w0 w1:=Keep.trans kp hk fun _ _ _ h=>h;refine hK _ _ ⟨fun _=>aY.out _ k1,?_⟩;clear hK K hk
 (repeat(quiet_step (fail)));refine wpQuiet_nil ?_
 refine ay rfl rfl fun K hK=> ?_;go_simp;refine(C1 _).out.mono ?_;rintro e w2 ⟨rfl,hk⟩;have k2:Keep au w0 w2:=k1.both hk;refine hK _ _ ⟨fun _=>aY.out _ k2,?_⟩;clear hK K hk;have HR:=zh (HB2.out.keep k2);have KR:=zh (K0.out.both k2);clear hx0 hx1 k1 k2;obtain⟨r0,r1,r2,r3,f0,f1,f2,f3,rl⟩:=HR.out.four
 (repeat(quiet_step (fail)));refine wpQuiet_nil ?_
 refine ay rfl rfl fun K hK=> ?_;go_simp;refine hK _ _ ⟨fun h=>(by simp at h),?_⟩;clear hK K
 (repeat(quiet_step (fail)));refine wpQuiet_nil ?_
 refine NoPanic.normal ?_;go_wp2;refine bodyPost_ret (by simp [results,Tryz.results135,go_sem,r0,r1,r2,r3,rl];rfl) rfl ?_;exact⟨rfl,fF KR.out qJ.out _ _ _ _⟩
theorem pO (w:World)(va:Value)(a:Rat)(ha:bM va a)(na:NB 1000 a)(vb:Value)(b:Rat)(hb:bM vb b)(nb:NB 1000 b)  :Calls Tryz.prog 135 #[va,vb] w fun e w'=>e= .returned (qj (a-b))∧Keep au w w':=
 Lr w va a ha vb b hb (by have:=na.1;have:=na.2;have:=nb.1;have:=nb.2;omega)
theorem Va (w:World)(n d:Int)(hn:n.natAbs<4294967296)(hd:d.natAbs<4294967296)(h0:d≠0):Calls Tryz.prog 86 #[.agg #[.int .i64 n,.int .i64 d]] w fun e w'=>e= .returned (qj (Rat.divInt n d))∧Keep au w w':=by
 have bn:=jY (z:=n) (k:=1) (by simpa using hn);have bd:=jY (z:=d) (k:=1) (by simpa using hd);obtain⟨xb,xS,lx,-,-⟩:=aH n;obtain⟨yb,yS,ly,-,-⟩:=aH d;obtain⟨qnb,qnS,DZ,-,-⟩:=aH (Rat.divInt n d).num;obtain⟨qdb,qdS,D6,-,-⟩:=aH ((Rat.divInt n d).den:Int);have C0:=fun w=>zh (vQ lx om om w);have C1:=fun w=>zh (vQ ly om om w);have C2:=fun w=>zh (sM w n d om om h0);rw [lx,ly,fG DZ D6]at C2;rw [fG DZ D6];clear lx ly DZ D6 bn bd hn hd h0;go_enter Tryz.func86,Tryz.ntmps86;go_wp2;have B0:aL ((w.alloc (.cells #[.int .i64 n,.int .i64 d] 95)).alloc (.cells #[.bool false,.string ⟨#[]⟩,.bool false,.string ⟨#[]⟩] 102)) w.heap.size #[.int .i64 n,.int .i64 d]:=kc;have B1:aL ((w.alloc (.cells #[.int .i64 n,.int .i64 d] 95)).alloc (.cells #[.bool false,.string ⟨#[]⟩,.bool false,.string ⟨#[]⟩] 102)) (w.heap.size+1) #[.bool false,.string ⟨#[]⟩,.bool false,.string ⟨#[]⟩]:=kc;have K0:Hid (Keep au w ((w.alloc (.cells #[.int .i64 n,.int .i64 d] 95)).alloc (.cells #[.bool false,.string ⟨#[]⟩,.bool false,.string ⟨#[]⟩] 102))):=zh kp;generalize (w.alloc (.cells #[.int .i64 n,.int .i64 d] 95)).alloc (.cells #[.bool false,.string ⟨#[]⟩,.bool false,.string ⟨#[]⟩] 102)=w0 at *;have HB0:=zh B0;have HB1:=zh B1;have qJ:Hid (w.heap.size≤w.heap.size+1):=zh om;clear B0 B1;generalize w.heap.size+1=br at *;refine aD (fun w'=>Keep au w0 w') [7] [([0,1,3,4],2),([],5),([],6),([],7)] [] kr kr kp ?_;intro X W hne hF hcl;have aY:=zh hcl;have hx0:=fun x=>(HB0.out.keep (hF x)).two;clear hF hcl;simp only [aW,aJ,zl0,zl1,zl2,aX,Bool.false_eq_true,if_false]
 (repeat(quiet_step (fail)));refine wpQuiet_nil ?_
 refine ay rfl rfl fun K hK=> ?_;go_simp;refine(C0 _).out.mono ?_;rintro e w1 ⟨rfl,hk⟩;have k1:Keep au w0 w1:=Keep.trans kp hk fun _ _ _ h=>h;refine hK _ _ ⟨fun _=>aY.out _ k1,?_⟩;clear hK K hk
 (repeat(quiet_step (fail)));refine wpQuiet_nil ?_
 refine ay rfl rfl fun K hK=> ?_;go_simp;refine(C1 _).out.mono ?_;rintro e w2 ⟨rfl,hk⟩;have k2:=k1.both hk;refine hK _ _ ⟨fun _=>aY.out _ k2,?_⟩;clear hK K hk
 (repeat(quiet_step (fail)));refine wpQuiet_nil ?_
 refine ay rfl rfl fun K hK=> ?_;go_simp;refine(C2 _).out.mono ?_;rintro e w3 ⟨rfl,hk⟩;have k3:=k2.both hk;refine hK _ _ ⟨fun _=>aY.out _ k3,?_⟩;have HR:=zh (HB1.out.keep k3);have KR:=zh (K0.out.both k3);clear hK K hk hx0 k1 k2 k3;obtain⟨r0,r1,r2,r3,f0,f1,f2,f3,rl⟩:=HR.out.four
 (repeat(quiet_step (fail)));refine wpQuiet_nil ?_
 refine ay rfl rfl fun K hK=> ?_;go_simp;refine hK _ _ ⟨fun h=>(by simp at h),?_⟩;clear hK K
 (repeat(quiet_step (fail)));refine wpQuiet_nil ?_
 refine NoPanic.normal ?_;go_wp2;refine bodyPost_ret (by simp [results,Tryz.results86,go_sem,r0,r1,r2,r3,rl];rfl) rfl ?_;exact⟨rfl,fF KR.out qJ.out _ _ _ _⟩
theorem sign_one (d:Nat):(((d:Int)-1).sign==0)=decide (d=1):=by
 by_cases h:d=1
 ·subst h;rfl
 rw [decide_eq_false h,beq_eq_false_iff_ne];intro h';have:=Int.sign_eq_zero_iff_zero.1 h';omega
theorem Ls (w:World)(va:Value)(a:Rat)(ha:bM va a)(na:NB 4000 a):Calls Tryz.prog 251 #[va] w fun e w'=>e= .returned (.bool (decide (a.den=1)))∧Keep au w w':=by
 obtain⟨da,rfl,hda⟩:=ha;have hza:=iW hda;have a2:=na.2;have h1:=jY (z:=1) (k:=1) dc;obtain⟨qz,qA,qH,-,-⟩:=aH a.num;obtain⟨qB,qC,wD,-,-⟩:=aH da;obtain⟨aeb,aeS,xR,-,-⟩:=aH (a.den:Int);obtain⟨ob,oS,lo,-,-⟩:=aH 1;have C0:=fun w=>zh (gK w a.num da);rw [bH qH wD,hza,xR]at C0;have C1:=fun w=>zh (vQ lo om om w);have C2:=fun w=>zh (AF w (a.den:Int) 1 om om);rw [xR,lo]at C2;rw [bH qH wD];have HS:=zh (sign_one a.den);generalize ((a.den:Int)-1).sign=sg at *;clear qH wD xR lo hza hda na a2 h1;go_enter Tryz.func251,Tryz.ntmps251;go_wp2_with fail;refine(C0 _).out.mono ?_;rintro e w1 ⟨rfl,hk1⟩;have K1:Hid (Keep au w w1):=zh (Keep.both kp hk1);clear hk1 C0;go_wp2_with fail;refine(C1 _).out.mono ?_;rintro e w2 ⟨rfl,hk2⟩;have K2:=zh (K1.out.both hk2);clear hk2 C1;go_wp2_with fail;refine(C2 _).out.mono ?_;rintro e w3 ⟨rfl,hk3⟩;have K3:=zh (K2.out.both hk3);clear hk3 C2;go_wp2;go_ret;exact⟨congrArg (fun b:Bool=>Ending.returned (.bool b)) HS.out,K3.out⟩
theorem QC {q:Rat}(h:Fits q):bF q.num q.den:=⟨by have:=q.den_pos;omega,by have:=h.2;omega,by have:=h.1;omega,by have:=h.1;omega,by rw [Int.natAbs_natCast];exact q.reduced⟩
theorem zaB {q:Rat}(h:¬Fits q):¬bF q.num q.den:=fun⟨_,h2,h3,h4,_⟩=>h ⟨om,om⟩
theorem Ky (w:World)(va:Value)(a:Rat)(ha:bM va a)(na:NB 1000 a):Calls Tryz.prog 251 #[va] w fun e w'=>e= .returned (.bool (decide (a.den=1)))∧Keep au w w':=
 Ls w va a ha (na.mono om)
theorem OQ (w:World)(va:Value)(a:Rat)(ha:bM va a)(na:NB 4000 a):Calls Tryz.prog 79 #[va] w fun e w'=>e= .returned (pQ a)∧Keep au w w':=by
 obtain⟨da,rfl,hda⟩:=ha;have hza:=iW hda;have a1:=na.1;have a2:=na.2;obtain⟨qz,qA,qH,-,-⟩:=aH a.num;obtain⟨qB,qC,wD,-,-⟩:=aH da;obtain⟨aeb,aeS,xR,-,-⟩:=aH (a.den:Int);have C0:=fun w=>zh (wO w a.num om);rw [qH]at C0;have C1:=fun w=>zh (gK w a.num da);rw [bH qH wD,hza,xR]at C1;have C2:=fun w=>zh (wO w (a.den:Int) om);rw [xR]at C2;rw [bH qH wD];unfold small64 at C0 C2;have OT:¬Fits a→pQ a= .tuple #[.agg #[.int .i64 0,.int .i64 0],.bool false]:=fun h=>by unfold pQ;rw [if_neg h];rfl
 have Ct:Fits a→is64 a.num∧is64 (a.den:Int):=fun h=>by
  have h1:=h.1;have h2:=h.2;unfold is64;omega
 by_cases hb:is64 a.num∧is64 (a.den:Int)
 ·have h1:=hb.1;have h2:=hb.2;rw [if_pos h1]at C0;rw [if_pos h2]at C2;clear hb;by_cases hf:Fits a
  focus
   have CC:=fun w=>zh (mR _ _ w (QC hf));have HR:Hid (pQ a= .tuple #[.agg #[.int .i64 a.num,.int .i64 a.den],.bool true]):=zh (by unfold pQ;rw [if_pos hf];rfl);rw [HR.out];generalize a.num=n at *;generalize (a.den:Int)=d at *;clear qH wD xR hza hda na a1 a2 h1 h2 hf HR OT Ct
  rotate_left
  focus
   have CC:=fun w=>zh (xZ _ _ w (zaB hf));rw [OT hf];generalize a.num=n at *;generalize (a.den:Int)=d at *;clear qH wD xR hza hda na a1 a2 h1 h2 hf OT Ct
  rotate_left
  all_goals
   go_enter Tryz.func79,Tryz.ntmps79;go_wp2_with fail;refine(C0 _).out.mono ?_;rintro e w1 ⟨rfl,hk1⟩;have B0:aL w1 w.heap.size #[.bool qz,.string qA,.bool qB,.string qC]:=aL.keep kb hk1;have B1:aL w1 (w.heap.size+1) #[.int .i64 0,.int .i64 0]:=aL.keep kb hk1;have K1:Hid (Keep au w w1):=zh (Keep.both kp hk1);have HB1:=zh B1;have Jq:Hid (w.heap.size≤w.heap.size+1):=zh om;clear hk1 C0 B1;obtain⟨p0,p1,p2,p3,_,_,_,_,pl⟩:=B0.four;generalize w.heap.size+1=br at *;go_wp2_with fail;refine(C1 _).out.mono ?_;rintro e w2 ⟨rfl,hk2⟩;have HB1:=zh (HB1.out.keep hk2);have K2:=zh (K1.out.both hk2);clear hk2 C1 p0 p1 p2 p3 pl B0;go_wp2_with fail;refine(C2 _).out.mono ?_;rintro e w3 ⟨rfl,hk3⟩;have HB1:=zh (HB1.out.keep hk3);have K3:=zh (K2.out.both hk3);clear hk3 C2;obtain⟨r0,r1,f0,f1,rl⟩:=HB1.out.two;have hn1:¬br=w3.heap.size:=om;go_wp2_with fail;refine(CC _).out.mono ?_;rintro e w4 ⟨rfl,hb4⟩;have hk4:Keep au (w3.alloc (.cells #[.int .i64 n,.int .i64 d] 95)) w4:=Keep.of_below hb4 (Nat.le_refl _);have B8:aL w4 w3.heap.size #[.int .i64 n,.int .i64 d]:=aL.keep kb hk4;have k34:Keep au w3 w4:=Keep.trans kp hk4 fun _ _ _ h=>h;have HB1:=zh (HB1.out.keep k34);have K4:=zh (K3.out.both k34);clear hk4 hb4 CC r0 r1 f0 f1 rl k34;obtain⟨r0,r1,f0,f1,rl⟩:=HB1.out.two;obtain⟨q0,q1,_,_,ql⟩:=B8.two;go_wp2;refine bodyPost_ret (by simp [results,Tryz.results79,go_sem,r0,r1,rl];rfl) rfl ?_;exact⟨rfl,dw K4.out Jq.out _ _⟩
 rw [OT fun h=>hb (Ct h)];by_cases h1:is64 a.num<;>by_cases h2:is64 (a.den:Int)
 ·exact absurd ⟨h1,h2⟩ hb
 all_goals
  first | rw [if_pos h1]at C0 | rw [if_neg h1]at C0
  first | rw [if_pos h2]at C2 | rw [if_neg h2]at C2
  generalize a.num=n at *;generalize (a.den:Int)=d at *;clear qH wD xR hza hda na a1 a2 h1 h2 hb OT Ct;go_enter Tryz.func79,Tryz.ntmps79;go_wp2_with fail;refine(C0 _).out.mono ?_;rintro e w1 ⟨rfl,hk1⟩;have B0:aL w1 w.heap.size #[.bool qz,.string qA,.bool qB,.string qC]:=aL.keep kb hk1;have B1:aL w1 (w.heap.size+1) #[.int .i64 0,.int .i64 0]:=aL.keep kb hk1;have K1:Hid (Keep au w w1):=zh (Keep.both kp hk1);have HB1:=zh B1;have Jq:Hid (w.heap.size≤w.heap.size+1):=zh om;clear hk1 C0 B1;obtain⟨p0,p1,p2,p3,_,_,_,_,pl⟩:=B0.four;generalize w.heap.size+1=br at *;go_wp2_with fail;refine(C1 _).out.mono ?_;rintro e w2 ⟨rfl,hk2⟩;have HB1:=zh (HB1.out.keep hk2);have K2:=zh (K1.out.both hk2);clear hk2 C1 p0 p1 p2 p3 pl B0;go_wp2_with fail;refine(C2 _).out.mono ?_;rintro e w3 ⟨rfl,hk3⟩;have HB1:=zh (HB1.out.keep hk3);have K3:=zh (K2.out.both hk3);clear hk3 C2;obtain⟨r0,r1,f0,f1,rl⟩:=HB1.out.two;have hn1:¬br=w3.heap.size:=om;go_wp2;refine bodyPost_ret (by simp [results,Tryz.results79,go_sem,r0,r1,rl,hn1];rfl) rfl ?_;have HK:=K3;have hs1:=Jq.out;exact⟨rfl,kp⟩
theorem D7 (w:World)(va:Value)(a:Rat)(ha:bM va a)(na:NB 1000 a):Calls Tryz.prog 79 #[va] w fun e w'=>e= .returned (pQ a)∧Keep au w w':=
 OQ w va a ha (na.mono om)
theorem Xy {z:Int}(h:dl z≤65536):z.natAbs<BIG:=zbU h (jI _)
theorem NB.rb {k:Nat}{q:Rat}(h:NB k q)(hk:k≤60000):RB BIG q:=⟨Xy (by have:=h.1;omega),by have:=Xy (z:=(q.den:Int)) (by have:=h.2;omega);simpa using this⟩
section
variable (w:World) (bz oz bx ox by' oy:Nat) (x y:Rat)
end
end Go.Proofs.YtmepglhdcphffaaGreat
