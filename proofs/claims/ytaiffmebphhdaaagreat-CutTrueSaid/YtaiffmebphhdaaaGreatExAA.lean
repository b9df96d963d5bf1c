/- Package exact: its numbers as values; den, mul, add, Int, Sign. Package exact: made. Package exact: the operations, on rational numbers of Lean. Package exact: from and to fractions; whole ones. The wide fractions' operations for numbers of so many digits. -/
import Derived.Test.YtaiffmebphhdaaaGreatLongCC
import Derived.Test.YtaiffmebphhdaaaGreatLongAA
namespace Go.Proofs.YtaiffmebphhdaaaGreat
set_option maxRecDepth 100000
set_option maxHeartbeats 8000000
set_option linter.unusedSimpArgs false
set_option linter.unusedVariables false
open Go.ChangeShapes Go.WideShapes Go.RowKit
def Aq (n d:Int):Value:= .agg #[.bool (decide (n<0)),.string (bytesOf (dw n.natAbs)),.bool (decide (d<0)),.string (bytesOf (dw d.natAbs))]
theorem Ik {z:Int}{b:Bool}{S:ByteArray}(h:bJ z= .agg #[.bool b,.string S]):decide (z<0)=b∧bytesOf (dw z.natAbs)=S:=by
 unfold bJ at h;simpa using h
theorem bF {n d:Int}{b c:Bool}{S U:ByteArray}(h:bJ n= .agg #[.bool b,.string S])(h':bJ d= .agg #[.bool c,.string U]):Aq n d= .agg #[.bool b,.string S,.bool c,.string U]:=by
 obtain⟨h1,h2⟩:=Ik h;obtain⟨h3,h4⟩:=Ik h';unfold Aq;rw [h1,h2,h3,h4]
def bO (v:Value)(q:Rat):Prop:=∃d:Int,v=Aq q.num d∧(d=q.den∨(d=0∧q.den=1))
def uo (q:Rat):Value:=Aq q.num q.den
theorem Jy (q:Rat):bO (uo q) q:=⟨_,rfl,.inl rfl⟩
theorem Zi:bO (Aq 0 0) 0:=⟨0,rfl,.inr ⟨rfl,rfl⟩⟩
def O6 (d:Int):Int:=if d=0 then 1 else d
theorem jm {d:Int}{q:Rat}(h:d=q.den∨(d=0∧q.den=1)):O6 d=q.den:=by
 unfold O6;rcases h with h | ⟨h,h'⟩
 ·rw [if_neg (by have:=q.den_pos;omega),h]
 rw [if_pos h,h'];rfl
def NB (k:Nat)(q:Rat):Prop:=dl q.num≤k∧dl q.den≤k
theorem aL.four {w:World}{k:Nat}{x y z u:Value}(h:aL w k #[x,y,z,u]):
  w.cell? ⟨k,0,none⟩=some x∧w.cell? ⟨k,1,none⟩=some y∧w.cell? ⟨k,2,none⟩=some z∧w.cell? ⟨k,3,none⟩=some u∧w.frozen? ⟨k,0,none⟩=false∧w.frozen? ⟨k,1,none⟩=false∧w.frozen? ⟨k,2,none⟩=false∧w.frozen? ⟨k,3,none⟩=false∧k<w.heap.size:=
 ⟨h.cell 0,h.cell 1,h.cell 2,h.cell 3,h.free 0,h.free 1,h.free 2,h.free 3,h.lt⟩
theorem iL {w0 w:World}{b:Nat}(h:Keep au w0 w)(hb:w0.heap.size≤b)(u v x y:Value):Keep au w0 ((((w.setCell ⟨b,0,none⟩ u).setCell ⟨b,1,none⟩ v).setCell ⟨b,2,none⟩ x).setCell ⟨b,3,none⟩ y):=
 (((h.setCell _ fun hh=>absurd hh om).setCell _ fun hh=>absurd hh om).setCell _ fun hh=>absurd hh om).setCell _ fun hh=>absurd hh om
theorem zu {x:Int}{b:Bool}{S:ByteArray}(h:bJ x= .agg #[.bool b,.string S])(h1: -9223372036854775808≤x)(h2:x≤9223372036854775807)(w:World):
  Calls Tryz.prog 75 #[.int .i64 x] w fun e w'=>e= .returned (.agg #[.bool b,.string S])∧Keep au w w':=by
 have:=xX w x h1 h2;rw [h]at this;exact this
theorem iA (w:World)(n d:Int):Calls Tryz.prog 82 #[Aq n d] w fun e w'=>e= .returned (bJ (O6 d))∧Keep au w w':=by
 obtain⟨nb,nS,ln,-,-⟩:=aH n;obtain⟨db,dS,ld,-,-⟩:=aH d;obtain⟨eb,eS,le,-,-⟩:=aH (O6 d);have SD:=fun w=>zh (iV w d);rw [ld]at SD;rw [bF ln ld,le];by_cases h0:d=0
 ·have e0:d.sign=0:=by rw [h0];rfl
  have LO:=fun w=>zh (zu (x:=1) (b:=eb) (S:=eS) (by rw [← le];unfold O6;rw [if_pos h0]) om om w);clear ln ld le h0;rw [e0]at SD;clear e0;go_enter Tryz.func82,Tryz.ntmps82;go_wp2_with fail;refine(SD _).out.mono ?_;rintro e w1 ⟨rfl,hk1⟩;have B2:aL w1 (w.heap.size+1) #[.bool false,.string ⟨#[]⟩]:=aL.keep kb hk1;have K1:Hid (Keep au w w1):=zh (Keep.both kp hk1);clear hk1 SD;go_wp2_with fail;refine(LO _).out.mono ?_;rintro e w2 ⟨rfl,hk2⟩;have B2:=B2.keep hk2;have K2:=zh (K1.out.both hk2);clear hk2 LO;obtain⟨r0,r1,f0,f1,rl⟩:=B2.two;go_wp2;refine bodyPost_ret (by simp [results,Tryz.results82,go_sem,r0,r1,rl];rfl) rfl ?_;exact⟨rfl,aV K2.out om _ _⟩
 have e0:(d.sign==0)=false:=by rw [beq_eq_false_iff_ne];intro h;exact h0 (Int.sign_eq_zero_iff_zero.1 h)
 have hd:O6 d=d:=by unfold O6;rw [if_neg h0]
 have hh:(.agg #[.bool db,.string dS]:Value)= .agg #[.bool eb,.string eS]:=by rw [← ld,←le,hd]
 have e1:eb=db:=by simp at hh;exact hh.1.symm
 have e2:eS=dS:=by simp at hh;exact hh.2.symm
 subst e1 e2;clear ln ld le h0 hd hh;go_enter Tryz.func82,Tryz.ntmps82;go_wp2_with fail;refine(SD _).out.mono ?_;rintro e w1 ⟨rfl,hk1⟩;have B1:aL w1 w.heap.size #[.bool nb,.string nS,.bool eb,.string eS]:=aL.keep kb hk1;have B2:aL w1 (w.heap.size+1) #[.bool false,.string ⟨#[]⟩]:=aL.keep kb hk1;have K1:Hid (Keep au w w1):=zh (Keep.both kp hk1);clear hk1 SD;obtain⟨q0,q1,q2,q3,_,_,_,_,ql⟩:=B1.four;obtain⟨r0,r1,f0,f1,rl⟩:=B2.two;go_wp2;refine bodyPost_ret (by simp [results,Tryz.results82,go_sem,r0,r1,rl];rfl) rfl ?_;exact⟨rfl,aV K1.out om _ _⟩
theorem jP (w:World)(x y:Int)(hb:dl x+dl y≤4096):Calls Tryz.prog 81 #[bJ x,bJ y] w fun e w'=>e= .returned (bJ (x*y))∧Keep au w w':=by
 have bx:=Eo x;have eP:=Eo y
 have hl:=Py (z:=x*y) (by have:=gU x y;omega);have CM:=fun w=>zh (Kl w x y om om om);rw [hl.1,hl.2]at CM;obtain⟨xb,xS,lx,-,-⟩:=aH x;obtain⟨yb,yS,ly,-,-⟩:=aH y;obtain⟨zb,zS,lz,-,-⟩:=aH (x*y);rw [lx,ly,lz]at CM;rw [lx,ly,lz];clear hl lx ly lz hb bx eP
 go_enter Tryz.func81,Tryz.ntmps81;go_wp2_with fail;refine(CM _).out.mono ?_;rintro e w1 ⟨rfl,hk1⟩;have B2:aL w1 (w.heap.size+1+1) #[.bool false,.string ⟨#[]⟩]:=aL.keep kb hk1;have K1:Hid (Keep au w w1):=zh (Keep.both kp hk1);clear hk1 CM;obtain⟨r0,r1,f0,f1,rl⟩:=B2.two;have hne:¬w1.heap.size=w.heap.size+1+1:=om;go_wp2;refine bodyPost_ret (by simp [results,Tryz.results81,go_sem,r0,r1,rl,hne];rfl) rfl ?_;have HK:=K1;exact⟨rfl,kp⟩
theorem TV (w:World)(x y:Int)(hb:dl x≤4095∧dl y≤4095):Calls Tryz.prog 86 #[bJ x,bJ y] w fun e w'=>e= .returned (bJ (x+y))∧Keep au w w':=by
 have hl:=Py (z:=x+y) (by have:=En x y 4095 hb.1 hb.2;omega);have CM:=fun w=>zh (Kk w x y om om);rw [hl.1,hl.2]at CM;obtain⟨xb,xS,lx,-,-⟩:=aH x;obtain⟨yb,yS,ly,-,-⟩:=aH y;obtain⟨zb,zS,lz,-,-⟩:=aH (x+y);rw [lx,ly,lz]at CM;rw [lx,ly,lz];clear hl lx ly lz hb;go_enter Tryz.func86,Tryz.ntmps86;go_wp2_with fail;refine(CM _).out.mono ?_;rintro e w1 ⟨rfl,hk1⟩;have B2:aL w1 (w.heap.size+1+1) #[.bool false,.string ⟨#[]⟩]:=aL.keep kb hk1;have K1:Hid (Keep au w w1):=zh (Keep.both kp hk1);clear hk1 CM;obtain⟨r0,r1,f0,f1,rl⟩:=B2.two;have hne:¬w1.heap.size=w.heap.size+1+1:=om;go_wp2;refine bodyPost_ret (by simp [results,Tryz.results86,go_sem,r0,r1,rl,hne];rfl) rfl ?_;have HK:=K1;exact⟨rfl,kp⟩
theorem jI (w:World)(x:Int)(h1: -9223372036854775808≤x)(h2:x≤9223372036854775807):Calls Tryz.prog 41 #[.int .i64 x] w fun e w'=>e= .returned (Aq x 1)∧Keep au w w':=by
 obtain⟨xb,xS,lx,-,-⟩:=aH x;obtain⟨yb,yS,ly,-,-⟩:=aH 1;have C1:=fun w=>zh (zu lx h1 h2 w);have C2:=fun w=>zh (zu ly om om w);rw [bF lx ly];clear lx ly;go_enter Tryz.func41,Tryz.ntmps41;go_wp2_with fail;refine(C1 _).out.mono ?_;rintro e w1 ⟨rfl,hk1⟩;have B2:aL w1 w.heap.size #[.bool false,.string ⟨#[]⟩,.bool false,.string ⟨#[]⟩]:=aL.keep kb hk1;have K1:Hid (Keep au w w1):=zh (Keep.both kp hk1);clear hk1 C1;go_wp2_with fail;refine(C2 _).out.mono ?_;rintro e w2 ⟨rfl,hk2⟩;have B2:=B2.keep hk2;have K2:=zh (K1.out.both hk2);clear hk2 C2;obtain⟨r0,r1,r2,r3,f0,f1,f2,f3,rl⟩:=B2.four;go_wp2;refine bodyPost_ret (by simp [results,Tryz.results41,go_sem,r0,r1,r2,r3,rl];rfl) rfl ?_;exact⟨rfl,iL K2.out om _ _ _ _⟩
theorem Et (w:World)(n d:Int):Calls Tryz.prog 43 #[Aq n d] w fun e w'=>e= .returned (.int .i64 n.sign)∧Keep au w w':=by
 obtain⟨nb,nS,ln,-,-⟩:=aH n;obtain⟨db,dS,ld,-,-⟩:=aH d;have SD:=fun w=>zh (iV w n);rw [ln]at SD;rw [bF ln ld];clear ln ld;go_enter Tryz.func43,Tryz.ntmps43;go_wp2_with fail;refine(SD _).out.mono ?_;rintro e w1 ⟨rfl,hk1⟩;have K1:Hid (Keep au w w1):=zh (Keep.both kp hk1);clear hk1 SD;go_wp2;go_ret;exact⟨rfl,K1.out⟩
theorem O7 {n d n' d':Int}(hd:d≠0)(hn:n'=if d<0 then -n else n)(hd':d'=if d<0 then -d else d):
  0<Nat.gcd n'.natAbs d'.natAbs∧n'/(Nat.gcd n'.natAbs d'.natAbs:Nat)=(Rat.divInt n d).num∧d'/(Nat.gcd n'.natAbs d'.natAbs:Nat)=(Rat.divInt n d).den:=by
 have hp:0<d':=by rw [hd'];split<;>omega
 have hg:0<Nat.gcd n'.natAbs d'.natAbs:=Nat.gcd_pos_of_pos_right _ om;have e:Rat.divInt n d=Rat.divInt n' d':=by
  rw [hn,hd'];split
  ·exact (Rat.neg_divInt_neg n d).symm
  rfl
 obtain⟨h1,h2⟩:=DR n' d' hp;rw [e,h1,h2];refine⟨hg,?_,?_⟩
 ·rw [Int.tdiv_eq_ediv_of_dvd (Int.ofNat_dvd_left.2 (Nat.gcd_dvd_left n'.natAbs d'.natAbs))]
 rw [Int.tdiv_eq_ediv_of_dvd (Int.ofNat_dvd_left.2 (Nat.gcd_dvd_right n'.natAbs d'.natAbs))]
theorem yD (w:World)(n d:Int)(hn:dl n≤4096)(hd:dl d≤4096)(hd0:d≠0):Calls Tryz.prog 80 #[bJ n,bJ d] w fun e w'=>e= .returned (uo (Rat.divInt n d))∧Keep au w w':=by
 obtain⟨n',hn'⟩:∃n',n'=if d<0 then -n else n:=⟨_,rfl⟩;obtain⟨d',hd'⟩:∃d',d'=if d<0 then -d else d:=⟨_,rfl⟩;obtain⟨hg,hp,hq⟩:=O7 hd0 hn' hd';have hbn:dl n'≤4096:=by rw [hn'];split;rw [xY];exact hn;exact hn
 have hbd:dl d'≤4096:=by rw [hd'];split;rw [xY];exact hd;exact hd
 have hbg:dl (Nat.gcd n'.natAbs d'.natAbs:Nat)≤4096:=by
  have hd1:0<d'.natAbs:=by rw [hd'];split<;>omega
  have:=oF (a:=(Nat.gcd n'.natAbs d'.natAbs:Nat)) (b:=d') (by rw [Int.natAbs_natCast];exact Nat.gcd_le_right _ hd1);omega
 have GC:=fun w=>zh (MZ w n' d' om om);have D1:=fun w=>zh (pW w n' (Nat.gcd n'.natAbs d'.natAbs:Nat) om om om);have D2:=fun w=>zh (pW w d' (Nat.gcd n'.natAbs d'.natAbs:Nat) om om om);have SD:=fun w=>zh (iV w d);have N1:=fun w=>zh (uZ w n);have N2:=fun w=>zh (uZ w d);rw [hp]at D1;rw [hq]at D2;have Pd:Hid (d<0↔d.sign<0):=zh (by
  rcases Int.lt_trichotomy d 0 with h | h | h
  ·rw [Int.sign_eq_neg_one_of_neg h];omega
  ·rw [h];simp
  rw [Int.sign_eq_one_of_pos h];omega)
 generalize (Nat.gcd n'.natAbs d'.natAbs:Nat)=g at *;obtain⟨nb,nS,ln,-,-⟩:=aH n;obtain⟨db,dS,ld,-,-⟩:=aH d;obtain⟨nb',nS',ln',-,-⟩:=aH n';obtain⟨db',dS',ld',-,-⟩:=aH d';obtain⟨gb,gS,lg,-,-⟩:=aH g;obtain⟨pb,pS,lp,-,-⟩:=aH (Rat.divInt n d).num;obtain⟨qb,qS,lq,-,-⟩:=aH (Rat.divInt n d).den;obtain⟨r1,hr1⟩:∃v,bJ (n'%g)=v:=⟨_,rfl⟩;obtain⟨r2,hr2⟩:∃v,bJ (d'%g)=v:=⟨_,rfl⟩;obtain⟨x1,y1,z1⟩:=aH (n'%g);obtain⟨x2,y2,z2⟩:=aH (d'%g);rw [z1.1]at D1;rw [z2.1]at D2;rw [ln',ld',lg]at GC;rw [ln',lg,lp]at D1;rw [ld',lg,lq]at D2;rw [ld]at SD N2;rw [ln]at N1;unfold uo;rw [bF lp lq,ln,ld];have HN:Hid (d<0→(bJ (-n)= .agg #[.bool nb',.string nS']∧bJ (-d)= .agg #[.bool db',.string dS'])):=zh fun h=>by
  rw [if_pos h]at hn' hd';rw [← hn',←hd'];exact⟨ln',ld'⟩
 have HN0:Hid (0≤d→nb'=nb∧nS'=nS∧db'=db∧dS'=dS):=zh fun h=>by
  rw [if_neg om]at hn' hd';rw [hn',ln]at ln';rw [hd',ld]at ld';simp at ln' ld';exact⟨ln'.1.symm,ln'.2.symm,ld'.1.symm,ld'.2.symm⟩
 clear hn hd hd0 hn' hd' hg hp hq hbn hbd hbg ln ld ln' ld' lg lp lq hr1 hr2 z1 z2 r1 r2;go_enter Tryz.func80,Tryz.ntmps80;go_wp2_with fail;refine(SD _).out.mono ?_;rintro e w1 ⟨rfl,hk1⟩;have B2:aL w1 w.heap.size #[.bool nb,.string nS]:=aL.keep kb hk1;have B3:aL w1 (w.heap.size+1) #[.bool db,.string dS]:=aL.keep kb hk1;have B4:aL w1 (w.heap.size+1+1) #[.bool false,.string ⟨#[]⟩,.bool false,.string ⟨#[]⟩]:=aL.keep kb hk1;have K1:Hid (Keep au w w1):=zh (Keep.both kp hk1);have HB2:=zh B2;have HB3:=zh B3;have fH:=zh B4;have h23:w.heap.size≠w.heap.size+1:=om;have h24:w.heap.size+1+1≠w.heap.size:=om;have h34:w.heap.size+1+1≠w.heap.size+1:=om;have HS2:Hid (w.heap.size≤w.heap.size):=zh (Nat.le_refl _);have HS3:Hid (w.heap.size≤w.heap.size+1):=zh om;have Cx:Hid (w.heap.size≤w.heap.size+1+1):=zh om;clear hk1 SD B2 B3 B4;generalize w.heap.size+1+1=b4 at *;generalize w.heap.size+1=b3 at *;generalize hb2:w.heap.size=b2 at HB2 h23 h24 HS2 HS3 Cx ⊢;have HS2:Hid (w.heap.size≤b2):=zh om;have HS3:Hid (w.heap.size≤b3):=zh (by have:=HS3.out;omega);have Cx:Hid (w.heap.size≤b4):=zh (by have:=Cx.out;omega);clear hb2;go_upto_if 14 with fail;go_cut [12,14]from 15 to 38 (fun s12 s14 wx=>Keep au w wx∧aL wx b2 #[.bool nb',.string nS']∧aL wx b3 #[.bool db',.string dS']∧aL wx b4 #[.bool false,.string ⟨#[]⟩,.bool false,.string ⟨#[]⟩])
 case first=>
  by_cases hneg:d<0
  ·have e1:decide (d.sign<0)=true:=decide_eq_true (Pd.out.1 hneg);obtain⟨f1,f2⟩:=HN.out hneg;rw [f1]at N1;rw [f2]at N2;clear f1 f2;go_wp2;refine aD (fun w'=>Keep au w1 w') [4,5] [([0,2],1),([],3),([],4),([],5)] [] kr kr kp ?_;intro X W hne hF hcl;have aQ:=zh hcl;have hx0:=fun x=>(HB2.out.keep (hF x)).two;have hx1:=fun x=>(HB3.out.keep (hF x)).two;clear hF hcl;simp only [aO,aJ,zl0,zl1,zl2,aR,Bool.false_eq_true,if_false]
   (repeat(quiet_step (fail)));refine wpQuiet_nil ?_
   refine ay rfl rfl fun K hK=> ?_;go_simp;refine(N1 _).out.mono ?_;rintro e w2 ⟨rfl,hk2⟩;have k2:Keep au w1 w2:=Keep.trans kp hk2 fun _ _ _ h=>h;refine hK _ _ ⟨fun _=>aQ.out _ k2,?_⟩;clear hK K hk2
   (repeat(quiet_step (fail)));refine wpQuiet_nil ?_
   refine ay rfl rfl fun K hK=> ?_;go_simp;refine(N2 _).out.mono ?_;rintro e w3 ⟨rfl,hk3⟩;have k3:=k2.both hk3;refine hK _ _ ⟨fun _=>aQ.out _ k3,?_⟩;have K3:=zh (K1.out.both k3);have HB2:=zh (HB2.out.keep k3);have HB3:=zh (HB3.out.keep k3);have fH:=zh (fH.out.keep k3);clear hK K hk3 k2 k3 hx0 hx1;obtain⟨p0,p1,pf0,pf1,pl⟩:=HB2.out.two
   (repeat(quiet_step (fail)));refine wpQuiet_nil ?_
   refine ay rfl rfl fun K hK=> ?_;go_simp;refine hK _ _ ⟨fun h=>(by simp at h),?_⟩;have Xk:=zh (HB2.out.set2 (.bool nb') (.string nS'));have HB3:=zh (HB3.out.other2 h23.symm (.bool nb') (.string nS'));have fH:=zh (fH.out.other2 h24 (.bool nb') (.string nS'));have K4:=zh (aV K3.out HS2.out (.bool nb') (.string nS'));clear hK K p0 p1 pf0 pf1 pl HB2;generalize (w3.setCell ⟨b2,0,none⟩ (.bool nb')).setCell ⟨b2,1,none⟩ (.string nS')=w4 at *;obtain⟨p0,p1,pf0,pf1,pl⟩:=HB3.out.two
   (repeat(quiet_step (fail)));refine wpQuiet_nil ?_
   refine ay rfl rfl fun K hK=> ?_;go_simp;refine hK _ _ ⟨fun h=>(by simp at h),?_⟩;have Tv:=zh (HB3.out.set2 (.bool db') (.string dS'));have Xk:=zh (Xk.out.other2 h23 (.bool db') (.string dS'));have fH:=zh (fH.out.other2 h34 (.bool db') (.string dS'));have K5:=zh (aV K4.out HS3.out (.bool db') (.string dS'));clear hK K p0 p1 pf0 pf1 pl;generalize (w4.setCell ⟨b3,0,none⟩ (.bool db')).setCell ⟨b3,1,none⟩ (.string dS')=w5 at*
   (repeat(quiet_step (fail)));refine wpQuiet_nil ?_
   refine NoPanic.normal ?_;go_wp2_with fail;go_meet;exact⟨K5.out,Xk.out,Tv.out,fH.out⟩
  have e1:decide (d.sign<0)=false:=decide_eq_false fun h=>hneg (Pd.out.2 h);have e2:¬d.sign<0:=fun h=>hneg (Pd.out.2 h);have e3:0≤d.sign:=om;have e5:0≤d:=om;have HF:=zh (HN0.out e5);go_wp2_with fail;go_meet;exact⟨K1.out,by rw [HF.out.1,HF.out.2.1];exact HB2.out,by rw [HF.out.2.2.1,HF.out.2.2.2];exact HB3.out,fH.out⟩
 obtain⟨hk2,hb2,hb3,hb4⟩:=hcut;obtain⟨w2,hw2⟩:∃W:World,W=wc:=⟨_,rfl⟩;rw [← hw2]at hk2 hb2 hb3 hb4 ⊢;have HB2:=zh hb2;have HB3:=zh hb3;have fH:=zh hb4;have K2:=zh hk2;clear hw2 hk2 hb2 hb3 hb4 K1 N1 N2 HN HN0;obtain⟨p0,p1,_,_,pl⟩:=HB2.out.two;obtain⟨q0,q1,_,_,ql⟩:=HB3.out.two;go_wp2_with fail;refine(GC _).out.mono ?_;rintro e w3 ⟨rfl,hk3⟩;have HB2:=zh (HB2.out.keep hk3);have HB3:=zh (HB3.out.keep hk3);have fH:=zh (fH.out.keep hk3);have K3:=zh (K2.out.both hk3);clear hk3 p0 p1 pl q0 q1 ql GC;obtain⟨p0,p1,_,_,pl⟩:=HB2.out.two;have hn1:¬b2=w3.heap.size:=om;go_wp2_with fail;refine(D1 _).out.mono ?_;rintro e w4 ⟨rfl,hk4⟩;have k34:Keep au w3 w4:=Keep.trans kp hk4 fun _ _ _ h=>h;have BG:aL w4 w3.heap.size #[.bool gb,.string gS]:=aL.keep kb hk4;have HBG:=zh BG;have HB3:=zh (HB3.out.keep k34);have fH:=zh (fH.out.keep k34);have K4:=zh (K3.out.both k34);clear hk4 p0 p1 pl D1 HB2 k34 BG;generalize w3.heap.size=bg at *;obtain⟨p0,p1,_,_,pl⟩:=HBG.out.two;obtain⟨q0,q1,_,_,ql⟩:=HB3.out.two;have hn2:¬bg=w4.heap.size:=om;have hn3:¬b3=w4.heap.size:=om;have hn4:¬bg=w4.heap.size+1:=om;have hn5:¬b3=w4.heap.size+1:=om;go_wp2_with fail;refine(D2 _).out.mono ?_;rintro e w5 ⟨rfl,hk5⟩;have k45:Keep au w4 w5:=Keep.trans kp hk5 fun _ _ _ h=>h;have BP:aL w5 w4.heap.size #[.bool pb,.string pS]:=aL.keep kb hk5;have HBP:=zh BP;have fH:=zh (fH.out.keep k45);have K5:=zh (K4.out.both k45);clear hk5 p0 p1 pl q0 q1 ql D2 k45 BP hn2 hn3 hn4 hn5 HBG HB3;obtain⟨p0,p1,_,_,pl⟩:=HBP.out.two;obtain⟨r0,r1,r2,r3,f0,f1,f2,f3,rl⟩:=fH.out.four;have hn2:¬w4.heap.size=w5.heap.size:=om;have hn3:¬w4.heap.size=w5.heap.size+1:=om;have hn4:¬b4=w5.heap.size:=om;have hn5:¬b4=w5.heap.size+1:=om;go_wp2;refine bodyPost_ret (by simp [results,Tryz.results80,go_sem,r0,r1,r2,r3,rl,hn4,hn5];rfl) rfl ?_;have HK:=K5;have hs4:=Cx.out;exact⟨rfl,kp⟩
theorem NB.mono {j k:Nat}{q:Rat}(h:NB j q)(hk:j≤k):NB k q:=⟨Nat.le_trans h.1 hk,Nat.le_trans h.2 hk⟩
theorem wR {k:Nat}{x y:Int}(hx:dl x≤k)(hy:dl y≤k)(h0:y≠0):NB k (Rat.divInt x y):=by
 have ha:∀z:Int,∀g:Nat,(z.tdiv g).natAbs≤z.natAbs:=qj;rcases Int.lt_or_le y 0 with h | h
 ·obtain ⟨h1,h2⟩:=Qq x y h;refine⟨?_,?_⟩
  ·rw [h1,xY];exact Nat.le_trans (oF (ha _ _)) hx
  rw [h2,xY];exact Nat.le_trans (oF (ha _ _)) hy
 obtain⟨h1,h2⟩:=DR x y om;refine⟨?_,?_⟩
 ·rw [h1];exact Nat.le_trans (oF (ha _ _)) hx
 rw [h2];exact Nat.le_trans (oF (ha _ _)) hy
theorem NB.add {j k:Nat}{a b:Rat}(ha:NB j a)(hb:NB k b):NB (j+k+1) (a+b):=by
 rw [← IE];refine wR ?_ ?_ (Int.mul_ne_zero (jA a) (jA b))
 ·refine En _ _ (j+k) ?_ ?_
  ·have:=gU a.num b.den;have:=ha.1;have:=hb.2;omega
  have:=gU b.num a.den;have:=hb.1;have:=ha.2;omega
 have:=gU a.den b.den;have:=ha.2;have:=hb.2;omega
theorem NB.mul {j k:Nat}{a b:Rat}(ha:NB j a)(hb:NB k b):NB (j+k) (a*b):=by
 rw [← IC];refine wR ?_ ?_ (Int.mul_ne_zero (jA a) (jA b))
 ·have:=gU a.num b.num;have:=ha.1;have:=hb.1;omega
 have:=gU a.den b.den;have:=ha.2;have:=hb.2;omega
theorem NB.neg {k:Nat}{a:Rat}(ha:NB k a):NB k (-a):=by
 refine⟨?_,?_⟩
 ·rw [Rat.neg_num,xY];exact ha.1
 rw [Rat.neg_den];exact ha.2
theorem NB.sub {j k:Nat}{a b:Rat}(ha:NB j a)(hb:NB k b):NB (j+k+1) (a-b):=by
 rw [Rat.sub_eq_add_neg];exact ha.add hb.neg
theorem FC {b:Rat}(h:b≠0):b.num≠0:=fun h0=>h (Rat.num_eq_zero.1 h0)
theorem NB.div {j k:Nat}{a b:Rat}(ha:NB j a)(hb:NB k b)(h0:b≠0):NB (j+k) (a/b):=by
 rw [← Pk h0];refine wR ?_ ?_ (Int.mul_ne_zero (jA a) (FC h0))
 ·have:=gU a.num b.den;have:=ha.1;have:=hb.2;omega
 have:=gU a.den b.num;have:=ha.2;have:=hb.1;omega
theorem jv {x:Int}(h:x.natAbs<4294967296):NB 1 (x:Rat):=⟨by rw [Rat.num_intCast];exact rO (by simpa using h),by rw [Rat.den_intCast];exact rO dc⟩
theorem jJ:NB 1 (0:Rat):=jv (x:=0) dc
theorem UD (x:Int):uo (x:Rat)=Aq x 1:=by unfold uo;rw [Rat.num_intCast,Rat.den_intCast];rfl
theorem iO {q:Rat}{b c:Bool}{S U:ByteArray}(h:bJ q.num= .agg #[.bool b,.string S])(h':bJ (q.den:Int)= .agg #[.bool c,.string U]):uo q= .agg #[.bool b,.string S,.bool c,.string U]:=bF h h'
theorem FD (w:World)(va:Value)(a:Rat)(ha:bO va a)(vb:Value)(b:Rat)(hb:bO vb b)(H:dl a.num+dl (b.den:Int)≤4095∧dl b.num+dl (a.den:Int)≤4095∧dl (a.den:Int)+dl (b.den:Int)≤4096)  :Calls Tryz.prog 54 #[va,vb] w fun e w'=>e= .returned (uo (a+b))∧Keep au w w':=by
 obtain⟨da,rfl,hda⟩:=ha;have hza:=jm hda;obtain⟨db,rfl,hdb⟩:=hb;have hzb:=jm hdb;obtain⟨a1,a2,b1⟩:=H;have m1:=gU a.num b.den;have m2:=gU b.num a.den;have m3:=gU a.den b.den;have m4:=En (a.num*b.den) (b.num*a.den) 4095 om om;obtain⟨lK,lM,nE,-,-⟩:=aH a.num;obtain⟨lY,lZ,rA,-,-⟩:=aH da;obtain⟨XQ,XT,uQ,-,-⟩:=aH (a.den:Int);obtain⟨xg,xu,FE,-,-⟩:=aH b.num;obtain⟨xw,xC,JI,-,-⟩:=aH db;obtain⟨beb,beS,JR,-,-⟩:=aH (b.den:Int);obtain⟨xb,xS,lx,-,-⟩:=aH (a.num*b.den);obtain⟨yb,yS,ly,-,-⟩:=aH (b.num*a.den);obtain⟨sb,sS,ls,-,-⟩:=aH (a.num*b.den+b.num*a.den);obtain⟨tb,tS,lt,-,-⟩:=aH ((a.den:Int)*b.den);obtain⟨qnb,qnS,JJ,-,-⟩:=aH ((a+b).num);obtain⟨qdb,qdS,JK,-,-⟩:=aH (((a+b).den:Int));have C0:=fun w=>zh (iA w b.num db);rw [bF FE JI,hzb,JR]at C0;have C1:=fun w=>zh (jP w (a.num) (b.den) om);rw [nE,JR,lx]at C1;have C2:=fun w=>zh (iA w a.num da);rw [bF nE rA,hza,uQ]at C2;have C3:=fun w=>zh (jP w (b.num) (a.den) om);rw [FE,uQ,ly]at C3;have C4:=fun w=>zh (TV w (a.num*b.den) (b.num*a.den) om);rw [lx,ly,ls]at C4;have C5:=fun w=>zh (jP w (a.den) (b.den) om);rw [uQ,JR,lt]at C5;have C6:=fun w=>zh (yD w (a.num*b.den+b.num*a.den) ((a.den:Int)*b.den) om om (Int.mul_ne_zero (jA a) (jA b)));rw [IE,iO JJ JK,ls,lt]at C6;rw [iO JJ JK];rw [bF nE rA,bF FE JI];clear nE rA uQ hda hza FE JI JR hdb hzb lx ly ls lt JJ JK a1 a2 b1 m1 m2 m3 m4;go_enter Tryz.func54,Tryz.ntmps54;go_wp2;have B0:aL (((w.alloc (.cells #[.bool lK,.string lM,.bool lY,.string lZ] 93)).alloc (.cells #[.bool xg,.string xu,.bool xw,.string xC] 93)).alloc (.cells #[.bool false,.string ⟨#[]⟩,.bool false,.string ⟨#[]⟩] 93)) (w.heap.size) #[.bool lK,.string lM,.bool lY,.string lZ]:=kc;have B1:aL (((w.alloc (.cells #[.bool lK,.string lM,.bool lY,.string lZ] 93)).alloc (.cells #[.bool xg,.string xu,.bool xw,.string xC] 93)).alloc (.cells #[.bool false,.string ⟨#[]⟩,.bool false,.string ⟨#[]⟩] 93)) (w.heap.size+1) #[.bool xg,.string xu,.bool xw,.string xC]:=kc;have B2:aL (((w.alloc (.cells #[.bool lK,.string lM,.bool lY,.string lZ] 93)).alloc (.cells #[.bool xg,.string xu,.bool xw,.string xC] 93)).alloc (.cells #[.bool false,.string ⟨#[]⟩,.bool false,.string ⟨#[]⟩] 93)) (w.heap.size+1+1) #[.bool false,.string ⟨#[]⟩,.bool false,.string ⟨#[]⟩]:=kc;have K0:Hid (Keep au w (((w.alloc (.cells #[.bool lK,.string lM,.bool lY,.string lZ] 93)).alloc (.cells #[.bool xg,.string xu,.bool xw,.string xC] 93)).alloc (.cells #[.bool false,.string ⟨#[]⟩,.bool false,.string ⟨#[]⟩] 93))):=zh kp;generalize ((w.alloc (.cells #[.bool lK,.string lM,.bool lY,.string lZ] 93)).alloc (.cells #[.bool xg,.string xu,.bool xw,.string xC] 93)).alloc (.cells #[.bool false,.string ⟨#[]⟩,.bool false,.string ⟨#[]⟩] 93)=w0 at *;have HB0:=zh B0;have HB1:=zh B1;have HB2:=zh B2;clear B0 B1 B2;have FL:Hid (w.heap.size≤w.heap.size+1+1):=zh om;generalize w.heap.size+1+1=br at *;refine aD (fun w'=>Keep au w0 w') [17] [([0,1,2,5,6,7,11,13],3),([],4),([],8),([],9),([],10),([],12),([],14),([],15),([],16),([],17)] [] kr kr kp ?_;intro X W hne hF hcl;have aQ:=zh hcl;have hx0:=fun x=>(HB0.out.keep (hF x)).four;have hx1:=fun x=>(HB1.out.keep (hF x)).four;clear hF hcl;simp only [aO,aJ,zl0,zl1,zl2,aR,Bool.false_eq_true,if_false]
 (repeat(quiet_step (fail)));refine wpQuiet_nil ?_
 refine ay rfl rfl fun K hK=> ?_;go_simp;refine(C0 _).out.mono ?_;rintro e w1 ⟨rfl,hk⟩;have k1:Keep au w0 w1:=Keep.trans kp hk fun _ _ _ h=>h;refine hK _ _ ⟨fun _=>aQ.out _ k1,?_⟩;clear hK K hk
 (repeat(quiet_step (fail)));refine wpQuiet_nil ?_
 refine ay rfl rfl fun K hK=> ?_;go_simp;refine(C1 _).out.mono ?_;rintro e w2 ⟨rfl,hk⟩;have k2:Keep au w0 w2:=k1.both hk;refine hK _ _ ⟨fun _=>aQ.out _ k2,?_⟩;clear hK K hk
 (repeat(quiet_step (fail)));refine wpQuiet_nil ?_
 refine ay rfl rfl fun K hK=> ?_;go_simp;refine(C2 _).out.mono ?_;rintro e w3 ⟨rfl,hk⟩;have k3:Keep au w0 w3:=k2.both hk;refine hK _ _ ⟨fun _=>aQ.out _ k3,?_⟩;clear hK K hk
 (repeat(quiet_step (fail)));refine wpQuiet_nil ?_
 refine ay rfl rfl fun K hK=> ?_;go_simp;refine(C3 _).out.mono ?_;rintro e w4 ⟨rfl,hk⟩;have k4:Keep au w0 w4:=k3.both hk;refine hK _ _ ⟨fun _=>aQ.out _ k4,?_⟩;clear hK K hk
 (repeat(quiet_step (fail)));refine wpQuiet_nil ?_
 refine ay rfl rfl fun K hK=> ?_;go_simp;refine(C4 _).out.mono ?_;rintro e w5 ⟨rfl,hk⟩;have k5:Keep au w0 w5:=k4.both hk;refine hK _ _ ⟨fun _=>aQ.out _ k5,?_⟩;clear hK K hk
 (repeat(quiet_step (fail)));refine wpQuiet_nil ?_
 refine ay rfl rfl fun K hK=> ?_;go_simp;refine(C2 _).out.mono ?_;rintro e w6 ⟨rfl,hk⟩;have k6:Keep au w0 w6:=k5.both hk;refine hK _ _ ⟨fun _=>aQ.out _ k6,?_⟩;clear hK K hk
 (repeat(quiet_step (fail)));refine wpQuiet_nil ?_
 refine ay rfl rfl fun K hK=> ?_;go_simp;refine(C0 _).out.mono ?_;rintro e w7 ⟨rfl,hk⟩;have k7:Keep au w0 w7:=k6.both hk;refine hK _ _ ⟨fun _=>aQ.out _ k7,?_⟩;clear hK K hk
 (repeat(quiet_step (fail)));refine wpQuiet_nil ?_
 refine ay rfl rfl fun K hK=> ?_;go_simp;refine(C5 _).out.mono ?_;rintro e w8 ⟨rfl,hk⟩;have k8:Keep au w0 w8:=k7.both hk;refine hK _ _ ⟨fun _=>aQ.out _ k8,?_⟩;clear hK K hk
 (repeat(quiet_step (fail)));refine wpQuiet_nil ?_
 refine ay rfl rfl fun K hK=> ?_;go_simp;refine(C6 _).out.mono ?_;rintro e w9 ⟨rfl,hk⟩;have k9:Keep au w0 w9:=k8.both hk;refine hK _ _ ⟨fun _=>aQ.out _ k9,?_⟩;clear hK K hk;have HR:=zh (HB2.out.keep k9);have KR:=zh (K0.out.both k9);clear hx0 hx1 k1 k2 k3 k4 k5 k6 k7 k8 k9;obtain⟨r0,r1,r2,r3,f0,f1,f2,f3,rl⟩:=HR.out.four
 (repeat(quiet_step (fail)));refine wpQuiet_nil ?_
 refine ay rfl rfl fun K hK=> ?_;go_simp;refine hK _ _ ⟨fun h=>(by simp at h),?_⟩;clear hK K
 (repeat(quiet_step (fail)));refine wpQuiet_nil ?_
 refine NoPanic.normal ?_;go_wp2;refine bodyPost_ret (by simp [results,Tryz.results54,go_sem,r0,r1,r2,r3,rl];rfl) rfl ?_;exact⟨rfl,iL KR.out FL.out _ _ _ _⟩
theorem uq (w:World)(va:Value)(a:Rat)(ha:bO va a)(na:NB 1000 a)(vb:Value)(b:Rat)(hb:bO vb b)(nb:NB 1000 b)  :Calls Tryz.prog 54 #[va,vb] w fun e w'=>e= .returned (uo (a+b))∧Keep au w w':=
 FD w va a ha vb b hb (by have:=na.1;have:=na.2;have:=nb.1;have:=nb.2;omega)
theorem Ng (w:World)(va:Value)(a:Rat)(ha:bO va a)(vb:Value)(b:Rat)(hb:bO vb b)(H:dl a.num+dl b.num≤4096∧dl (a.den:Int)+dl (b.den:Int)≤4096)  :Calls Tryz.prog 55 #[va,vb] w fun e w'=>e= .returned (uo (a*b))∧Keep au w w':=by
 obtain⟨da,rfl,hda⟩:=ha;have hza:=jm hda;obtain⟨db,rfl,hdb⟩:=hb;have hzb:=jm hdb;obtain⟨a1,a2⟩:=H;have m1:=gU a.num b.num;have m3:=gU a.den b.den;obtain⟨lK,lM,nE,-,-⟩:=aH a.num;obtain⟨lY,lZ,rA,-,-⟩:=aH da;obtain⟨XQ,XT,uQ,-,-⟩:=aH (a.den:Int);obtain⟨xg,xu,FE,-,-⟩:=aH b.num;obtain⟨xw,xC,JI,-,-⟩:=aH db;obtain⟨beb,beS,JR,-,-⟩:=aH (b.den:Int);obtain⟨xb,xS,lx,-,-⟩:=aH (a.num*b.num);obtain⟨tb,tS,lt,-,-⟩:=aH ((a.den:Int)*b.den);obtain⟨qnb,qnS,JJ,-,-⟩:=aH ((a*b).num);obtain⟨qdb,qdS,JK,-,-⟩:=aH (((a*b).den:Int));have C0:=fun w=>zh (jP w (a.num) (b.num) om);rw [nE,FE,lx]at C0;have C1:=fun w=>zh (iA w a.num da);rw [bF nE rA,hza,uQ]at C1;have C2:=fun w=>zh (iA w b.num db);rw [bF FE JI,hzb,JR]at C2;have C3:=fun w=>zh (jP w (a.den) (b.den) om);rw [uQ,JR,lt]at C3;have C4:=fun w=>zh (yD w (a.num*b.num) ((a.den:Int)*b.den) om om (Int.mul_ne_zero (jA a) (jA b)));rw [IC,iO JJ JK,lx,lt]at C4;rw [iO JJ JK];rw [bF nE rA,bF FE JI];clear nE rA uQ hda hza FE JI JR hdb hzb lx lt JJ JK a1 a2 m1 m3;go_enter Tryz.func55,Tryz.ntmps55;go_wp2;have B0:aL (((w.alloc (.cells #[.bool lK,.string lM,.bool lY,.string lZ] 93)).alloc (.cells #[.bool xg,.string xu,.bool xw,.string xC] 93)).alloc (.cells #[.bool false,.string ⟨#[]⟩,.bool false,.string ⟨#[]⟩] 93)) (w.heap.size) #[.bool lK,.string lM,.bool lY,.string lZ]:=kc;have B1:aL (((w.alloc (.cells #[.bool lK,.string lM,.bool lY,.string lZ] 93)).alloc (.cells #[.bool xg,.string xu,.bool xw,.string xC] 93)).alloc (.cells #[.bool false,.string ⟨#[]⟩,.bool false,.string ⟨#[]⟩] 93)) (w.heap.size+1) #[.bool xg,.string xu,.bool xw,.string xC]:=kc;have B2:aL (((w.alloc (.cells #[.bool lK,.string lM,.bool lY,.string lZ] 93)).alloc (.cells #[.bool xg,.string xu,.bool xw,.string xC] 93)).alloc (.cells #[.bool false,.string ⟨#[]⟩,.bool false,.string ⟨#[]⟩] 93)) (w.heap.size+1+1) #[.bool false,.string ⟨#[]⟩,.bool false,.string ⟨#[]⟩]:=kc;have K0:Hid (Keep au w (((w.alloc (.cells #[.bool lK,.string lM,.bool lY,.string lZ] 93)).alloc (.cells #[.bool xg,.string xu,.bool xw,.string xC] 93)).alloc (.cells #[.bool false,.string ⟨#[]⟩,.bool false,.string ⟨#[]⟩] 93))):=zh kp;generalize ((w.alloc (.cells #[.bool lK,.string lM,.bool lY,.string lZ] 93)).alloc (.cells #[.bool xg,.string xu,.bool xw,.string xC] 93)).alloc (.cells #[.bool false,.string ⟨#[]⟩,.bool false,.string ⟨#[]⟩] 93)=w0 at *;have HB0:=zh B0;have HB1:=zh B1;have HB2:=zh B2;clear B0 B1 B2;have FL:Hid (w.heap.size≤w.heap.size+1+1):=zh om;generalize w.heap.size+1+1=br at *;refine aD (fun w'=>Keep au w0 w') [11] [([0,1,2,3,5,7],4),([],6),([],8),([],9),([],10),([],11)] [] kr kr kp ?_;intro X W hne hF hcl;have aQ:=zh hcl;have hx0:=fun x=>(HB0.out.keep (hF x)).four;have hx1:=fun x=>(HB1.out.keep (hF x)).four;clear hF hcl;simp only [aO,aJ,zl0,zl1,zl2,aR,Bool.false_eq_true,if_false]
 (repeat(quiet_step (fail)));refine wpQuiet_nil ?_
 refine ay rfl rfl fun K hK=> ?_;go_simp;refine(C0 _).out.mono ?_;rintro e w1 ⟨rfl,hk⟩;have k1:Keep au w0 w1:=Keep.trans kp hk fun _ _ _ h=>h;refine hK _ _ ⟨fun _=>aQ.out _ k1,?_⟩;clear hK K hk
 (repeat(quiet_step (fail)));refine wpQuiet_nil ?_
 refine ay rfl rfl fun K hK=> ?_;go_simp;refine(C1 _).out.mono ?_;rintro e w2 ⟨rfl,hk⟩;have k2:Keep au w0 w2:=k1.both hk;refine hK _ _ ⟨fun _=>aQ.out _ k2,?_⟩;clear hK K hk
 (repeat(quiet_step (fail)));refine wpQuiet_nil ?_
 refine ay rfl rfl fun K hK=> ?_;go_simp;refine(C2 _).out.mono ?_;rintro e w3 ⟨rfl,hk⟩;have k3:Keep au w0 w3:=k2.both hk;refine hK _ _ ⟨fun _=>aQ.out _ k3,?_⟩;clear hK K hk
 (repeat(quiet_step (fail)));refine wpQuiet_nil ?_
 refine ay rfl rfl fun K hK=> ?_;go_simp;refine(C3 _).out.mono ?_;rintro e w4 ⟨rfl,hk⟩;have k4:Keep au w0 w4:=k3.both hk;refine hK _ _ ⟨fun _=>aQ.out _ k4,?_⟩;clear hK K hk
 (repeat(quiet_step (fail)));refine wpQuiet_nil ?_
 refine ay rfl rfl fun K hK=> ?_;go_simp;refine(C4 _).out.mono ?_;rintro e w5 ⟨rfl,hk⟩;have k5:Keep au w0 w5:=k4.both hk;refine hK _ _ ⟨fun _=>aQ.out _ k5,?_⟩;clear hK K hk;have HR:=zh (HB2.out.keep k5);have KR:=zh (K0.out.both k5);clear hx0 hx1 k1 k2 k3 k4 k5;obtain⟨r0,r1,r2,r3,f0,f1,f2,f3,rl⟩:=HR.out.four
 (repeat(quiet_step (fail)));refine wpQuiet_nil ?_
 refine ay rfl rfl fun K hK=> ?_;go_simp;refine hK _ _ ⟨fun h=>(by simp at h),?_⟩;clear hK K
 (repeat(quiet_step (fail)));refine wpQuiet_nil ?_
 refine NoPanic.normal ?_;go_wp2;refine bodyPost_ret (by simp [results,Tryz.results55,go_sem,r0,r1,r2,r3,rl];rfl) rfl ?_;exact⟨rfl,iL KR.out FL.out _ _ _ _⟩
theorem nL (w:World)(va:Value)(a:Rat)(ha:bO va a)(na:NB 1000 a)(vb:Value)(b:Rat)(hb:bO vb b)(nb:NB 1000 b)  :Calls Tryz.prog 55 #[va,vb] w fun e w'=>e= .returned (uo (a*b))∧Keep au w w':=
 Ng w va a ha vb b hb (by have:=na.1;have:=na.2;have:=nb.1;have:=nb.2;omega)
theorem O8 (w:World)(va:Value)(a:Rat)(ha:bO va a)(vb:Value)(b:Rat)(hb:bO vb b)(H:dl a.num+dl (b.den:Int)≤4096∧dl (a.den:Int)+dl b.num≤4096)(h0:b≠0):Calls Tryz.prog 50 #[va,vb] w fun e w'=>e= .returned (uo (a/b))∧Keep au w w':=by
 obtain⟨da,rfl,hda⟩:=ha;have hza:=jm hda;obtain⟨db,rfl,hdb⟩:=hb;have hzb:=jm hdb;obtain⟨a1,a2⟩:=H;have m1:=gU a.num b.den;have m3:=gU a.den b.num;obtain⟨lK,lM,nE,-,-⟩:=aH a.num;obtain⟨lY,lZ,rA,-,-⟩:=aH da;obtain⟨XQ,XT,uQ,-,-⟩:=aH (a.den:Int);obtain⟨xg,xu,FE,-,-⟩:=aH b.num;obtain⟨xw,xC,JI,-,-⟩:=aH db;obtain⟨beb,beS,JR,-,-⟩:=aH (b.den:Int);obtain⟨xb,xS,lx,-,-⟩:=aH (a.num*b.den);obtain⟨tb,tS,lt,-,-⟩:=aH ((a.den:Int)*b.num);obtain⟨qnb,qnS,JJ,-,-⟩:=aH ((a/b).num);obtain⟨qdb,qdS,JK,-,-⟩:=aH (((a/b).den:Int));have C0:=fun w=>zh (iA w b.num db);rw [bF FE JI,hzb,JR]at C0;have C1:=fun w=>zh (jP w (a.num) (b.den) om);rw [nE,JR,lx]at C1;have C2:=fun w=>zh (iA w a.num da);rw [bF nE rA,hza,uQ]at C2;have C3:=fun w=>zh (jP w (a.den) (b.num) om);rw [uQ,FE,lt]at C3;have C4:=fun w=>zh (yD w (a.num*b.den) ((a.den:Int)*b.num) om om (Int.mul_ne_zero (jA a) (FC h0)));rw [Pk h0,iO JJ JK,lx,lt]at C4;rw [iO JJ JK];rw [bF nE rA,bF FE JI];clear nE rA uQ hda hza FE JI JR hdb hzb lx lt JJ JK a1 a2 m1 m3 h0;go_enter Tryz.func50,Tryz.ntmps50;go_wp2;have B0:aL (((w.alloc (.cells #[.bool lK,.string lM,.bool lY,.string lZ] 93)).alloc (.cells #[.bool xg,.string xu,.bool xw,.string xC] 93)).alloc (.cells #[.bool false,.string ⟨#[]⟩,.bool false,.string ⟨#[]⟩] 93)) (w.heap.size) #[.bool lK,.string lM,.bool lY,.string lZ]:=kc;have B1:aL (((w.alloc (.cells #[.bool lK,.string lM,.bool lY,.string lZ] 93)).alloc (.cells #[.bool xg,.string xu,.bool xw,.string xC] 93)).alloc (.cells #[.bool false,.string ⟨#[]⟩,.bool false,.string ⟨#[]⟩] 93)) (w.heap.size+1) #[.bool xg,.string xu,.bool xw,.string xC]:=kc;have B2:aL (((w.alloc (.cells #[.bool lK,.string lM,.bool lY,.string lZ] 93)).alloc (.cells #[.bool xg,.string xu,.bool xw,.string xC] 93)).alloc (.cells #[.bool false,.string ⟨#[]⟩,.bool false,.string ⟨#[]⟩] 93)) (w.heap.size+1+1) #[.bool false,.string ⟨#[]⟩,.bool false,.string ⟨#[]⟩]:=kc;have K0:Hid (Keep au w (((w.alloc (.cells #[.bool lK,.string lM,.bool lY,.string lZ] 93)).alloc (.cells #[.bool xg,.string xu,.bool xw,.string xC] 93)).alloc (.cells #[.bool false,.string ⟨#[]⟩,.bool false,.string ⟨#[]⟩] 93))):=zh kp;generalize ((w.alloc (.cells #[.bool lK,.string lM,.bool lY,.string lZ] 93)).alloc (.cells #[.bool xg,.string xu,.bool xw,.string xC] 93)).alloc (.cells #[.bool false,.string ⟨#[]⟩,.bool false,.string ⟨#[]⟩] 93)=w0 at *;have HB0:=zh B0;have HB1:=zh B1;have HB2:=zh B2;clear B0 B1 B2;have FL:Hid (w.heap.size≤w.heap.size+1+1):=zh om;generalize w.heap.size+1+1=br at *;refine aD (fun w'=>Keep au w0 w') [11] [([0,1,2,5,7,8],3),([],4),([],6),([],9),([],10),([],11)] [] kr kr kp ?_;intro X W hne hF hcl;have aQ:=zh hcl;have hx0:=fun x=>(HB0.out.keep (hF x)).four;have hx1:=fun x=>(HB1.out.keep (hF x)).four;clear hF hcl;simp only [aO,aJ,zl0,zl1,zl2,aR,Bool.false_eq_true,if_false]
 (repeat(quiet_step (fail)));refine wpQuiet_nil ?_
 refine ay rfl rfl fun K hK=> ?_;go_simp;refine(C0 _).out.mono ?_;rintro e w1 ⟨rfl,hk⟩;have k1:Keep au w0 w1:=Keep.trans kp hk fun _ _ _ h=>h;refine hK _ _ ⟨fun _=>aQ.out _ k1,?_⟩;clear hK K hk
 (repeat(quiet_step (fail)));refine wpQuiet_nil ?_
 refine ay rfl rfl fun K hK=> ?_;go_simp;refine(C1 _).out.mono ?_;rintro e w2 ⟨rfl,hk⟩;have k2:Keep au w0 w2:=k1.both hk;refine hK _ _ ⟨fun _=>aQ.out _ k2,?_⟩;clear hK K hk
 (repeat(quiet_step (fail)));refine wpQuiet_nil ?_
 refine ay rfl rfl fun K hK=> ?_;go_simp;refine(C2 _).out.mono ?_;rintro e w3 ⟨rfl,hk⟩;have k3:Keep au w0 w3:=k2.both hk;refine hK _ _ ⟨fun _=>aQ.out _ k3,?_⟩;clear hK K hk
 (repeat(quiet_step (fail)));refine wpQuiet_nil ?_
 refine ay rfl rfl fun K hK=> ?_;go_simp;refine(C3 _).out.mono ?_;rintro e w4 ⟨rfl,hk⟩;have k4:Keep au w0 w4:=k3.both hk;refine hK _ _ ⟨fun _=>aQ.out _ k4,?_⟩;clear hK K hk
 (repeat(quiet_step (fail)));refine wpQuiet_nil ?_
 refine ay rfl rfl fun K hK=> ?_;go_simp;refine(C4 _).out.mono ?_;rintro e w5 ⟨rfl,hk⟩;have k5:Keep au w0 w5:=k4.both hk;refine hK _ _ ⟨fun _=>aQ.out _ k5,?_⟩;clear hK K hk;have HR:=zh (HB2.out.keep k5);have KR:=zh (K0.out.both k5);clear hx0 hx1 k1 k2 k3 k4 k5;obtain⟨r0,r1,r2,r3,f0,f1,f2,f3,rl⟩:=HR.out.four
 (repeat(quiet_step (fail)));refine wpQuiet_nil ?_
 refine ay rfl rfl fun K hK=> ?_;go_simp;refine hK _ _ ⟨fun h=>(by simp at h),?_⟩;clear hK K
 (repeat(quiet_step (fail)));refine wpQuiet_nil ?_
 refine NoPanic.normal ?_;go_wp2;refine bodyPost_ret (by simp [results,Tryz.results50,go_sem,r0,r1,r2,r3,rl];rfl) rfl ?_;exact⟨rfl,iL KR.out FL.out _ _ _ _⟩
theorem oZ (w:World)(va:Value)(a:Rat)(ha:bO va a)(na:NB 1000 a)(vb:Value)(b:Rat)(hb:bO vb b)(nb:NB 1000 b)(h0:b≠0):Calls Tryz.prog 50 #[va,vb] w fun e w'=>e= .returned (uo (a/b))∧Keep au w w':=
 O8 w va a ha vb b hb (by have:=na.1;have:=na.2;have:=nb.1;have:=nb.2;omega) h0
theorem TW (w:World)(va:Value)(a:Rat)(ha:bO va a)(vb:Value)(b:Rat)(hb:bO vb b)(H:dl a.num+dl (b.den:Int)≤4096∧dl b.num+dl (a.den:Int)≤4096)  :Calls Tryz.prog 85 #[va,vb] w fun e w'=>e= .returned (.int .i64 (a.num*b.den-b.num*a.den).sign)∧Keep au w w':=by
 obtain⟨da,rfl,hda⟩:=ha;have hza:=jm hda;obtain⟨db,rfl,hdb⟩:=hb;have hzb:=jm hdb;obtain⟨a1,a2⟩:=H;have m1:=gU a.num b.den;have m2:=gU b.num a.den;obtain⟨lK,lM,nE,-,-⟩:=aH a.num;obtain⟨lY,lZ,rA,-,-⟩:=aH da;obtain⟨XQ,XT,uQ,-,-⟩:=aH (a.den:Int);obtain⟨xg,xu,FE,-,-⟩:=aH b.num;obtain⟨xw,xC,JI,-,-⟩:=aH db;obtain⟨beb,beS,JR,-,-⟩:=aH (b.den:Int);obtain⟨xb,xS,lx,-,-⟩:=aH (a.num*b.den);obtain⟨yb,yS,ly,-,-⟩:=aH (b.num*a.den);have C0:=fun w=>zh (iA w b.num db);rw [bF FE JI,hzb,JR]at C0;have C1:=fun w=>zh (jP w (a.num) (b.den) om);rw [nE,JR,lx]at C1;have C2:=fun w=>zh (iA w a.num da);rw [bF nE rA,hza,uQ]at C2;have C3:=fun w=>zh (jP w (b.num) (a.den) om);rw [FE,uQ,ly]at C3;have C4:=fun w=>zh (BL w (a.num*b.den) (b.num*a.den) om om);rw [lx,ly]at C4
 skip
 rw [bF nE rA,bF FE JI];clear nE rA uQ hda hza FE JI JR hdb hzb lx ly a1 a2 m1 m2;go_enter Tryz.func85,Tryz.ntmps85;go_wp2;have B0:aL ((w.alloc (.cells #[.bool lK,.string lM,.bool lY,.string lZ] 93)).alloc (.cells #[.bool xg,.string xu,.bool xw,.string xC] 93)) (w.heap.size) #[.bool lK,.string lM,.bool lY,.string lZ]:=kc;have B1:aL ((w.alloc (.cells #[.bool lK,.string lM,.bool lY,.string lZ] 93)).alloc (.cells #[.bool xg,.string xu,.bool xw,.string xC] 93)) (w.heap.size+1) #[.bool xg,.string xu,.bool xw,.string xC]:=kc;have K0:Hid (Keep au w ((w.alloc (.cells #[.bool lK,.string lM,.bool lY,.string lZ] 93)).alloc (.cells #[.bool xg,.string xu,.bool xw,.string xC] 93))):=zh kp;generalize (w.alloc (.cells #[.bool lK,.string lM,.bool lY,.string lZ] 93)).alloc (.cells #[.bool xg,.string xu,.bool xw,.string xC] 93)=w0 at *;have HB0:=zh B0;have HB1:=zh B1;clear B0 B1;refine aD (fun w'=>Keep au w0 w') [] [([0,1,2,5,6,7],3),([],4),([],8),([],9),([],10)] [11] kr kr kp ?_;intro X W hne hF hcl;have aQ:=zh hcl;have hx0:=fun x=>(HB0.out.keep (hF x)).four;have hx1:=fun x=>(HB1.out.keep (hF x)).four;clear hF hcl;simp only [aO,aJ,zl0,zl1,zl2,aR,Bool.false_eq_true,if_false]
 (repeat(quiet_step (fail)));refine wpQuiet_nil ?_
 refine ay rfl rfl fun K hK=> ?_;go_simp;refine(C0 _).out.mono ?_;rintro e w1 ⟨rfl,hk⟩;have k1:Keep au w0 w1:=Keep.trans kp hk fun _ _ _ h=>h;refine hK _ _ ⟨fun _=>aQ.out _ k1,?_⟩;clear hK K hk
 (repeat(quiet_step (fail)));refine wpQuiet_nil ?_
 refine ay rfl rfl fun K hK=> ?_;go_simp;refine(C1 _).out.mono ?_;rintro e w2 ⟨rfl,hk⟩;have k2:Keep au w0 w2:=k1.both hk;refine hK _ _ ⟨fun _=>aQ.out _ k2,?_⟩;clear hK K hk
 (repeat(quiet_step (fail)));refine wpQuiet_nil ?_
 refine ay rfl rfl fun K hK=> ?_;go_simp;refine(C2 _).out.mono ?_;rintro e w3 ⟨rfl,hk⟩;have k3:Keep au w0 w3:=k2.both hk;refine hK _ _ ⟨fun _=>aQ.out _ k3,?_⟩;clear hK K hk
 (repeat(quiet_step (fail)));refine wpQuiet_nil ?_
 refine ay rfl rfl fun K hK=> ?_;go_simp;refine(C3 _).out.mono ?_;rintro e w4 ⟨rfl,hk⟩;have k4:Keep au w0 w4:=k3.both hk;refine hK _ _ ⟨fun _=>aQ.out _ k4,?_⟩;clear hK K hk
 (repeat(quiet_step (fail)));refine wpQuiet_nil ?_
 refine ay rfl rfl fun K hK=> ?_;go_simp;refine(C4 _).out.mono ?_;rintro e w5 ⟨rfl,hk⟩;have k5:Keep au w0 w5:=k4.both hk;refine hK _ _ ⟨fun _=>aQ.out _ k5,?_⟩;clear hK K hk;have KR:=zh (K0.out.both k5)
 (repeat(quiet_step (fail)));refine wpQuiet_nil ?_
 refine NoPanic.normal ?_;go_wp2;go_ret;exact⟨rfl,KR.out⟩
theorem Bf (w:World)(va:Value)(a:Rat)(ha:bO va a)(na:NB 1000 a)(vb:Value)(b:Rat)(hb:bO vb b)(nb:NB 1000 b)  :Calls Tryz.prog 85 #[va,vb] w fun e w'=>e= .returned (.int .i64 (a.num*b.den-b.num*a.den).sign)∧Keep au w w':=
 TW w va a ha vb b hb (by have:=na.1;have:=na.2;have:=nb.1;have:=nb.2;omega)
theorem Il (w:World)(va:Value)(a:Rat)(ha:bO va a)  :Calls Tryz.prog 78 #[va] w fun e w'=>e= .returned (uo (-a))∧Keep au w w':=by
 obtain⟨da,rfl,hda⟩:=ha;have hza:=jm hda;obtain⟨lK,lM,nE,-,-⟩:=aH a.num;obtain⟨lY,lZ,rA,-,-⟩:=aH da;obtain⟨XQ,XT,uQ,-,-⟩:=aH (a.den:Int);obtain⟨qnb,qnS,JJ,-,-⟩:=aH ((-a).num);obtain⟨qdb,qdS,JK,-,-⟩:=aH (((-a).den:Int));have C0:=fun w=>zh (uZ w a.num);rw [← Rat.neg_num,nE,JJ]at C0;have C1:=fun w=>zh (iA w a.num da);rw [bF nE rA,hza,←Rat.neg_den,JK]at C1;rw [iO JJ JK];rw [bF nE rA];clear nE rA uQ hda hza JJ JK;go_enter Tryz.func78,Tryz.ntmps78;go_wp2;have B0:aL ((w.alloc (.cells #[.bool lK,.string lM,.bool lY,.string lZ] 93)).alloc (.cells #[.bool false,.string ⟨#[]⟩,.bool false,.string ⟨#[]⟩] 93)) (w.heap.size) #[.bool lK,.string lM,.bool lY,.string lZ]:=kc;have B1:aL ((w.alloc (.cells #[.bool lK,.string lM,.bool lY,.string lZ] 93)).alloc (.cells #[.bool false,.string ⟨#[]⟩,.bool false,.string ⟨#[]⟩] 93)) (w.heap.size+1) #[.bool false,.string ⟨#[]⟩,.bool false,.string ⟨#[]⟩]:=kc;have K0:Hid (Keep au w ((w.alloc (.cells #[.bool lK,.string lM,.bool lY,.string lZ] 93)).alloc (.cells #[.bool false,.string ⟨#[]⟩,.bool false,.string ⟨#[]⟩] 93))):=zh kp;generalize (w.alloc (.cells #[.bool lK,.string lM,.bool lY,.string lZ] 93)).alloc (.cells #[.bool false,.string ⟨#[]⟩,.bool false,.string ⟨#[]⟩] 93)=w0 at *;have HB0:=zh B0;have HB1:=zh B1;clear B0 B1;have FL:Hid (w.heap.size≤w.heap.size+1):=zh om;generalize w.heap.size+1=br at *;refine aD (fun w'=>Keep au w0 w') [6] [([0,1,3],2),([],4),([5],6)] [] kr kr kp ?_;intro X W hne hF hcl;have aQ:=zh hcl;have hx0:=fun x=>(HB0.out.keep (hF x)).four;clear hF hcl;simp only [aO,aJ,zl0,zl1,zl2,aR,Bool.false_eq_true,if_false]
 (repeat(quiet_step (fail)));refine wpQuiet_nil ?_
 refine ay rfl rfl fun K hK=> ?_;go_simp;refine(C0 _).out.mono ?_;rintro e w1 ⟨rfl,hk⟩;have k1:Keep au w0 w1:=Keep.trans kp hk fun _ _ _ h=>h;refine hK _ _ ⟨fun _=>aQ.out _ k1,?_⟩;clear hK K hk
 (repeat(quiet_step (fail)));refine wpQuiet_nil ?_
 refine ay rfl rfl fun K hK=> ?_;go_simp;refine(C1 _).out.mono ?_;rintro e w2 ⟨rfl,hk⟩;have k2:Keep au w0 w2:=k1.both hk;refine hK _ _ ⟨fun _=>aQ.out _ k2,?_⟩;clear hK K hk;have HR:=zh (HB1.out.keep k2);have KR:=zh (K0.out.both k2);clear hx0 k1 k2;obtain⟨r0,r1,r2,r3,f0,f1,f2,f3,rl⟩:=HR.out.four
 (repeat(quiet_step (fail)));refine wpQuiet_nil ?_
 refine ay rfl rfl fun K hK=> ?_;go_simp;refine hK _ _ ⟨fun h=>(by simp at h),?_⟩;clear hK K
 (repeat(quiet_step (fail)));refine wpQuiet_nil ?_
 refine NoPanic.normal ?_;go_wp2;refine bodyPost_ret (by simp [results,Tryz.results78,go_sem,r0,r1,r2,r3,rl];rfl) rfl ?_;exact⟨rfl,iL KR.out FL.out _ _ _ _⟩
theorem Gm (w:World)(va:Value)(a:Rat)(ha:bO va a)(na:NB 1000 a)  :Calls Tryz.prog 78 #[va] w fun e w'=>e= .returned (uo (-a))∧Keep au w w':=
 Il w va a ha
theorem Nh (w:World)(va:Value)(a:Rat)(ha:bO va a)(vb:Value)(b:Rat)(hb:bO vb b)(H:dl a.num+dl (b.den:Int)≤4095∧dl b.num+dl (a.den:Int)≤4095∧dl (a.den:Int)+dl (b.den:Int)≤4096)  :Calls Tryz.prog 79 #[va,vb] w fun e w'=>e= .returned (uo (a-b))∧Keep au w w':=by
 obtain⟨da,rfl,hda⟩:=ha;have hza:=jm hda;obtain⟨db,rfl,hdb⟩:=hb;have hzb:=jm hdb;have H':dl a.num+dl ((-b).den:Int)≤4095∧dl (-b).num+dl (a.den:Int)≤4095∧dl (a.den:Int)+dl ((-b).den:Int)≤4096:=by rw [Rat.neg_num,Rat.neg_den,xY];exact H
 obtain⟨lK,lM,nE,-,-⟩:=aH a.num;obtain⟨lY,lZ,rA,-,-⟩:=aH da;obtain⟨XQ,XT,uQ,-,-⟩:=aH (a.den:Int);obtain⟨xg,xu,FE,-,-⟩:=aH b.num;obtain⟨xw,xC,JI,-,-⟩:=aH db;obtain⟨beb,beS,JR,-,-⟩:=aH (b.den:Int);obtain⟨cnb,cnS,lcn,-,-⟩:=aH ((-b).num);obtain⟨cdb,cdS,lcd,-,-⟩:=aH (((-b).den:Int));obtain⟨qnb,qnS,JJ,-,-⟩:=aH ((a-b).num);obtain⟨qdb,qdS,JK,-,-⟩:=aH (((a-b).den:Int));have C0:=fun w=>zh (Il w _ b ⟨db,rfl,hdb⟩);rw [bF FE JI,iO lcn lcd]at C0;have C1:=fun w=>zh (FD w _ a ⟨da,rfl,hda⟩ _ (-b) (Jy _) H');rw [← Rat.sub_eq_add_neg,bF nE rA,iO lcn lcd,iO JJ JK]at C1;rw [iO JJ JK];rw [bF nE rA,bF FE JI];clear nE rA uQ hda hza FE JI JR hdb hzb lcn lcd JJ JK H H';go_enter Tryz.func79,Tryz.ntmps79;go_wp2;have B0:aL (((w.alloc (.cells #[.bool lK,.string lM,.bool lY,.string lZ] 93)).alloc (.cells #[.bool xg,.string xu,.bool xw,.string xC] 93)).alloc (.cells #[.bool false,.string ⟨#[]⟩,.bool false,.string ⟨#[]⟩] 93)) (w.heap.size) #[.bool lK,.string lM,.bool lY,.string lZ]:=kc;have B1:aL (((w.alloc (.cells #[.bool lK,.string lM,.bool lY,.string lZ] 93)).alloc (.cells #[.bool xg,.string xu,.bool xw,.string xC] 93)).alloc (.cells #[.bool false,.string ⟨#[]⟩,.bool false,.string ⟨#[]⟩] 93)) (w.heap.size+1) #[.bool xg,.string xu,.bool xw,.string xC]:=kc;have B2:aL (((w.alloc (.cells #[.bool lK,.string lM,.bool lY,.string lZ] 93)).alloc (.cells #[.bool xg,.string xu,.bool xw,.string xC] 93)).alloc (.cells #[.bool false,.string ⟨#[]⟩,.bool false,.string ⟨#[]⟩] 93)) (w.heap.size+1+1) #[.bool false,.string ⟨#[]⟩,.bool false,.string ⟨#[]⟩]:=kc;have K0:Hid (Keep au w (((w.alloc (.cells #[.bool lK,.string lM,.bool lY,.string lZ] 93)).alloc (.cells #[.bool xg,.string xu,.bool xw,.string xC] 93)).alloc (.cells #[.bool false,.string ⟨#[]⟩,.bool false,.string ⟨#[]⟩] 93))):=zh kp;generalize ((w.alloc (.cells #[.bool lK,.string lM,.bool lY,.string lZ] 93)).alloc (.cells #[.bool xg,.string xu,.bool xw,.string xC] 93)).alloc (.cells #[.bool false,.string ⟨#[]⟩,.bool false,.string ⟨#[]⟩] 93)=w0 at *;have HB0:=zh B0;have HB1:=zh B1;have HB2:=zh B2;clear B0 B1 B2;have FL:Hid (w.heap.size≤w.heap.size+1+1):=zh om;generalize w.heap.size+1+1=br at *;refine aD (fun w'=>Keep au w0 w') [4] [([0,1],2),([],3),([],4)] [] kr kr kp ?_;intro X W hne hF hcl;have aQ:=zh hcl;have hx0:=fun x=>(HB0.out.keep (hF x)).four;have hx1:=fun x=>(HB1.out.keep (hF x)).four;clear hF hcl;simp only [aO,aJ,zl0,zl1,zl2,aR,Bool.false_eq_true,if_false]
 (repeat(quiet_step (fail)));refine wpQuiet_nil ?_
 refine ay rfl rfl fun K hK=> ?_;go_simp;refine(C0 _).out.mono ?_;rintro e w1 ⟨rfl,hk⟩;have k1:Keep au w0 w1:=Keep.trans kp hk fun _ _ _ h=>h;refine hK _ _ ⟨fun _=>aQ.out _ k1,?_⟩;clear hK K hk
 (repeat(quiet_step (fail)));refine wpQuiet_nil ?_
 refine ay rfl rfl fun K hK=> ?_;go_simp;refine(C1 _).out.mono ?_;rintro e w2 ⟨rfl,hk⟩;have k2:Keep au w0 w2:=k1.both hk;refine hK _ _ ⟨fun _=>aQ.out _ k2,?_⟩;clear hK K hk;have HR:=zh (HB2.out.keep k2);have KR:=zh (K0.out.both k2);clear hx0 hx1 k1 k2;obtain⟨r0,r1,r2,r3,f0,f1,f2,f3,rl⟩:=HR.out.four
 (repeat(quiet_step (fail)));refine wpQuiet_nil ?_
 refine ay rfl rfl fun K hK=> ?_;go_simp;refine hK _ _ ⟨fun h=>(by simp at h),?_⟩;clear hK K
 (repeat(quiet_step (fail)));refine wpQuiet_nil ?_
 refine NoPanic.normal ?_;go_wp2;refine bodyPost_ret (by simp [results,Tryz.results79,go_sem,r0,r1,r2,r3,rl];rfl) rfl ?_;exact⟨rfl,iL KR.out FL.out _ _ _ _⟩
theorem qM (w:World)(va:Value)(a:Rat)(ha:bO va a)(na:NB 1000 a)(vb:Value)(b:Rat)(hb:bO vb b)(nb:NB 1000 b)  :Calls Tryz.prog 79 #[va,vb] w fun e w'=>e= .returned (uo (a-b))∧Keep au w w':=
 Nh w va a ha vb b hb (by have:=na.1;have:=na.2;have:=nb.1;have:=nb.2;omega)
theorem sign_one (d:Nat):(((d:Int)-1).sign==0)=decide (d=1):=by
 by_cases h:d=1
 ·subst h;rfl
 rw [decide_eq_false h,beq_eq_false_iff_ne];intro h';have:=Int.sign_eq_zero_iff_zero.1 h';omega
theorem Cg (w:World)(va:Value)(a:Rat)(ha:bO va a)(na:NB 4000 a):Calls Tryz.prog 90 #[va] w fun e w'=>e= .returned (.bool (decide (a.den=1)))∧Keep au w w':=by
 obtain⟨da,rfl,hda⟩:=ha;have hza:=jm hda;have a2:=na.2;have h1:=rO (z:=1) (k:=1) dc;obtain⟨lK,lM,nE,-,-⟩:=aH a.num;obtain⟨lY,lZ,rA,-,-⟩:=aH da;obtain⟨XQ,XT,uQ,-,-⟩:=aH (a.den:Int);obtain⟨ob,oS,lo,-,-⟩:=aH 1;have C0:=fun w=>zh (iA w a.num da);rw [bF nE rA,hza,uQ]at C0;have C1:=fun w=>zh (zu lo om om w);have C2:=fun w=>zh (BL w (a.den:Int) 1 om om);rw [uQ,lo]at C2;rw [bF nE rA];have HS:=zh (sign_one a.den);generalize ((a.den:Int)-1).sign=sg at *;clear nE rA uQ lo hza hda na a2 h1;go_enter Tryz.func90,Tryz.ntmps90;go_wp2_with fail;refine(C0 _).out.mono ?_;rintro e w1 ⟨rfl,hk1⟩;have K1:Hid (Keep au w w1):=zh (Keep.both kp hk1);clear hk1 C0;go_wp2_with fail;refine(C1 _).out.mono ?_;rintro e w2 ⟨rfl,hk2⟩;have K2:=zh (K1.out.both hk2);clear hk2 C1;go_wp2_with fail;refine(C2 _).out.mono ?_;rintro e w3 ⟨rfl,hk3⟩;have K3:=zh (K2.out.both hk3);clear hk3 C2;go_wp2;go_ret;exact⟨congrArg (fun b:Bool=>Ending.returned (.bool b)) HS.out,K3.out⟩
theorem Qv {q:Rat}(h:Fits q):dW q.num q.den:=⟨by have:=q.den_pos;omega,by have:=h.2;omega,by have:=h.1;omega,by have:=h.1;omega,by rw [Int.natAbs_natCast];exact q.reduced⟩
theorem ZH {q:Rat}(h:¬Fits q):¬dW q.num q.den:=fun⟨_,h2,h3,h4,_⟩=>h ⟨om,om⟩
theorem Mw (w:World)(va:Value)(a:Rat)(ha:bO va a)(na:NB 1000 a):Calls Tryz.prog 90 #[va] w fun e w'=>e= .returned (.bool (decide (a.den=1)))∧Keep au w w':=
 Cg w va a ha (na.mono om)
theorem O9 (w:World)(va:Value)(a:Rat)(ha:bO va a)(na:NB 4000 a):Calls Tryz.prog 56 #[va] w fun e w'=>e= .returned (qL a)∧Keep au w w':=by
 obtain⟨da,rfl,hda⟩:=ha;have hza:=jm hda;have a1:=na.1;have a2:=na.2;obtain⟨lK,lM,nE,-,-⟩:=aH a.num;obtain⟨lY,lZ,rA,-,-⟩:=aH da;obtain⟨XQ,XT,uQ,-,-⟩:=aH (a.den:Int);have C0:=fun w=>zh (qW w a.num om);rw [nE]at C0;have C1:=fun w=>zh (iA w a.num da);rw [bF nE rA,hza,uQ]at C1;have C2:=fun w=>zh (qW w (a.den:Int) om);rw [uQ]at C2;rw [bF nE rA];unfold small64 at C0 C2;have Io:¬Fits a→qL a= .tuple #[.agg #[.int .i64 0,.int .i64 0],.bool false]:=fun h=>by unfold qL;rw [if_neg h];rfl
 have wE:Fits a→is64 a.num∧is64 (a.den:Int):=fun h=>by
  have h1:=h.1;have h2:=h.2;unfold is64;omega
 by_cases h1:is64 a.num
 ·rw [if_pos h1]at C0;by_cases h2:is64 (a.den:Int)
  ·rw [if_pos h2]at C2;by_cases hf:Fits a
   ·have CC:=fun w=>zh (WH _ _ w (Qv hf));have HR:Hid (qL a= .tuple #[.agg #[.int .i64 a.num,.int .i64 a.den],.bool true]):=zh (by unfold qL;rw [if_pos hf];rfl);rw [HR.out];generalize a.num=n at *;generalize (a.den:Int)=d at *;clear nE rA uQ hza hda na a1 a2 h1 h2 hf HR Io wE;go_enter Tryz.func56,Tryz.ntmps56;go_wp2_with fail;refine(C0 _).out.mono ?_;rintro e w1 ⟨rfl,hk1⟩;have B0:aL w1 w.heap.size #[.bool lK,.string lM,.bool lY,.string lZ]:=aL.keep kb hk1;have B1:aL w1 (w.heap.size+1) #[.int .i64 0,.int .i64 0]:=aL.keep kb hk1;have K1:Hid (Keep au w w1):=zh (Keep.both kp hk1);have HB1:=zh B1;have JQ:Hid (w.heap.size≤w.heap.size+1):=zh om;clear hk1 C0 B1;obtain⟨p0,p1,p2,p3,_,_,_,_,pl⟩:=B0.four;generalize w.heap.size+1=br at *;go_wp2_with fail;refine(C1 _).out.mono ?_;rintro e w2 ⟨rfl,hk2⟩;have HB1:=zh (HB1.out.keep hk2);have K2:=zh (K1.out.both hk2);clear hk2 C1 p0 p1 p2 p3 pl B0;go_wp2_with fail;refine(C2 _).out.mono ?_;rintro e w3 ⟨rfl,hk3⟩;have HB1:=zh (HB1.out.keep hk3);have K3:=zh (K2.out.both hk3);clear hk3 C2;obtain⟨r0,r1,f0,f1,rl⟩:=HB1.out.two;have hn1:¬br=w3.heap.size:=om;go_wp2_with fail;refine(CC _).out.mono ?_;rintro e w4 ⟨rfl,hb4⟩;have hk4:Keep au (w3.alloc (.cells #[.int .i64 n,.int .i64 d] 47)) w4:=Keep.of_below hb4 (Nat.le_refl _);have B8:aL w4 w3.heap.size #[.int .i64 n,.int .i64 d]:=aL.keep kb hk4;have k34:Keep au w3 w4:=Keep.trans kp hk4 fun _ _ _ h=>h;have HB1:=zh (HB1.out.keep k34);have K4:=zh (K3.out.both k34);clear hk4 hb4 CC r0 r1 f0 f1 rl k34;obtain⟨r0,r1,f0,f1,rl⟩:=HB1.out.two;obtain⟨q0,q1,_,_,ql⟩:=B8.two;go_wp2;refine bodyPost_ret (by simp [results,Tryz.results56,go_sem,r0,r1,rl];rfl) rfl ?_;exact⟨rfl,aV K4.out JQ.out _ _⟩
   have CC:=fun w=>zh (WI _ _ w (ZH hf));rw [Io hf];generalize a.num=n at *;generalize (a.den:Int)=d at *;clear nE rA uQ hza hda na a1 a2 h1 h2 hf Io wE;go_enter Tryz.func56,Tryz.ntmps56;go_wp2_with fail;refine(C0 _).out.mono ?_;rintro e w1 ⟨rfl,hk1⟩;have B0:aL w1 w.heap.size #[.bool lK,.string lM,.bool lY,.string lZ]:=aL.keep kb hk1;have B1:aL w1 (w.heap.size+1) #[.int .i64 0,.int .i64 0]:=aL.keep kb hk1;have K1:Hid (Keep au w w1):=zh (Keep.both kp hk1);have HB1:=zh B1;have JQ:Hid (w.heap.size≤w.heap.size+1):=zh om;clear hk1 C0 B1;obtain⟨p0,p1,p2,p3,_,_,_,_,pl⟩:=B0.four;generalize w.heap.size+1=br at *;go_wp2_with fail;refine(C1 _).out.mono ?_;rintro e w2 ⟨rfl,hk2⟩;have HB1:=zh (HB1.out.keep hk2);have K2:=zh (K1.out.both hk2);clear hk2 C1 p0 p1 p2 p3 pl B0;go_wp2_with fail;refine(C2 _).out.mono ?_;rintro e w3 ⟨rfl,hk3⟩;have HB1:=zh (HB1.out.keep hk3);have K3:=zh (K2.out.both hk3);clear hk3 C2;obtain⟨r0,r1,f0,f1,rl⟩:=HB1.out.two;have hn1:¬br=w3.heap.size:=om;go_wp2_with fail;refine(CC _).out.mono ?_;rintro e w4 ⟨rfl,hb4⟩;have hk4:Keep au (w3.alloc (.cells #[.int .i64 n,.int .i64 d] 47)) w4:=Keep.of_below hb4 (Nat.le_refl _);have B8:aL w4 w3.heap.size #[.int .i64 n,.int .i64 d]:=aL.keep kb hk4;have k34:Keep au w3 w4:=Keep.trans kp hk4 fun _ _ _ h=>h;have HB1:=zh (HB1.out.keep k34);have K4:=zh (K3.out.both k34);clear hk4 hb4 CC r0 r1 f0 f1 rl k34;obtain⟨r0,r1,f0,f1,rl⟩:=HB1.out.two;obtain⟨q0,q1,_,_,ql⟩:=B8.two;go_wp2;refine bodyPost_ret (by simp [results,Tryz.results56,go_sem,r0,r1,rl];rfl) rfl ?_;exact⟨rfl,aV K4.out JQ.out _ _⟩
  rw [if_neg h2]at C2;rw [Io fun h=>h2 (wE h).2];generalize a.num=n at *;generalize (a.den:Int)=d at *;clear nE rA uQ hza hda na a1 a2 h1 h2 Io wE;go_enter Tryz.func56,Tryz.ntmps56;go_wp2_with fail;refine(C0 _).out.mono ?_;rintro e w1 ⟨rfl,hk1⟩;have B0:aL w1 w.heap.size #[.bool lK,.string lM,.bool lY,.string lZ]:=aL.keep kb hk1;have B1:aL w1 (w.heap.size+1) #[.int .i64 0,.int .i64 0]:=aL.keep kb hk1;have K1:Hid (Keep au w w1):=zh (Keep.both kp hk1);have HB1:=zh B1;have JQ:Hid (w.heap.size≤w.heap.size+1):=zh om;clear hk1 C0 B1;obtain⟨p0,p1,p2,p3,_,_,_,_,pl⟩:=B0.four;generalize w.heap.size+1=br at *;go_wp2_with fail;refine(C1 _).out.mono ?_;rintro e w2 ⟨rfl,hk2⟩;have HB1:=zh (HB1.out.keep hk2);have K2:=zh (K1.out.both hk2);clear hk2 C1 p0 p1 p2 p3 pl B0;go_wp2_with fail;refine(C2 _).out.mono ?_;rintro e w3 ⟨rfl,hk3⟩;have HB1:=zh (HB1.out.keep hk3);have K3:=zh (K2.out.both hk3);clear hk3 C2;obtain⟨r0,r1,f0,f1,rl⟩:=HB1.out.two;have hn1:¬br=w3.heap.size:=om;go_wp2;refine bodyPost_ret (by simp [results,Tryz.results56,go_sem,r0,r1,rl,hn1];rfl) rfl ?_;have HK:=K3;have hs1:=JQ.out;exact⟨rfl,kp⟩
 rw [if_neg h1]at C0;rw [Io fun h=>h1 (wE h).1];by_cases h2:is64 (a.den:Int)
 ·rw [if_pos h2]at C2;generalize a.num=n at *;generalize (a.den:Int)=d at *;clear nE rA uQ hza hda na a1 a2 h1 h2 Io wE;go_enter Tryz.func56,Tryz.ntmps56;go_wp2_with fail;refine(C0 _).out.mono ?_;rintro e w1 ⟨rfl,hk1⟩;have B0:aL w1 w.heap.size #[.bool lK,.string lM,.bool lY,.string lZ]:=aL.keep kb hk1;have B1:aL w1 (w.heap.size+1) #[.int .i64 0,.int .i64 0]:=aL.keep kb hk1;have K1:Hid (Keep au w w1):=zh (Keep.both kp hk1);have HB1:=zh B1;have JQ:Hid (w.heap.size≤w.heap.size+1):=zh om;clear hk1 C0 B1;obtain⟨p0,p1,p2,p3,_,_,_,_,pl⟩:=B0.four;generalize w.heap.size+1=br at *;go_wp2_with fail;refine(C1 _).out.mono ?_;rintro e w2 ⟨rfl,hk2⟩;have HB1:=zh (HB1.out.keep hk2);have K2:=zh (K1.out.both hk2);clear hk2 C1 p0 p1 p2 p3 pl B0;go_wp2_with fail;refine(C2 _).out.mono ?_;rintro e w3 ⟨rfl,hk3⟩;have HB1:=zh (HB1.out.keep hk3);have K3:=zh (K2.out.both hk3);clear hk3 C2;obtain⟨r0,r1,f0,f1,rl⟩:=HB1.out.two;have hn1:¬br=w3.heap.size:=om;go_wp2;refine bodyPost_ret (by simp [results,Tryz.results56,go_sem,r0,r1,rl,hn1];rfl) rfl ?_;have HK:=K3;have hs1:=JQ.out;exact⟨rfl,kp⟩
 rw [if_neg h2]at C2;generalize a.num=n at *;generalize (a.den:Int)=d at *;clear nE rA uQ hza hda na a1 a2 h1 h2 Io wE;go_enter Tryz.func56,Tryz.ntmps56;go_wp2_with fail;refine(C0 _).out.mono ?_;rintro e w1 ⟨rfl,hk1⟩;have B0:aL w1 w.heap.size #[.bool lK,.string lM,.bool lY,.string lZ]:=aL.keep kb hk1;have B1:aL w1 (w.heap.size+1) #[.int .i64 0,.int .i64 0]:=aL.keep kb hk1;have K1:Hid (Keep au w w1):=zh (Keep.both kp hk1);have HB1:=zh B1;have JQ:Hid (w.heap.size≤w.heap.size+1):=zh om;clear hk1 C0 B1;obtain⟨p0,p1,p2,p3,_,_,_,_,pl⟩:=B0.four;generalize w.heap.size+1=br at *;go_wp2_with fail;refine(C1 _).out.mono ?_;rintro e w2 ⟨rfl,hk2⟩;have HB1:=zh (HB1.out.keep hk2);have K2:=zh (K1.out.both hk2);clear hk2 C1 p0 p1 p2 p3 pl B0;go_wp2_with fail;refine(C2 _).out.mono ?_;rintro e w3 ⟨rfl,hk3⟩;have HB1:=zh (HB1.out.keep hk3);have K3:=zh (K2.out.both hk3);clear hk3 C2;obtain⟨r0,r1,f0,f1,rl⟩:=HB1.out.two;have hn1:¬br=w3.heap.size:=om;go_wp2;refine bodyPost_ret (by simp [results,Tryz.results56,go_sem,r0,r1,rl,hn1];rfl) rfl ?_;have HK:=K3;have hs1:=JQ.out;exact⟨rfl,kp⟩
theorem Ev (w:World)(va:Value)(a:Rat)(ha:bO va a)(na:NB 1000 a):Calls Tryz.prog 56 #[va] w fun e w'=>e= .returned (qL a)∧Keep au w w':=
 O9 w va a ha (na.mono om)
theorem JL {z:Int}(h:dl z≤65536):z.natAbs<BIG:=xV h (kH _)
theorem NB.rb {k:Nat}{q:Rat}(h:NB k q)(hk:k≤60000):RB BIG q:=⟨JL (by have:=h.1;omega),by have:=JL (z:=(q.den:Int)) (by have:=h.2;omega);simpa using this⟩
theorem qO {j k:Nat}{x y:Int}(hx:dl x≤j)(hy:dl y≤k)(h:j+k≤60000):(x*y).natAbs<BIG:=JL (by have:=gU x y;omega)
theorem QJ {k:Nat}{x y:Int}(hx:dl x≤k)(hy:dl y≤k)(h:k≤60000):(x+y).natAbs<BIG:=JL (by have:=En x y k hx hy;omega)
section
variable (w:World) (bz oz bx ox eP oy:Nat) (x y:Rat)
theorem rZ (hz:iK w bz oz)(hx:eZ w bx ox x)(hy:eZ w eP oy y)(nx:NB 2000 x)(ny:NB 2000 y):
  Calls Tryz.prog 67 #[.pointer (some ⟨bz,oz,none⟩),.pointer (some ⟨bx,ox,none⟩),.pointer (some ⟨eP,oy,none⟩)] w fun e w'=>
   e= .returned (.pointer (some ⟨bz,oz,none⟩))∧Keep (AtR bz oz) w w'∧eZ w' bz oz (x*y):=
 Q7 (Nat.le_refl _) Br w bz oz bx ox eP oy x y hz hx hy (nx.rb om) (ny.rb om) (qO nx.1 ny.1 om) (by have:=qO (x:=(x.den:Int)) (y:=(y.den:Int)) nx.2 ny.2 om;rwa [Int.natAbs_mul,Int.natAbs_natCast,Int.natAbs_natCast]at this)
theorem su (hz:iK w bz oz)(hx:eZ w bx ox x)(hy:eZ w eP oy y)(nx:NB 2000 x)(ny:NB 2000 y):
  Calls Tryz.prog 69 #[.pointer (some ⟨bz,oz,none⟩),.pointer (some ⟨bx,ox,none⟩),.pointer (some ⟨eP,oy,none⟩)] w fun e w'=>
   e= .returned (.pointer (some ⟨bz,oz,none⟩))∧Keep (AtR bz oz) w w'∧eZ w' bz oz (x+y):=
 Gw (Nat.le_refl _) Br w bz oz bx ox eP oy x y hz hx hy (nx.rb om) (ny.rb om)
  (QJ (k:=4000) (by have:=gU x.num y.den;have:=nx.1;have:=ny.2;omega) (by have:=gU y.num x.den;have:=ny.1;have:=nx.2;omega) om)
  (by have:=qO (x:=(x.den:Int)) (y:=(y.den:Int)) nx.2 ny.2 om;rwa [Int.natAbs_mul,Int.natAbs_natCast,Int.natAbs_natCast]at this)
  (qO nx.1 ny.2 om) (qO ny.1 nx.2 om)
theorem zbo (nx:NB 2000 x)(ny:NB 2000 y):(x.num*y.den-y.num*x.den).natAbs<BIG:=by
 rw [Int.sub_eq_add_neg];exact QJ (k:=4000) (by have:=gU x.num y.den;have:=nx.1;have:=ny.2;omega) (by rw [xY];have:=gU y.num x.den;have:=ny.1;have:=nx.2;omega) om
theorem XE (hx:eZ w bx ox x)(hy:eZ w eP oy y)(nx:NB 2000 x)(ny:NB 2000 y):
  Calls Tryz.prog 37 #[.pointer (some ⟨bx,ox,none⟩),.pointer (some ⟨eP,oy,none⟩)] w fun e w'=>e= .returned (.int .i64 (x-y).num.sign)∧Keep au w w':=
 Ra (Nat.le_refl _) Br w bx ox eP oy x y hx hy (nx.rb om) (ny.rb om) (zbo x y nx ny)
  (by have:=qO (x:=(x.den:Int)) (y:=(y.den:Int)) nx.2 ny.2 om;rwa [Int.natAbs_mul,Int.natAbs_natCast,Int.natAbs_natCast]at this)
  (qO nx.1 ny.2 om) (qO ny.1 nx.2 om)
end
end Go.Proofs.YtaiffmebphhdaaaGreat
