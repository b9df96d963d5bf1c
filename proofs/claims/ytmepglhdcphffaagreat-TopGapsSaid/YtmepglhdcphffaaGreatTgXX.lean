/- Package gap: Check, Bad. For TopGaps. Package gap: Do. For TopGaps. Package gap: what Do tells. For TopGaps. -/
import Derived.Test.YtmepglhdcphffaaGreatTgWW
import Derived.Deep.DeepCutAuto
import Derived.Deep.AppendLies
import Derived.OwnWalk
import Derived.IntWalk
namespace Go.Proofs.YtmepglhdcphffaaGreat
set_option maxRecDepth 100000
set_option maxHeartbeats 16000000
set_option linter.unusedSimpArgs false
set_option linter.unusedVariables false
open Go.ChangeShapes Go.WideShapes Go.RowKit
structure Gp where
 A:Int
 B:Int
 By:Int
def kP (w:World)(v:Value)(l:List Gp):Prop:=
 ∃oa cap,v= .slice oa l.length cap∧l.length≤maxLen∧(∀g∈l,dA g.A∧dA g.B∧dA g.By)∧(l≠ []→∃b o,oa=some ⟨b,o,none⟩∧b<w.heap.size∧
  ∀i g,l[i]? =some g→w.cell? ⟨b,o+i*3,none⟩=some (.int .i64 g.A)∧w.cell? ⟨b,o+i*3+1,none⟩=some (.int .i64 g.B)∧w.cell? ⟨b,o+i*3+2,none⟩=some (.int .i64 g.By))
theorem kP.keep {w w':World}{v:Value}{l:List Gp}(h:kP w v l)(k:Keep au w w'):kP w' v l:=by
 obtain⟨oa,cap,h1,h2,h3,h4⟩:=h;refine⟨oa,cap,h1,h2,h3,fun hne=> ?_⟩;obtain⟨b,o,e,hb,hc⟩:=h4 hne;exact⟨b,o,e,bJ hb k.size,fun i g hg=>by simp only [k.cell hb];exact hc i g hg⟩
def gc (n:Int)(g:Gp):Int:=if g.A<0∨n≤g.A∨g.B<0∨n≤g.B then 6 else if g.By< -1000000∨1000000<g.By then 3 else 0
def eO (n:Int):List Gp→Nat→Int × Int
 | [],_=>(0,0)
 | g::t,i=>if gc n g=0 then eO n t (i+1)else(gc n g,i)
def dQ (n:Int)(l:List Gp):Int × Int:=if n<0∨12<n then(3,-1)else if 60<l.length then(2,0)else eO n l 0
theorem Mc (n:Int)(l:List Gp)(k:Nat)(h:k<l.length):eO n (l.drop k) k=if gc n l[k]=0 then eO n (l.drop (k+1)) (k+1)else(gc n l[k],(k:Int)):=by
 rw [List.drop_eq_getElem_cons h,eO]
theorem kP.at {w:World}{v:Value}{l:List Gp}(h:kP w v l){k:Nat}(hk:k<l.length):∃b o cap,v= .slice (some ⟨b,o,none⟩) l.length cap∧b<w.heap.size∧
  w.cell? ⟨b,o+k*3,none⟩=some (.int .i64 l[k].A)∧w.cell? ⟨b,o+k*3+1,none⟩=some (.int .i64 l[k].B)∧w.cell? ⟨b,o+k*3+2,none⟩=some (.int .i64 l[k].By):=by
 obtain⟨oa,cap,h1,h2,h3,h4⟩:=h;obtain⟨b,o,rfl,hb,hc⟩:=h4 (by rintro rfl;simp at hk);exact⟨b,o,cap,h1,hb,hc k _ (eD hk)⟩
theorem gc6 {n A B By:Int}(h:A<0∨n≤A∨B<0∨n≤B):gc n ⟨A,B,By⟩=6:=by unfold gc;rw [if_pos h]
theorem gc3 {n A B By:Int}(h:¬(A<0∨n≤A∨B<0∨n≤B))(h':By< -1000000∨1000000<By):gc n ⟨A,B,By⟩=3:=by unfold gc;rw [if_neg h,if_pos h']
theorem gc0 {n A B By:Int}(h:¬(A<0∨n≤A∨B<0∨n≤B))(h':¬(By< -1000000∨1000000<By)):gc n ⟨A,B,By⟩=0:=by unfold gc;rw [if_neg h,if_neg h']
theorem Ah {n:Int}{l:List Gp}{k:Nat}{g:Gp}{c:Int}(h:eO n l 0=eO n (l.drop k) k)(hx:eO n (l.drop k) k=if gc n g=0 then eO n (l.drop (k+1)) (k+1)else(gc n g,(k:Int)))(hc:gc n g=c)(h0:c≠0):eO n l 0=(c,(k:Int)):=by
 rw [h,hx,hc,if_neg h0]
theorem kQ {p q:Int × Int}(h:p=q):Ending.returned (dN p.1 p.2)= .returned (dN q.1 q.2):=by rw [h]
theorem zcl {n:Int}{l:List Gp}{k:Nat}{g:Gp}(h:eO n l 0=eO n (l.drop k) k)(hx:eO n (l.drop k) k=if gc n g=0 then eO n (l.drop (k+1)) (k+1)else(gc n g,(k:Int)))(hc:gc n g=0):eO n l 0=eO n (l.drop (k+1)) (k+1):=by
 rw [h,hx,if_pos hc]
theorem mK (w:World)(n:Int)(v:Value)(l:List Gp)(h:kP w v l):
  Calls Tryz.prog 21 #[.int .i64 n,v] w fun e w'=>e= .returned (dN (dQ n l).1 (dQ n l).2)∧Keep au w w':=by
 have HG:=zh h;obtain⟨oa,cap,rfl,hm,hr,_⟩:=h;have HR:=zh hr;clear hr;unfold maxLen at hm;by_cases h1:n<0
 ·have hv:dQ n l=(3,-1):=by unfold dQ;rw [if_pos (.inl h1)]
  rw [hv];have e1:=cZ h1;go_enter Tryz.func21,Tryz.ntmps21;go_wp2;go_returns;exact⟨rfl,kp⟩
 have e1:=bQ h1;by_cases h2:12<n
 ·have hv:dQ n l=(3,-1):=by unfold dQ;rw [if_pos (.inr h2)]
  rw [hv];have e2:=cZ h2;go_enter Tryz.func21,Tryz.ntmps21;go_wp2;go_returns;exact⟨rfl,kp⟩
 have e2:=bQ h2;by_cases h3:60<l.length
 ·have hv:dQ n l=(2,0):=by unfold dQ;rw [if_neg om,if_pos h3]
  rw [hv];have e3:(60:Int)<(l.length:Int):=om;go_enter Tryz.func21,Tryz.ntmps21;go_wp2;go_returns;exact⟨rfl,kp⟩
 have e3:¬(60:Int)<(l.length:Int):=om;have hv:dQ n l=eO n l 0:=by unfold dQ;rw [if_neg om,if_neg h3]
 rw [hv];clear hv;go_enter Tryz.func21,Tryz.ntmps21;go_wp2;go_loopw [22] (fun s wr=>∃k:Nat,k≤l.length∧s= .int .i64 k∧eO n l 0=eO n (l.drop k) k∧Keep au (w.alloc (.cells #[.int .i64 0,.int .i64 0] 38)) wr) (fun s _=>(l.length-intOf s).toNat)
 case atStart=>exact⟨0,om,rfl,rfl,Keep.refl _ _⟩
 obtain⟨k,hk,rfl,hdr,hkp⟩:=hrel;have HD:=zh hdr;clear hdr;have KW:Keep au w wr:=(Keep.refl au w).alloc _ |>.trans hkp fun _ _ _ h=>h;have BW:aL wr w.heap.size #[.int .i64 0,.int .i64 0]:=aL.keep (aN _ _ rfl) hkp;obtain⟨c0,c1,f0,f1,l0⟩:=BW.two;have m0:¬wr.heap.size=w.heap.size:=om;by_cases hkl:k<l.length
 ·have hlt:(k:Int)<(l.length:Int):=om;obtain⟨b,o,cp,hsl,hb,g0,g1,g2⟩:=(HG.out.keep KW).at hkl;cases hsl;have hbb:¬wr.heap.size=b:=om;have hx:=Mc n l k hkl;generalize l[k]=g at *;obtain⟨A,B,By⟩:=g;simp only at g0 g1 g2;have HX:=zh hx;clear hx;by_cases p1:A<0
  ·have zfj:=cZ p1;have E:=zh (Ah HD.out HX.out (gc6 (.inl p1)) om);clear HX;go_wp2;refine bodyPost_ret (by simp [results,Tryz.results21,go_sem,c0,c1,f0,f1,m0,l0];rfl) rfl ?_;exact⟨kQ E.out.symm,kp⟩
  have zfj:=bQ p1;by_cases p2:n≤A
  ·have zfk:=cZ p2;have E:=zh (Ah HD.out HX.out (gc6 (.inr (.inl p2))) om);clear HX;go_wp2;refine bodyPost_ret (by simp [results,Tryz.results21,go_sem,c0,c1,f0,f1,m0,l0];rfl) rfl ?_;exact⟨kQ E.out.symm,kp⟩
  have zfk:=bQ p2;by_cases p3:B<0
  ·have zfl:=cZ p3;have E:=zh (Ah HD.out HX.out (gc6 (.inr (.inr (.inl p3)))) om);clear HX;go_wp2;refine bodyPost_ret (by simp [results,Tryz.results21,go_sem,c0,c1,f0,f1,m0,l0];rfl) rfl ?_;exact⟨kQ E.out.symm,kp⟩
  have zfl:=bQ p3;by_cases p4:n≤B
  ·have zfm:=cZ p4;have E:=zh (Ah HD.out HX.out (gc6 (.inr (.inr (.inr p4)))) om);clear HX;go_wp2;refine bodyPost_ret (by simp [results,Tryz.results21,go_sem,c0,c1,f0,f1,m0,l0];rfl) rfl ?_;exact⟨kQ E.out.symm,kp⟩
  have zfm:=bQ p4;by_cases p5:By< -1000000
  ·have zfn:=cZ p5;have E:=zh (Ah HD.out HX.out (gc3 om (.inl p5)) om);clear HX;go_wp2;refine bodyPost_ret (by simp [results,Tryz.results21,go_sem,c0,c1,f0,f1,m0,l0];rfl) rfl ?_;exact⟨kQ E.out.symm,kp⟩
  have zfn:=bQ p5;by_cases p6:1000000<By
  ·have zfo:=cZ p6;have E:=zh (Ah HD.out HX.out (gc3 om (.inr p6)) om);clear HX;go_wp2;refine bodyPost_ret (by simp [results,Tryz.results21,go_sem,c0,c1,f0,f1,m0,l0];rfl) rfl ?_;exact⟨kQ E.out.symm,kp⟩
  have zfo:=bQ p6;have HY:=zh (zcl HD.out HX.out (gc0 om om));clear HX;go_wp2;go_roundw
  case rel=>exact⟨k+1,om,gn,HY.out,hkp.trans kp fun _ _ _ h=>h⟩
  simp [intOf];omega
 have hlt:¬(k:Int)<(l.length:Int):=om;obtain rfl:k=l.length:=om;have E:=zh (by rw [HD.out,List.drop_length];rfl:eO n l 0=(0,0));go_wp2;refine bodyPost_ret (by simp [results,Tryz.results21,go_sem,c0,c1,f0,f1,m0,l0];rfl) rfl ?_;exact⟨kQ E.out.symm,kp⟩
def iK (m:Nat):List Int→Nat→Int × Int
 | [],_=>(0,0)
 | z::t,i=>if z<0∨(m:Int)≤z then(3,(i:Int))else iK m t (i+1)
theorem Md (m:Nat)(r:List Int)(k:Nat)(h:k<r.length):iK m (r.drop k) k=if r[k]<0∨(m:Int)≤r[k]then(3,(k:Int))else iK m (r.drop (k+1)) (k+1):=by
 rw [List.drop_eq_getElem_cons h,iK]
def XW (r:List Int)(i:Nat):Nat:=(r.getD i 0).toNat
def iE (l:List Gp)(r:List Int)(i:Nat):Gp:=l.getD (XW r i) ⟨0,0,0⟩
def jU (r:List Int)(i:Nat):Nat:=(i+1)%r.length
def uW (l:List Gp)(r:List Int)(i:Nat):Prop:=(iE l r i).A=(iE l r (jU r i)).B
def sumTo (l:List Gp)(r:List Int):Nat→Int
 | 0=>0
 | k+1=>wrap64 (sumTo l r k+(iE l r k).By)
def zaO (l:List Gp)(r:List Int):Prop:=(∀i,i<r.length→uW l r i)∧sumTo l r r.length<0
def tQ (n:Int)(l:List Gp)(r:List Int):Int × Int:=if(dQ n l).1≠0 then dQ n l else iK l.length r 0
open Classical in
noncomputable def Ed (n:Int) (l:List Gp) (r:List Int):Bool:=decide ((tQ n l r).1=0∧zaO l r)
theorem XY {m:Nat}{r:List Int}:∀ {i:Nat},(iK m r i).1=0↔∀z∈r,0≤z∧z<(m:Int):=by
 induction r with
 | nil=>intro i;simp [iK]
 | cons z t ih=>
  intro i;rw [iK];by_cases h:z<0∨(m:Int)≤z
  ·rw [if_pos h];simp;omega
  rw [if_neg h,ih];simp;omega
theorem zcm {n:Int}{l:List Gp}:∀ {i:Nat},(eO n l i).1=0→eO n l i=(0,0)∧∀g∈l,gc n g=0:=by
 induction l with
 | nil=>intro i _;simp [eO]
 | cons g t ih=>
  intro i h;rw [eO]at h ⊢;by_cases hg:gc n g=0
  ·rw [if_pos hg]at h ⊢;obtain⟨h1,h2⟩:=ih h;exact⟨h1,by simpa using ⟨hg,h2⟩⟩
  rw [if_neg hg]at h;exact absurd h hg
theorem Jd {n:Int}{l:List Gp}(h:(dQ n l).1=0):dQ n l=(0,0)∧0≤n∧n≤12∧l.length≤60∧∀g∈l,(0≤g.A∧g.A<n)∧(0≤g.B∧g.B<n)∧ -1000000≤g.By∧g.By≤1000000:=by
 unfold dQ at h ⊢;split at h
 ·simp at h
 split at h
 ·simp at h
 rw [if_neg (by assumption),if_neg (by assumption)];obtain⟨h1,h2⟩:=zcm h;refine⟨h1,om,om,om,fun g hg=> ?_⟩;have:=h2 g hg;unfold gc at this;split at this
 ·omega
 split at this<;>omega
theorem Ee {l:List Gp}{r:List Int}{k j:Nat}{z:Int}{g:Gp}(h1:r[k]? =some z)(hz:z=(j:Int))(h2:l[j]? =some g):iE l r k=g:=by
 subst hz;unfold iE XW;rw [dV,dV,h1];simp [h2]
theorem O4 {n:Int}{l:List Gp}{r:List Int}{c a:Int}(hw:tQ n l r=(c,a))(hc:c≠0):Ending.returned (.tuple #[.bool false,.agg #[.int .i64 c,.int .i64 a]])= .returned (.tuple #[.bool (Ed n l r),dN (tQ n l r).1 (tQ n l r).2]):=by
 have:Ed n l r=false:=by simp [Ed,hw,hc]
 rw [this,hw];rfl
theorem XZ {n:Int}{l:List Gp}{r:List Int}{b:Bool}(hw:tQ n l r=(0,0))(hb:b=true↔zaO l r):Ending.returned (.tuple #[.bool b,.agg #[.int .i64 0,.int .i64 0]])= .returned (.tuple #[.bool (Ed n l r),dN (tQ n l r).1 (tQ n l r).2]):=by
 have:Ed n l r=b:=by
  unfold Ed;rw [hw];cases b<;>simp_all
 rw [this,hw];rfl
theorem zo {n:Int}{l:List Gp}{r:List Int}(h:(dQ n l).1=0):tQ n l r=iK l.length r 0:=by unfold tQ;rw [if_neg (by simpa using h)]
theorem zaP {n:Int}{l:List Gp}{r:List Int}(h:¬(dQ n l).1=0):tQ n l r=dQ n l:=by unfold tQ;rw [if_pos h]
theorem O5 {m:Nat}{r:List Int}(h:iK m r 0=(0,0)){k:Nat}(hk:k<r.length):∃j:Nat,r[k]=(j:Int)∧j<m:=by
 have:=(XY (i:=0)).1 (congrArg Prod.fst h) r[k] (List.getElem_mem hk);exact⟨r[k].toNat,om,om⟩
theorem O6 (w:World)(n:Int)(v:Value)(l:List Gp)(vr:Value)(r:List Int)(h:kP w v l)(h':aR w vr r):
  Calls Tryz.prog 10 #[.int .i64 n,v,vr] w fun e w'=>e= .returned (.tuple #[.bool (Ed n l r),dN (tQ n l r).1 (tQ n l r).2])∧Keep au w w':=by
 have HG:=zh h;have HI:=zh h';obtain⟨oa,cap,rfl,hm,hr,_⟩:=h;obtain⟨MP,cap',rfl,hm',hr',_⟩:=h';clear hr hr';unfold maxLen at hm hm';by_cases h0:(dQ n l).1=0
 ·obtain ⟨e0,hn0,hn1,hl,hgs⟩:=Jd h0;have H0:=zh h0;have HS:=zh hgs;have E0:=zh e0;have F0:=zh (by rw [e0];rfl:dN (dQ n l).1 (dQ n l).2= .agg #[.int .i64 0,.int .i64 0]);clear h0 hgs e0;go_enter Tryz.func10,Tryz.ntmps10;go_wp2_with fail;refine(mK _ n _ l (HG.out.keep kp)).mono ?_;rintro e w1 ⟨rfl,hk1⟩;have K1:Keep au w w1:=Keep.trans kp hk1 fun _ _ _ h=>h;have B1:aL w1 w.heap.size #[.int .i64 0,.int .i64 0]:=aL.keep kb hk1;have hlt1:=B1.lt;clear hk1;rw [F0.out];go_wp2;go_loopw [23] (fun s wr=>∃k:Nat,k≤r.length∧s= .int .i64 k∧iK l.length r 0=iK l.length (r.drop k) k∧Keep au w1 wr) (fun s _=>(r.length-intOf s).toNat)
  case atStart=>exact⟨0,om,rfl,rfl,kp⟩
  obtain⟨k,hk,rfl,hdr,hkp⟩:=hrel;have HD:=zh hdr;clear hdr;have KW:Keep au w wr:=K1.trans hkp fun _ _ _ h=>h;have BW:aL wr w.heap.size #[.int .i64 0,.int .i64 0]:=B1.keep hkp;obtain⟨c0,c1,f0,f1,l0⟩:=BW.two;have m0:¬wr.heap.size=w.heap.size:=om;by_cases hkl:k<r.length
  ·have hlt:(k:Int)<(r.length:Int):=om;obtain⟨b,o,cp,hsl,hb,g0⟩:=(HI.out.keep KW).at hkl;cases hsl;have hbb:¬wr.heap.size=b:=om;have hx:=Md l.length r k hkl;generalize r[k]=z at *;have HX:=zh hx;clear hx;by_cases p1:z<0
   ·have q1:=cZ p1;have E:=zh (HD.out.trans (HX.out.trans (if_pos (.inl p1))));clear HX;go_wp2;refine bodyPost_ret (by simp [results,Tryz.results10,go_sem,c0,c1,f0,f1,m0,l0];rfl) rfl ?_;exact⟨O4 ((zo H0.out).trans E.out) om,kp⟩
   have q1:=bQ p1;by_cases p2:(l.length:Int)≤z
   ·have q2:=cZ p2;have E:=zh (HD.out.trans (HX.out.trans (if_pos (.inr p2))));clear HX;go_wp2;refine bodyPost_ret (by simp [results,Tryz.results10,go_sem,c0,c1,f0,f1,m0,l0];rfl) rfl ?_;exact⟨O4 ((zo H0.out).trans E.out) om,kp⟩
   have q2:=bQ p2;have HY:=zh (HD.out.trans (HX.out.trans (if_neg om)));clear HX;go_wp2;go_roundw
   case rel=>exact⟨k+1,om,gn,HY.out,hkp⟩
   simp [intOf];omega
  have hlt:¬(k:Int)<(r.length:Int):=om;obtain rfl:k=r.length:=om;have E:=zh (by rw [HD.out,List.drop_length];rfl:iK l.length r 0=(0,0));clear HD c0 c1 f0 f1 l0 m0 hk;have B2:aL wr w.heap.size #[.int .i64 0,.int .i64 0]:=BW;clear BW hkp B1 K1;obtain⟨wa,rfl⟩:∃W:World,W=wr:=⟨_,rfl⟩;go_wp2;go_loopw [41,11] (fun s t wr=>∃k:Nat,k≤r.length∧s= .int .i64 k∧t= .int .i64 (sumTo l r k)∧(∀i,i<k→uW l r i)∧Keep au wa wr) (fun s _ _=>(r.length-intOf s).toNat)
  case atStart=>exact⟨0,om,rfl,rfl,fun i hi=>absurd hi om,kp⟩
  obtain⟨k,hk,rfl,rfl,hlk,hkp⟩:=hrel;have HK:=zh hlk;clear hlk;have KX:Keep au w wr:=KW.trans hkp fun _ _ _ h=>h;have BX:aL wr w.heap.size #[.int .i64 0,.int .i64 0]:=B2.keep hkp;obtain⟨c0,c1,f0,f1,l0⟩:=BX.two;have m0:¬wr.heap.size=w.heap.size:=om;by_cases hkl:k<r.length
  ·have hlt:(k:Int)<(r.length:Int):=om;obtain⟨b,o,cp,hsl,hb,g0⟩:=(HI.out.keep KX).at hkl;cases hsl;obtain⟨j,hj,hjl⟩:=O5 E.out hkl;have hq:=eD hkl;rw [hj]at g0;have hjl':(j:Int)<(l.length:Int):=om;obtain⟨bg,og,cg,hsl,hbg,a0,a1,a2⟩:=(HG.out.keep KX).at hjl;cases hsl;have hg:=eD hjl;have hGA:=Ee hq hj hg;have hnl:jU r k<r.length:=Nat.mod_lt _ om;have hnx:((k:Int)+1).tmod (r.length:Int)=(jU r k:Int):=by unfold jU;simp [Int.tmod_eq_emod_of_nonneg (show(0:Int)≤(k:Int)+1 from om)]
   have hnlt:(jU r k:Int)<(r.length:Int):=om;obtain⟨b',o',cp',hsl,hb',g0'⟩:=(HI.out.keep KX).at hnl;cases hsl;obtain⟨j',hj',hjm⟩:=O5 E.out hnl;have hq':=eD hnl;rw [hj']at g0';have hjm':(j':Int)<(l.length:Int):=om;obtain⟨bg',og',cg',hsl,hbg',a0',a1',a2'⟩:=(HG.out.keep KX).at hjm;cases hsl;have hg':=eD hjm;have hGB:=Ee hq' hj' hg';have HL:uW l r k↔l[j].A=l[j'].B:=by unfold uW;rw [hGA,hGB]
   have HY:(iE l r k).By=l[j].By:=by rw [hGA]
   clear hGA hGB;generalize jU r k=nx at *;have HL:=zh HL;have HY:=zh HY;clear hq hq' hg hg' hj hj';generalize l[j].A=X at *;generalize l[j'].B=Y at *;generalize l[j].By=Z at*;by_cases hlk:X=Y
   ·have e1:(X != Y)=false:=bne_eq_false_iff_eq.2 hlk;have HN:=zh (HL.out.2 hlk);have HZ:=zh (by rw [sumTo,HY.out]:sumTo l r (k+1)=wrap64 (sumTo l r k+Z));clear hlk HL HY;generalize sumTo l r k=sk at *;go_wp2;go_quiet (fail);go_wp2;go_roundw
    case rel=>exact⟨k+1,om,gn,by rw [HZ.out],fun i hi=>by
     by_cases hik:i=k
     ·rw [hik];exact HN.out
     exact HK.out i om,hkp.trans kp fun _ _ _ h=>h⟩
    simp [intOf];omega
   have e1:(X != Y)=true:=bne_iff_ne.2 hlk;have HN:=zh (fun h:zaO l r=>hlk (HL.out.1 (h.1 k hkl)));clear hlk HL HY;go_wp2;go_quiet (fail);go_wp2;refine bodyPost_ret (by simp [results,Tryz.results10,go_sem,c0,c1,f0,f1,m0,l0];rfl) rfl ?_;exact⟨XZ ((zo H0.out).trans E.out) ⟨fun h=>by simp at h,fun h=>absurd h HN.out⟩,kp⟩
  have hlt:¬(k:Int)<(r.length:Int):=om;obtain rfl:k=r.length:=om;go_wp2;refine bodyPost_ret (by simp [results,Tryz.results10,go_sem,c0,c1,f0,f1,m0,l0];rfl) rfl ?_;exact⟨XZ ((zo H0.out).trans E.out) ⟨fun h=>⟨HK.out,by simpa using h⟩,fun h=>by simpa using h.2⟩,kp⟩
 obtain⟨c,a,e0⟩:∃c a,dQ n l=(c,a):=⟨_,_,rfl⟩;have hc:¬c=0:=by rw [e0]at h0;exact h0
 have F0:=zh (by rw [e0];rfl:dN (dQ n l).1 (dQ n l).2= .agg #[.int .i64 c,.int .i64 a]);have E:=zh ((zaP (r:=r) h0).trans e0);clear h0 e0;have hcb:(c != 0)=true:=bne_iff_ne.2 hc;go_enter Tryz.func10,Tryz.ntmps10;go_wp2_with fail;refine(mK _ n _ l (HG.out.keep kp)).mono ?_;rintro e w1 ⟨rfl,hk1⟩;have K1:Keep au w w1:=Keep.trans kp hk1 fun _ _ _ h=>h;have B1:aL w1 w.heap.size #[.int .i64 0,.int .i64 0]:=aL.keep kb hk1;obtain⟨c0,c1,f0,f1,l0⟩:=B1.two;have m0:¬w1.heap.size=w.heap.size:=om;clear hk1;rw [F0.out];go_wp2;go_region;go_wp2;refine bodyPost_ret (by simp [results,Tryz.results10,go_sem,c0,c1,f0,f1,m0,l0];rfl) rfl ?_;exact⟨O4 E.out hc,kp⟩
theorem QK:∀(n:Nat) (f:Nat→Nat),(∀i,i≤n→f i<n)→∃i j,i<j∧j≤n∧f i=f j
 | 0,f,h=>absurd (h 0 (Nat.le_refl _)) om
 | n+1,f,h=>by
  by_cases hc:∃i,i≤n∧f i=f (n+1)
  ·obtain ⟨i,hi,he⟩:=hc;exact⟨i,n+1,om,Nat.le_refl _,he⟩
  have hne:∀i,i≤n→f i≠f (n+1):=fun i hi he=>hc ⟨i,hi,he⟩;obtain⟨i,j,hij,hj,he⟩:=QK n (fun i=>if f (n+1)<f i then f i-1 else f i) (fun i hi=>by
   have h1:=h i om;have h2:=h (n+1) (Nat.le_refl _);have h3:=hne i hi;split<;>omega)
  refine⟨i,j,hij,om,?_⟩;have h1:=hne i om;have h2:=hne j hj;split at he<;>split at he<;>omega
def nxt (l:List Gp)(bs:List Int)(x:Nat):Nat:=(l.getD (bs.getD x 0).toNat ⟨0,0,0⟩).B.toNat
def chain (l:List Gp)(bs:List Int)(x:Nat):Nat→Nat
 | 0=>x
 | j+1=>nxt l bs (chain l bs x j)
theorem kR (l:List Gp)(bs:List Int)(x i:Nat):∀j,chain l bs x (i+j)=chain l bs (chain l bs x i) j
 | 0=>rfl
 | j+1=>by rw [← Nat.add_assoc,chain,chain,kR l bs x i j]
def Me (n:Nat)(l:List Gp)(bs:List Int):Prop:=bs.length=n∧(∀x,x<n→bs.getD x 0<0∨(bs.getD x 0).toNat<l.length)∧∀g∈l,0≤g.B∧g.B<(n:Int)
theorem Ef {α:Type}{l:List α}{i:Nat}{d:α}(h:i<l.length):l.getD i d∈l:=by
 rw [dV,eD h];exact List.getElem_mem h
theorem Me.next {n:Nat}{l:List Gp}{bs:List Int}(h:Me n l bs){x:Nat}(hx:x<n)(h0:¬bs.getD x 0<0):nxt l bs x<n:=by
 have h1:=(h.2.1 x hx).resolve_left h0;have:=h.2.2 _ (Ef (d:=⟨0,0,0⟩) h1);unfold nxt;omega
theorem Me.chain {n:Nat}{l:List Gp}{bs:List Int}(h:Me n l bs){x:Nat}(hx:x<n):∀ {m:Nat},(∀j,j<m→¬bs.getD (chain l bs x j) 0<0)→Go.Proofs.YtmepglhdcphffaaGreat.chain l bs x m<n
 | 0,_=>hx
 | m+1,h0=>h.next (h.chain hx fun j hj=>h0 j om) (h0 m om)
theorem Mf {n:Nat}{l:List Gp}{bs:List Int}(h:Me n l bs){x:Nat}(hx:x<n)(h0:∀j,j<n→¬bs.getD (chain l bs x j) 0<0):
  ∃p,0<p∧p≤n∧chain l bs (chain l bs x n) p=chain l bs x n∧(∀j,¬bs.getD (chain l bs (chain l bs x n) j) 0<0)∧∀q,0<q→q<p→chain l bs (chain l bs x n) q≠chain l bs x n:=by
 obtain⟨i,j,hij,hj,he⟩:=QK n (chain l bs x) fun i hi=>h.chain hx fun j hj=>h0 j om;have zcn:∀m,chain l bs x (i+(j-i)+m)=chain l bs x (i+m):=fun m=>by
  rw [kR,kR l bs x i m,show i+(j-i)=j from om,he]
 have hall:∀m,¬bs.getD (chain l bs x m) 0<0:=by
  intro m
  induction m using Nat.strongRecOn with
  | _ m ih=>
   by_cases hm:m<n
   ·exact h0 m hm
   have h1:=zcn (m-j);rw [show i+(j-i)+(m-j)=m from om]at h1;rw [h1];exact ih _ om
 have hy:chain l bs (chain l bs x n) (j-i)=chain l bs x n:=by
  rw [← kR];have h1:=zcn (n-i);rw [show i+(j-i)+(n-i)=n+(j-i)from om,show i+(n-i)=n from om]at h1;exact h1
 have hroot:∀m,¬bs.getD (chain l bs (chain l bs x n) m) 0<0:=fun m=>by rw [← kR];exact hall _
 clear zcn hall he;generalize chain l bs x n=y at *;have key:∀k,0<k→k≤n→chain l bs y k=y→∃p,0<p∧p≤n∧chain l bs y p=y∧∀q,0<q→q<p→chain l bs y q≠y:=by
  intro k
  induction k using Nat.strongRecOn with
  | _ k ih=>
   intro hk hkn hc;by_cases hex:∃q,0<q∧q<k∧chain l bs y q=y
   ·obtain ⟨q,hq0,hqk,hqc⟩:=hex;exact ih q hqk hq0 om hqc
   exact⟨k,hk,hkn,hc,fun q hq0 hqk hqc=>hex ⟨q,hq0,hqk,hqc⟩⟩
 obtain⟨p,p1,p2,p3,p4⟩:=key (j-i) om om hy;exact⟨p,p1,p2,p3,hroot,p4⟩
theorem Je {xs ys:List Int}{k m:Nat}(h:k+m+1=xs.length)(hk:m≤k)(hl:ys.length=xs.length)(hy:∀p,p<xs.length→ys.getD p 0=if p<k∨m<p then xs.getD (xs.length-1-p) 0 else xs.getD p 0):ys=xs.reverse:=by
 apply List.ext_getElem
 ·simp [hl]
 intro p h1 h2;have:=hy p om;rw [dV,eD h1]at this;rw [List.getElem_reverse];simp only [Option.getD_some]at this;rw [this];split
 ·rw [dV,eD om];simp
 have hp:p=k∧p=m:=om;rw [dV,eD om];simp only [Option.getD_some];congr 1;omega
theorem rA (l:List Int)(i p:Nat)(v:Int)(hp:p<l.length):(l.set i v).getD p 0=if i=p then v else l.getD p 0:=by
 rw [dV,List.getElem?_set,dV];by_cases h:i=p
 ·subst h;simp [hp]
 simp [h]
theorem TQ {xs ys:List Int}{k m:Nat}(h:k+m+1=xs.length)(hk:k<m)(hl:ys.length=xs.length)(hy:∀p,p<xs.length→ys.getD p 0=if p<k∨m<p then xs.getD (xs.length-1-p) 0 else xs.getD p 0):
  ∀p,p<xs.length→((ys.set k (ys.getD m 0)).set m (ys.getD k 0)).getD p 0=if p<k+1∨m-1<p then xs.getD (xs.length-1-p) 0 else xs.getD p 0:=by
 intro p hp;rw [rA _ _ _ _ (by simpa [hl]using hp),rA _ _ _ _ om];by_cases h1:m=p
 ·subst h1;rw [if_pos rfl,if_pos om,hy k om,if_neg om];congr 1;omega
 rw [if_neg h1];by_cases h2:k=p
 ·subst h2;rw [if_pos rfl,if_pos om,hy m om,if_neg om];congr 1;omega
 rw [if_neg h2,hy p hp];by_cases h3:p<k∨m<p
 ·rw [if_pos h3,if_pos om]
 rw [if_neg h3,if_neg om]
theorem Mg (w:World)(g cap:Nat)(xs:List Int)(h:bW w g xs)(h0:0<xs.length)(hm:xs.length≤9223372036854775807):
  Calls Tryz.prog 51 #[.slice (some ⟨g,0,none⟩) xs.length cap] w fun e w'=>e= .returned (.tuple #[])∧bW w' g xs.reverse∧Keep (YZ g) w w':=by
 have HI:=zh h;have hgl:=h.lt;clear h;go_enter Tryz.func51,Tryz.ntmps51;go_wp2;go_loopw [2,3] (fun s t wr=>∃k m:Nat,k+m+1=xs.length∧k≤m+1∧s= .int .i64 k∧t= .int .i64 m∧(∃ys:List Int,ys.length=xs.length∧(∀p,p<xs.length→ys.getD p 0=if p<k∨m<p then xs.getD (xs.length-1-p) 0 else xs.getD p 0)∧bW wr g ys)∧Keep (YZ g) w wr) (fun s _ _=>(xs.length-intOf s).toNat)
 case atStart=>exact⟨0,xs.length-1,om,om,rfl,gn,⟨xs,rfl,fun p hp=>by rw [if_neg om],HI.out⟩,Keep.refl _ _⟩
 obtain⟨k,m,hkm,hk,rfl,rfl,⟨ys,hl,hy,hb⟩,hkp⟩:=hrel;have HY:=zh hy;clear hy;have HK:=zh hkp;clear hkp;by_cases hlt:k<m
 ·have hlt':(k:Int)<(m:Int):=om;have hk1:(k:Int)<(xs.length:Int):=om;have hm1:(m:Int)<(xs.length:Int):=om;have ck:=hb.cell (i:=k) om;have cm:=hb.cell (i:=m) om;have fk:=hb.free k;have fm:=hb.free m;have gl:=hb.lt;have HB:=zh hb;clear hb;generalize hya:ys.getD k 0=a at *;generalize hyb:ys.getD m 0=b at *;go_wp2;refine wQ (fun w'=>w'.cell? ⟨g,k,none⟩=some (.int .i64 a)∧w'.cell? ⟨g,m,none⟩=some (.int .i64 b)) (fun _=>True) [0,1,2,3,4,5,6,8,9,10,13,14,15] [([0,1,2,3,4,5,6,8,9,10],[7,11,12],13),([14],[],15)] ([],[]) kr kr (fun _ _=>trivial) ⟨ck,cm⟩ ?_;intro X Y W V hne1 hne2 hF hcl hG hgg;have hx1:=fun x=>(hF x).1;have hx2:=fun x=>(hF x).2;have HG:=zh hgg;clear hF hcl hG hgg;simp only [yO,aJ,zl0,zl1,zl2,Bool.false_eq_true,if_false]
  (repeat(quiet_step (fail)));repeat(refine wpQuiet_nil ?_)
  refine ay rfl rfl fun K hK=> ?_;go_simp;refine hK _ _ ⟨⟨fun h=>(by simp at h),HG.out _ trivial⟩,?_⟩;clear hK K
  (repeat(quiet_step (fail)));repeat(refine wpQuiet_nil ?_)
  refine ay rfl rfl fun K hK=> ?_;go_simp;refine hK _ _ ⟨⟨fun h=>(by simp at h),HG.out _ trivial⟩,?_⟩;clear hK K
  repeat(refine wpQuiet_nil ?_)
  refine NoPanic.normal ?_;go_wp2;go_roundw
  case rel=>
   refine⟨k+1,m-1,om,om,gn,by congr 1;omega,⟨_,by simp [hl],TQ hkm hlt hl HY.out,?_⟩,?_⟩
   ·rw [hya,hyb];exact((HB.out.keep (Keep.refl au _).drew).set _).set _
   exact((HK.out.drew).setCell _ fun _=>rfl).setCell _ fun _=>rfl
  simp [intOf];omega
 have hlt':¬(k:Int)<(m:Int):=om;have E:=zh (Je hkm om hl HY.out);go_wp2;go_returns;refine⟨rfl,?_,HK.out⟩;rw [← E.out];exact hb
theorem QL:(Tryz.prog.info? 3).map (fun i=>(i.zero,i.size,i.bytes))=some (some (.int .i64 0),1,8):=kr
def tO (xs:List Int):List Value:=xs.map (Value.int .i64)
def X0:Value→Nat
 | .slice _ n _=>n
 | _=>0
theorem Eh {w:World}{base g n cap:Nat}{xs:List Int}(h:w.ownsRow base 3 1 (.slice (some ⟨g,0,none⟩) n cap) n (tO xs))(hn:n=xs.length):bW w g xs:=by
 subst hn;obtain⟨_,h | ⟨g',cap',cur,hv,hb,hg,hl,hm,hs,ht⟩⟩:=h
 ·obtain ⟨h,_⟩:=h;cases h
 cases hv;refine⟨cur,⟨_,hg⟩,fun i hi=> ?_⟩;have h1:(cur.toList.take (xs.length*1))[i]? =(tO xs)[i]? :=by rw [ht]
 rw [List.getElem?_take,if_pos om]at h1;have h2:cur.toList[i]? =cur[i]? :=sm;rw [← h2,h1];simp [tO,List.getD,hi]
def backs (l:List Gp)(bs:List Int)(y p:Nat):List Int:=(List.range p).map fun q=>bs.getD (chain l bs y q) 0
theorem O7 (l:List Gp)(bs:List Int)(y p:Nat):tO (backs l bs y (p+1))=tO (backs l bs y p)++ [.int .i64 (bs.getD (chain l bs y p) 0)]:=by
 simp [tO,backs,List.range_succ]
theorem iY (l:List Gp)(bs:List Int)(y p:Nat):(backs l bs y p).length=p:=by simp [backs]
def xL (n:Nat)(l:List Gp)(bs:List Int)(x:Nat)(w':World)(v:Value):Prop:=
 ((∃j,j<n∧bs.getD (chain l bs x j) 0<0)∧v= .slice none 0 0)∨
 ((∀j,j<n→¬bs.getD (chain l bs x j) 0<0)∧∃p,0<p∧p≤n∧chain l bs (chain l bs x n) p=chain l bs x n∧(∀j,¬bs.getD (chain l bs (chain l bs x n) j) 0<0)∧
  (∀q,0<q→q<p→chain l bs (chain l bs x n) q≠chain l bs x n)∧aR w' v (backs l bs (chain l bs x n) p).reverse)
theorem Mh {w:World}{base n:Nat}{v:Value}{xs:List Value}(h:w.ownsRow base 3 1 v n xs):∀k,v.ownBlock=some k→base≤k:=by
 intro k hk;obtain⟨_,h | ⟨g',cap',cur,hv,hb,hg,hl,hm,hs,ht⟩⟩:=h
 ·rw [h.1]at hk;cases hk
 rw [hv]at hk;cases hk;exact hb
theorem TR {w:World}{base g n cap:Nat}{xs:List Value}(h:w.ownsRow base 3 1 (.slice (some ⟨g,0,none⟩) n cap) n xs):base≤g:=Mh h g rfl
theorem X3 {n:Nat}{l:List Gp}{bs:List Int}(ok:Me n l bs)(hl:l.length≤60){y:Nat}(hy:y<n)(hr:∀j,¬bs.getD (chain l bs y j) 0<0)(p:Nat):∀z∈(backs l bs y p).reverse,dA z:=by
 intro z hz;rw [List.mem_reverse]at hz;obtain⟨q,_,rfl⟩:=List.mem_map.1 hz;have h1:=hr q;have h2:=(ok.2.1 _ (ok.chain hy (m:=q) fun j _=>hr j)).resolve_left h1;unfold dA;omega
theorem TT (w:World)(n:Nat)(v:Value)(l:List Gp)(g cap:Nat)(bs:List Int)(x:Nat)(hv:kP w v l)(hb:bW w g bs)(ok:Me n l bs)(hx:x<n)(hn:n≤12)(hl:l.length≤60):
  Calls Tryz.prog 22 #[.int .i64 n,v,.slice (some ⟨g,0,none⟩) n cap,.int .i64 x] w fun e w'=>∃v',e= .returned v'∧Keep au w w'∧xL n l bs x w' v':=by
 have HG:=zh hv;have HB:=zh hb;have OK:=zh ok;obtain⟨oa,cap',rfl,hm,hr,_⟩:=hv;clear hr hb ok hm;go_enter Tryz.func22,Tryz.ntmps22;go_wp2;go_loopw [12,3] (fun s t wr=>∃j:Nat,j≤n∧s= .int .i64 j∧t= .int .i64 (chain l bs x j:Nat)∧(∀i,i<j→¬bs.getD (chain l bs x i) 0<0)∧Keep au w wr) (fun s _ _=>(n-intOf s).toNat)
 case atStart=>exact⟨0,om,rfl,rfl,fun i hi=>absurd hi om,kp⟩
 obtain⟨j,hj,rfl,rfl,hnr,KW⟩:=hrel;have HN:=zh hnr;clear hnr;have hcn:=OK.out.chain hx HN.out;have HC:Hid (chain l bs x (j+1)=nxt l bs (chain l bs x j)):=zh rfl;by_cases hjn:j<n
 ·have hlt:(j:Int)<(n:Int):=om;have hbl:=OK.out.1;have hcell:=(HB.out.keep KW).cell (i:=chain l bs x j) om;have hgl:=(HB.out.keep KW).lt;have hstep:=OK.out.2.1 _ hcn;by_cases hr:bs.getD (chain l bs x j) 0<0
  ·have HR:Hid (∃j,j<n∧bs.getD (chain l bs x j) 0<0):=zh ⟨j,hjn,hr⟩;have hrd:=cZ hr;have hcn':(chain l bs x j:Int)<(n:Int):=om;clear hr HC HN hstep;generalize chain l bs x j=y at *;generalize bs.getD y 0=bv at *;go_wp2;go_ret;exact⟨_,rfl,kp,.inl ⟨HR.out,rfl⟩⟩
  have HN':Hid (∀i,i<j+1→¬bs.getD (chain l bs x i) 0<0):=zh fun i hi=>by
   by_cases hij:i=j
   ·rw [hij];exact hr
   exact HN.out i om
  obtain⟨e,he⟩:∃e:Nat,bs.getD (chain l bs x j) 0=(e:Int):=⟨(bs.getD (chain l bs x j) 0).toNat,om⟩;have hel:e<l.length:=by have:=hstep.resolve_left hr;rw [he]at this;simpa using this
  have zfp:(e:Int)<(l.length:Int):=om;obtain⟨bg,og,cg,hsl,hbg,a0,a1,a2⟩:=(HG.out.keep KW).at hel;cases hsl;have hB:=(OK.out.2.2 _ (List.getElem_mem hel));obtain⟨b,hbe⟩:∃b:Nat,l[e].B=(b:Int):=⟨l[e].B.toNat,om⟩;have HX:Hid (chain l bs x (j+1)=b):=zh (by
   rw [HC.out];unfold nxt;rw [he,dV,Int.toNat_natCast,eD hel];simp [hbe])
  rw [he]at hcell;rw [hbe]at a1;have hcn':(chain l bs x j:Int)<(n:Int):=om;have hen:¬(e:Int)<0:=om;clear hr HC HN hstep he hB hbe a0 a2 hcn;generalize chain l bs x j=y at *;go_wp2;go_roundw
  case rel=>exact⟨j+1,om,gn,by rw [HX.out],HN'.out,KW⟩
  simp [intOf];omega
 have hlt:¬(j:Int)<(n:Int):=om;obtain rfl:j=n:=om;obtain⟨p,p0,pn,pc,pr,pm⟩:=Mf OK.out hx HN.out;have HP:=zh (And.intro pc (And.intro pr pm));clear pc pr pm HC;have Zi:=zh HN.out;clear HN;generalize hy:chain l bs x j=y at *;have HY:=zh hy;clear hy;have hyn:(y:Int)<(j:Int):=om;obtain⟨wa,rfl⟩:∃W:World,W=wr:=⟨_,rfl⟩;obtain⟨i0,hi0,hz0,hz1,hz2⟩:=info_parts QL;go_wp2;go_loopw [10,9] (fun s t wr=>∃q:Nat,q<p∧s= .int .i64 (chain l bs y q:Nat)∧wr.ownsRow w.heap.size 3 1 t q (tO (backs l bs y q))∧X0 t=q∧Keep au w wr) (fun _ t _=>p-X0 t)
 case atStart=>exact⟨0,p0,rfl,World.ownsRow_nil _ _ _ _,rfl,kp⟩
 rename_i tv wr;obtain⟨q,hq,rfl,hown,hlv,KR⟩:=hrel;have hr:¬bs.getD (chain l bs y q) 0<0:=by have:=HP.out.2.1 q;omega
 have hcn:=OK.out.chain (x:=y) om (m:=q) fun i _=>by have:=HP.out.2.1 i;omega
 have hbl:=OK.out.1;have hcell:=(HB.out.keep KR).cell (i:=chain l bs y q) om;have hgl:=(HB.out.keep KR).lt;have hstep:=(OK.out.2.1 _ hcn).resolve_left hr;obtain⟨e,he⟩:∃e:Nat,bs.getD (chain l bs y q) 0=(e:Int):=⟨(bs.getD (chain l bs y q) 0).toNat,om⟩;have hel:e<l.length:=by rw [he]at hstep;simpa using hstep
 have zfp:(e:Int)<(l.length:Int):=om;have hB:=(OK.out.2.2 _ (List.getElem_mem hel));obtain⟨b,hbe⟩:∃b:Nat,l[e].B=(b:Int):=⟨l[e].B.toNat,om⟩;have HX:Hid (chain l bs y (q+1)=b):=zh (by
  rw [chain];unfold nxt;rw [he,dV,Int.toNat_natCast,eD hel];simp [hbe])
 have HS:Hid (tO (backs l bs y (q+1))=tO (backs l bs y q)++ [.int .i64 (e:Int)]):=zh (by rw [O7,he]);have HC2:Hid (∀w1,Keep au w w1→w1.cell? ⟨g,chain l bs y q,none⟩=some (.int .i64 (e:Int))∧g<w1.heap.size):=zh fun w1 k1=>by
  have:=(HB.out.keep k1).cell (i:=chain l bs y q) om;rw [he]at this;exact⟨this,(HB.out.keep k1).lt⟩
 have HG2:Hid (∀w1,Keep au w w1→∃bg og cg,Value.slice oa l.length cap'= .slice (some ⟨bg,og,none⟩) l.length cg∧w1.cell? ⟨bg,og+e*3+1,none⟩=some (.int .i64 (b:Int))):=zh fun w1 k1=>by
  obtain⟨bg,og,cg,hsl,hbg,a0,a1,a2⟩:=(HG.out.keep k1).at hel;exact⟨bg,og,cg,hsl,by rw [a1,hbe]⟩
 have HO:=zh (Mh hown);have HLV:=zh hlv;clear hlv;rw [he]at hcell;have hcn':(chain l bs y q:Int)<(j:Int):=om;have hen:¬(e:Int)<0:=om;clear hr hstep he hB hbe;generalize chain l bs y q=xq at *;go_wp2_with (first
  | (at_builtin;refine wpList_append_lies _ rfl _ _ 22 rfl w.heap.size 3 i0 (.int .i64 0) 1 8 Tryz.underlying22 hi0 hz0 hz1 hz2 rfl dc _ q _ rfl (hown.alloc _) ⟨wr.heap.size,0,none⟩ 1 1 [.int .i64 (e:Int)] rfl rfl ?c1 ?c2 dc ?c3 ?c4 ?c5 (wr.heap.size+1) ?c6 ?_)
  | fail)
 case c2=>rfl
 case c3=>unfold maxLen;omega
 case c4=>omega
 case c5=>have:=KR.size;simp;omega
 intro g2 cap2 w1 hown1 hgrow hat hlt2;have hsz:=KR.size;have bel:Below w.heap.size w w1:=((Keep.bel KR).alloc hsz _).trans (dB hgrow w.heap.size (by simp;omega) HO.out);have K1:Keep au w w1:=Keep.of_below bel (Nat.le_refl _);rw [← HS.out]at hown1;have HO1:=zh hown1;clear hgrow hat bel hown1 hcell hgl;obtain⟨hcell,hgl⟩:=HC2.out w1 K1;obtain⟨bg,og,cg,hsl,a1⟩:=HG2.out w1 K1;cases hsl;by_cases hby:b=y
 ·have e1:((b:Int)==(y:Int))=true:=by rw [beq_iff_eq];omega
  have hqp:q+1=p:=by
   apply Classical.byContradiction;intro h;exact HP.out.2.2 (q+1) om om (by rw [HX.out];exact hby)
  have HV:Hid (∀w2,bW w2 g2 (backs l bs y p).reverse→Keep (YZ g2) w1 w2→Keep au w w2∧aR w2 (.slice (some ⟨g2,0,none⟩) (q+1) cap2) (backs l bs y p).reverse):=zh fun w2 hb2 k2=>by
   refine⟨K1.trans k2 fun n' o' hn h=> ?_,?_⟩
   ·have h':n'=g2:=h;have:=TR HO1.out;omega
   have:=hb2.ints cap2 (by rw [List.length_reverse,iY];unfold maxLen;omega) (X3 OK.out hl om (fun i=>by have:=HP.out.2.1 i;omega) p);rw [List.length_reverse,iY]at this;rw [hqp];exact this
  have HRV:Hid (Calls Tryz.prog 51 #[.slice (some ⟨g2,0,none⟩) (q+1) cap2] w1 fun e w'=>e= .returned (.tuple #[])∧bW w' g2 (backs l bs y p).reverse∧Keep (YZ g2) w1 w'):=zh (by
   have:=Mg w1 g2 cap2 (backs l bs y p) (by rw [← hqp];exact Eh HO1.out (iY l bs y (q+1)).symm) (by rw [iY];omega) (by rw [iY];omega);rw [iY,←hqp]at this;rw [← hqp];exact this)
  clear hqp hby;go_wp2_with fail;refine HRV.out.mono ?_;rintro e' w2 ⟨rfl,hb2,k2⟩;obtain⟨hv1,hv2⟩:=HV.out w2 hb2 k2;clear HV HRV;go_wp2;go_ret;exact⟨_,rfl,hv1,.inr ⟨fun i hi=>by have:=Zi.out i hi;omega,p,p0,pn,by rw [HY.out];exact HP.out.1,fun i=>by rw [HY.out];have:=HP.out.2.1 i;omega,by rw [HY.out];exact HP.out.2.2,by rw [HY.out];exact hv2⟩⟩
 have e1:((b:Int)==(y:Int))=false:=by rw [beq_eq_false_iff_ne];omega
 have hqp:q+1<p:=by
  apply Classical.byContradiction;intro h;have h':q+1=p:=om;exact hby (by rw [← HX.out,h'];exact HP.out.1)
 go_wp2;go_roundw
 case rel=>exact⟨q+1,hqp,by rw [HX.out],HO1.out,rfl,K1⟩
 rw [HLV.out];simp only [X0];omega
structure St where
 vals:List Int
 bys:List Int
 last:Int
def relax (g:Gp)(i:Nat)(s:St):St:=
 if s.vals.getD g.B.toNat 0+g.By<s.vals.getD g.A.toNat 0 then⟨s.vals.set g.A.toNat (s.vals.getD g.B.toNat 0+g.By),s.bys.set g.A.toNat i,g.A⟩else s
def pass (l:List Gp)(s:St):Nat→St
 | 0=>s
 | k+1=>relax (l.getD k ⟨0,0,0⟩) k (pass l s k)
def turn (l:List Gp)(s:St):St:=pass l ⟨s.vals,s.bys,-1⟩ l.length
def rnds (n:Nat)(l:List Gp):Nat→St
 | 0=>⟨List.replicate n 0,List.replicate n (-1),-1⟩
 | t+1=>turn l (rnds n l t)
def lW (n:Nat)(l:List Gp):Prop:=n≤12∧l.length≤60∧∀g∈l,(0≤g.A∧g.A<(n:Int))∧(0≤g.B∧g.B<(n:Int))∧ -1000000≤g.By∧g.By≤1000000
structure oF (n:Nat)(l:List Gp)(c:Nat)(s:St):Prop where
 vl:s.vals.length=n
 bl:s.bys.length=n
 vb:∀x,x<n→ -(1000000*(c:Int))≤s.vals.getD x 0∧s.vals.getD x 0≤0
 bb:∀x,x<n→s.bys.getD x 0= -1∨∃e:Nat,e<l.length∧s.bys.getD x 0=(e:Int)∧(l.getD e ⟨0,0,0⟩).A=(x:Int)
 lb:s.last= -1∨0≤s.last∧s.last<(n:Int)
theorem X4 {n:Nat}{l:List Gp}(hg:lW n l){c:Nat}{s:St}(h:oF n l c s){k:Nat}(hk:k<l.length):oF n l (c+1) (relax (l.getD k ⟨0,0,0⟩) k s):=by
 have hm:=hg.2.2 _ (Ef (d:=⟨0,0,0⟩) hk);generalize hgg:l.getD k ⟨0,0,0⟩=g at *;obtain⟨⟨a0,a1⟩,⟨b0,b1⟩,y0,y1⟩:=hm;have hB:=h.vb g.B.toNat om;have hA:=h.vb g.A.toNat om;unfold relax;split
 ·rename_i hlt;refine⟨by simp [h.vl],by simp [h.bl],fun x hx=> ?_,fun x hx=> ?_,.inr ⟨a0,a1⟩⟩
  ·rw [rA _ _ _ _ (by rw [h.vl];exact hx)];split
   ·omega
   have:=h.vb x hx;omega
  rw [rA _ _ _ _ (by rw [h.bl];exact hx)];split
  ·rename_i hax;exact .inr ⟨k,hk,rfl,by rw [hgg];omega⟩
  exact h.bb x hx
 exact⟨h.vl,h.bl,fun x hx=>by have:=h.vb x hx;omega,h.bb,h.lb⟩
theorem Jf {n:Nat}{l:List Gp}(hg:lW n l){c:Nat}{s:St}(h:oF n l c s):∀k,k≤l.length→oF n l (c+k) (pass l s k)
 | 0,_=>h
 | k+1,hk=>by rw [← Nat.add_assoc];exact X4 hg (Jf hg h k om) om
theorem oF.clear {n:Nat}{l:List Gp}{c:Nat}{s:St}(h:oF n l c s):oF n l c ⟨s.vals,s.bys,-1⟩:=⟨h.vl,h.bl,h.vb,h.bb,.inl rfl⟩
theorem oF.mono {n:Nat}{l:List Gp}{c c':Nat}{s:St}(h:oF n l c s)(hc:c≤c'):oF n l c' s:=
 ⟨h.vl,h.bl,fun x hx=>by have:=h.vb x hx;omega,h.bb,h.lb⟩
theorem Jg {n:Nat}{l:List Gp}(hg:lW n l):∀t,oF n l (60*t) (rnds n l t)
 | 0=>⟨by simp [rnds],by simp [rnds],fun x hx=>by simp [rnds,hx],fun x hx=>by simp [rnds,hx],.inl rfl⟩
 | t+1=>by
  have h:=Jf hg (Jg hg t).clear l.length (Nat.le_refl _);have hl:=hg.2.1;exact h.mono om
theorem oF.byok {n:Nat}{l:List Gp}(hg:lW n l){c:Nat}{s:St}(h:oF n l c s):Me n l s.bys:=by
 refine⟨h.bl,fun x hx=> ?_,fun g hgm=>(hg.2.2 g hgm).2.1⟩;rcases h.bb x hx with h1 | ⟨e,he,h1,_⟩
 ·left;omega
 right;omega
def okF:Value:= .agg #[.int .i64 0,.int .i64 0]
def X5 (n:Int)(l:List Gp)(w':World)(v:Value):Prop:=
 (∃c a,dQ n l=(c,a)∧c≠0∧v= .tuple #[.slice none 0 0,.slice none 0 0,.agg #[.int .i64 c,.int .i64 a]])∨
 (dQ n l=(0,0)∧∃N:Nat,n=(N:Int)∧((∃t,t≤N∧(rnds N l (t+1)).last<0∧∃vv,aR w' vv (rnds N l (t+1)).vals∧v= .tuple #[vv,.slice none 0 0,okF])∨
  ((∀t,t≤N→¬(rnds N l (t+1)).last<0)∧∃vr,xL N l (rnds N l (N+1)).bys (rnds N l (N+1)).last.toNat w' vr∧v= .tuple #[.slice none 0 0,vr,okF])))
theorem Ei (n:Nat):(madeCells (Value.int .i64 0).cells (n*1)).toList=tO (List.replicate n 0):=by
 apply List.ext_getElem
 ·simp [madeCells,tO]
 intro i h1 h2;simp [madeCells,tO,Value.cells,Nat.mod_one]
theorem O8 {n k:Nat}(h:k<n):(List.replicate k (-1:Int)++List.replicate (n-k) 0).set k (-1)=List.replicate (k+1) (-1)++List.replicate (n-(k+1)) 0:=by
 apply List.ext_getElem
 ·simp;omega
 intro i h1 h2;simp only [List.getElem_set,List.getElem_append,List.length_replicate,List.getElem_replicate];by_cases e1:k=i
 ·rw [if_pos e1,dif_pos om]
 rw [if_neg e1];by_cases e2:i<k
 ·rw [dif_pos e2,dif_pos om]
 rw [dif_neg e2,dif_neg om]
theorem Ej {w:World}{B i:Nat}{A:Array Value}{u:Value}(h:aL w B A)(hA:A[i]? =some u):aL (w.setCell ⟨B,i,none⟩ u) B A∧∀a,(w.setCell ⟨B,i,none⟩ u).cell? a=w.cell? a:=by
 have hs:A.setIfInBounds i u=A:=by
  apply Array.ext_getElem?;intro j;rw [Array.getElem?_setIfInBounds];by_cases hij:i=j
  ·subst hij;obtain⟨hlt,hA'⟩:=Array.getElem?_eq_some_iff.1 hA;simp [hlt,hA']
  simp [hij]
 obtain⟨t,h⟩:=h;have h1:=Go.Joins.block_setCell h u (i:=i);rw [hs]at h1;refine⟨⟨t,h1⟩,fun a=> ?_⟩;have h2:(w.setCell ⟨B,i,none⟩ u).heap[a.block]? =w.heap[a.block]? :=by
  by_cases hab:a.block=B
  ·rw [hab,h1,h]
  exact heap_setCell_other _ _ _ _ hab
 exact World.cell?_of_block h2
theorem jV {w:World}{g i b o:Nat}{u v:Value}(h:w.cell? ⟨b,o,none⟩=some v)(hne:¬b=g):(w.setCell ⟨g,i,none⟩ u).cell? ⟨b,o,none⟩=some v:=by
 rw [World.cell?_setCell_other _ _ _ _ (fun e=>hne (by injection e with e1;exact e1.symm))];exact h
theorem oF.i64 {n:Nat}{l:List Gp}{c:Nat}{s:St}(h:oF n l c s)(hc:c≤1000000):∀z∈s.vals,dA z:=by
 intro z hz;obtain⟨i,hi,rfl⟩:=List.mem_iff_getElem.1 hz;have:=h.vb i (by rw [← h.vl];exact hi);rw [dV,eD hi]at this;simp only [Option.getD_some]at this;unfold dA;omega
theorem El {w:World}{B:Nat}{u v:Value}(h:aL w B #[u,v])(a:Addr):((w.setCell ⟨B,0,none⟩ u).setCell ⟨B,1,none⟩ v).cell? a=w.cell? a:=by
 obtain⟨h1,h2⟩:=Ej h (i:=0) (u:=u) rfl;obtain⟨h3,h4⟩:=Ej h1 (i:=1) (u:=v) rfl;rw [h4,h2]
theorem xL.same {n:Nat}{l:List Gp}{bs:List Int}{x:Nat}{w w':World}{v:Value}(h:xL n l bs x w v)(hc:∀a,w'.cell? a=w.cell? a)(hs:w.heap.size≤w'.heap.size):xL n l bs x w' v:=by
 rcases h with h | ⟨h,p,h1,h2,h3,h4,h5,h6⟩
 ·exact .inl h
 exact .inr ⟨h,p,h1,h2,h3,h4,h5,h6.same hc hs⟩
theorem Gs {S:Nat→Nat→Prop}{w w':World}{k:Nat}{A:Array Value}(h:aL w k A)(hk:Keep S w w')(hS:¬S k 0)(hT:∀i,S k i→S k 0:=by intro i h;exact h):aL w' k A:=by
 obtain⟨t,h⟩:=h;exact⟨t,by rw [hk.block k (lt_of_heap h) fun o ho=>hS (hT o ho)];exact h⟩
theorem zco (w:World)(n:Int)(v:Value)(l:List Gp)(h:kP w v l):
  Calls Tryz.prog 6 #[.int .i64 n,v] w fun e w'=>∃v',e= .returned v'∧Keep au w w'∧X5 n l w' v':=by
 have HG:=zh h;obtain⟨oa,cap,rfl,hm,hr,_⟩:=h;clear hr;unfold maxLen at hm;by_cases h0:(dQ n l).1=0
 ·obtain ⟨e0,hn0,hn1,hl,hgs⟩:=Jd h0;obtain⟨N,rfl⟩:∃N:Nat,n=(N:Int):=⟨n.toNat,om⟩;have HS:Hid (lW N l):=zh ⟨om,hl,hgs⟩;have E0:=zh e0;have F0:=zh (by rw [e0];rfl:dN (dQ N l).1 (dQ N l).2= .agg #[.int .i64 0,.int .i64 0]);clear h0 hgs e0;obtain⟨i0,hi0,hz0,hz1,hz2⟩:=info_parts QL;go_enter Tryz.func6,Tryz.ntmps6;go_wp2_with fail;refine(mK _ N _ l (HG.out.keep kp)).mono ?_;rintro e w1 ⟨rfl,hk1⟩;have K1:Keep au w w1:=Keep.trans kp hk1 fun _ _ _ h=>h;have B1:aL w1 w.heap.size #[.int .i64 0,.int .i64 0]:=aL.keep kb hk1;have hlt1:=B1.lt;clear hk1;rw [F0.out];go_upto_region 4 with fail;have K2:Keep au w (w1.alloc (.cells #[.int .i64 0,.int .i64 0] 38)):=kp;have B2:aL (w1.alloc (.cells #[.int .i64 0,.int .i64 0] 38)) w.heap.size #[.int .i64 0,.int .i64 0]:=kb;clear K1 B1 hlt1;generalize w1.alloc (.cells #[.int .i64 0,.int .i64 0] 38)=w2 at *;have hs2:=B2.lt;obtain⟨w3,hr3,ho3,hg3⟩:=run_make_full (P:=Tryz.prog) w2 w.heap.size 22 3 i0 (.int .i64 0) 1 Tryz.underlying22 hi0 hz0 hz1 .i64 .i64 N (by rw [hz2];omega) (by unfold maxLen;omega) om;rw [Ei]at ho3;have P3:=Eh ho3 sm;have Q3:w2.heap.size≠w.heap.size:=om;have L3:Below w2.heap.size w2 w3:=dB hg3 w2.heap.size (Nat.le_refl _) sm;obtain⟨w4,hr4,ho4,hg4⟩:=run_make_full (P:=Tryz.prog) w3 w.heap.size 22 3 i0 (.int .i64 0) 1 Tryz.underlying22 hi0 hz0 hz1 .i64 .i64 N (by rw [hz2];omega) (by unfold maxLen;omega) (by have:=L3.size;omega);rw [Ei]at ho4;have P4:=Eh ho4 sm;have L4:Below w3.heap.size w3 w4:=dB hg4 w3.heap.size (Nat.le_refl _) sm;have J3:Keep au w2 w3:=Keep.of_below L3 (Nat.le_refl _);have J4:Keep au w3 w4:=Keep.of_below L4 (Nat.le_refl _);have KK4:Keep au w w4:=(K2.trans J3 fun _ _ _ h=>h).trans J4 fun _ _ _ h=>h;have BB4:aL w4 w.heap.size #[.int .i64 0,.int .i64 0]:=(B2.keep J3).keep J4;have PP3:=P3.keep J4;have D3:w2.heap.size<w3.heap.size:=P3.lt;clear ho3 ho4 hg3 hg4 L3 L4 P3 J3 J4 K2 B2;generalize hgv:w2.heap.size=gv at *;generalize hgb:w3.heap.size=gb at *;have HBB:=zh BB4;have HK4:=zh KK4;have HP3:=zh PP3;have HP4:=zh P4;clear BB4 KK4 PP3 P4;go_wp2;clear hr3 hr4;go_loopw [26] (fun s wr=>∃k:Nat,k≤N∧s= .int .i64 k∧Keep (YZ gb) w4 wr∧bW wr gb (List.replicate k (-1)++List.replicate (N-k) 0)) (fun s _=>(N-intOf s).toNat)
  case atStart=>exact⟨0,om,rfl,Keep.refl _ _,by simpa using HP4.out⟩
  obtain⟨k,hk,rfl,hkp,hbk⟩:=hrel;have BD:=zh hkp;clear hkp;by_cases hlt:k<N
  ·have hlt':(k:Int)<(N:Int):=om;have hc:=hbk.cell (i:=k) (by simp;omega);have hf:=hbk.free k;have hgl:=hbk.lt;have SG:=zh hbk;clear hbk;generalize (List.replicate k (-1:Int)++List.replicate (N-k) 0).getD k 0=z at *;go_wp2;go_roundw
   case rel=>
    refine⟨k+1,om,gn,(BD.out).setCell _ fun _=>rfl,?_⟩;rw [← O8 hlt];exact SG.out.set _
   simp [intOf];omega
  have hlt':¬(k:Int)<(N:Int):=om;obtain rfl:k=N:=om;have dY:Hid (bW wr gb (List.replicate k (-1))):=zh (by simpa using hbk);have HV5:Hid (bW wr gv (List.replicate k 0)):=zh (by
   obtain⟨A,hA,hq⟩:=HP3.out;exact⟨A,Gs hA BD.out (by show ¬gv=gb;omega),hq⟩)
  have Tc:Hid (aL wr w.heap.size #[.int .i64 0,.int .i64 0]):=zh (Gs HBB.out BD.out (by show ¬w.heap.size=gb;omega));have HK5:Hid (Keep au w wr):=zh (HK4.out.trans BD.out fun n o hn h=>by have h':n=gb:=h;omega);clear HP3 HP4 BD hbk HBB HK4;obtain⟨w5,rfl⟩:∃W:World,W=wr:=⟨_,rfl⟩;go_wp2;go_loopw [35,5,4] (fun s z q wr=>∃t:Nat,t≤k+1∧s= .int .i64 t∧q= .slice (some ⟨gv,0,none⟩) k k∧(∀u,u<t→¬(rnds k l (u+1)).last<0)∧bW wr gv (rnds k l t).vals∧bW wr gb (rnds k l t).bys∧aL wr w.heap.size #[.int .i64 0,.int .i64 0]∧Keep au w wr∧(0<t→xL k l (rnds k l t).bys (rnds k l t).last.toNat wr z)) (fun s _ _ _=>(k+1-intOf s).toNat)
  case atStart=>exact⟨0,om,rfl,rfl,fun u hu=>absurd hu om,HV5.out,dY.out,Tc.out,HK5.out,fun h=>absurd h om⟩
  obtain⟨t,ht,rfl,rfl,hch,hv,hb,hr,yB,hcy⟩:=hrel;have HCH:=zh hch;have HV:=zh hv;have HB:=zh hb;have HR:=zh hr;have EM:=zh yB;have HCY:=zh hcy;clear hch hv hb hr yB hcy HV5 dY Tc HK5;by_cases hlt:t<k+1
  ·have hlt':(t:Int)<(k:Int)+1:=om;obtain⟨w6,rfl⟩:∃W:World,W=wr:=⟨_,rfl⟩;go_wp2;go_loopw [39,10] (fun s z wr=>∃j:Nat,j≤l.length∧s= .int .i64 j∧z= .int .i64 (pass l ⟨(rnds k l t).vals,(rnds k l t).bys,-1⟩ j).last∧bW wr gv (pass l ⟨(rnds k l t).vals,(rnds k l t).bys,-1⟩ j).vals∧bW wr gb (pass l ⟨(rnds k l t).vals,(rnds k l t).bys,-1⟩ j).bys∧aL wr w.heap.size #[.int .i64 0,.int .i64 0]∧Keep au w wr) (fun s _ _=>(l.length-intOf s).toNat)
   case atStart=>exact⟨0,om,rfl,rfl,HV.out,HB.out,HR.out,EM.out⟩
   obtain⟨j,hj,rfl,rfl,hv,hb,hr,yB⟩:=hrel;have hsl:=(Jg HS.out t).clear;have hok:=Jf HS.out hsl j hj;have hsucc:pass l ⟨(rnds k l t).vals,(rnds k l t).bys,-1⟩ (j+1)=relax (l.getD j ⟨0,0,0⟩) j (pass l ⟨(rnds k l t).vals,(rnds k l t).bys,-1⟩ j):=rfl;have Jy:=zh hsucc;clear hsl hsucc;by_cases hjl:j<l.length
   ·have hlt2:(j:Int)<(l.length:Int):=om;obtain⟨bg,og,cg,hsl,hbg,a0,a1,a2⟩:=(HG.out.keep yB).at hjl;cases hsl;have hgj:l.getD j ⟨0,0,0⟩=l[j]:=by rw [dV,eD hjl];rfl
    obtain⟨⟨ga0,ga1⟩,⟨gb0,gb1⟩,gy0,gy1⟩:=HS.out.2.2 _ (List.getElem_mem hjl);rw [hgj]at Jy;clear hgj;generalize hgg:l[j]=gp at *;clear hgg;obtain⟨A,B,By⟩:=gp;simp only at a0 a1 a2 ga0 ga1 gb0 gb1 gy0 gy1;obtain⟨A,rfl⟩:∃m:Nat,A=(m:Int):=⟨A.toNat,om⟩;obtain⟨B,rfl⟩:∃m:Nat,B=(m:Int):=⟨B.toNat,om⟩;generalize pass l ⟨(rnds k l t).vals,(rnds k l t).bys,-1⟩ j=S at *;have hva:=hok.vb A om;have hvb:=hok.vb B om;have hca:=hv.cell (i:=A) (by rw [hok.vl];omega);have hcb:=hv.cell (i:=B) (by rw [hok.vl];omega);have hgl:=hv.lt;have hbl:=hb.lt;have zfq:=hb.cell (i:=A) (by rw [hok.bl];omega);generalize S.bys.getD A 0=byA at zfq;have zfr:¬gv=gb:=om;have zd1:¬gb=gv:=om;have hvf:=hv.free A;have hbf:=hb.free A;have Li:=zh hv;have HB2:=zh hb;have HR2:=zh hr;have TV:=zh yB;have mg:=zh hok;have Ia:Hid (relax ⟨A,B,By⟩ j S=if S.vals.getD B 0+By<S.vals.getD A 0 then⟨S.vals.set A (S.vals.getD B 0+By),S.bys.set A j,A⟩else S):=zh (by unfold relax;simp);have hv1: -1000000000≤S.vals.getD B 0+By:=om;have hv2:S.vals.getD B 0+By≤1000000000:=om;have hA1:(A:Int)<(k:Int):=om;have hB1:(B:Int)<(k:Int):=om;have hbb:¬wr.heap.size=bg:=om;have hbv:¬wr.heap.size=gv:=om;have hbB:¬wr.heap.size=gb:=om;clear hv hb hr yB hok hva hvb;generalize hxa:S.vals.getD A 0=va at *;generalize hxb:S.vals.getD B 0=vb at *;have HXA:=zh hxa;have HXB:=zh hxb;clear hxa hxb;by_cases hlow:vb+By<va
    ·have e1:=cZ hlow;have HN:=zh (Jy.out.trans (Ia.out.trans (if_pos hlow)));clear Ia Jy hlow;go_wp2;go_quiet (fail);go_wp2;refine wQ (fun w'=>(w'.cell? ⟨wr.heap.size,0,none⟩=some (.int .i64 A)∧w'.cell? ⟨wr.heap.size,1,none⟩=some (.int .i64 B)∧w'.cell? ⟨wr.heap.size,2,none⟩=some (.int .i64 By))∧w'.cell? ⟨gv,B,none⟩=some (.int .i64 vb))
      (fun w'=>w'.cell? ⟨wr.heap.size,0,none⟩=some (.int .i64 A)∧w'.cell? ⟨wr.heap.size,1,none⟩=some (.int .i64 B)∧w'.cell? ⟨wr.heap.size,2,none⟩=some (.int .i64 By))
      [0,1,2,3,4,5,6,7,8,9,11,12,14,15,16,18,19,20,21] [([0,1,2,3,4,5,6,7,8,9,11,12,14,15,16],[10,13,17],18),([19],[],20)] ([21],[]) kr kr (fun _ h=>h.1) (by simp [hcb,hgl,hbv,World.cell?_alloc_lt]) ?_
     intro X Y W V hne1 hne2 hF hcl hG hgg;have hx0:=fun x=>(hF x).1.1;have hx1:=fun x=>(hF x).1.2.1;have hx2:=fun x=>(hF x).1.2.2;have hx3:=fun x=>(hF x).2;have hy0:=fun x=>(hG x).1;have hy1:=fun x=>(hG x).2.1;have hy2:=fun x=>(hG x).2.2;have HGG:=zh hgg;clear hF hcl hG hgg;simp only [yO,aJ,zl0,zl1,zl2,Bool.false_eq_true,if_false]
     (repeat(quiet_step (fail)));repeat(refine wpQuiet_nil ?_)
     refine ay rfl rfl fun K hK=> ?_;go_simp;refine hK _ _ ⟨⟨fun h=>(by simp at h),HGG.out _ ?_⟩,?_⟩
     ·exact ⟨jV sm hbv,jV sm hbv,jV sm hbv⟩
     clear hK K
     (repeat(quiet_step (fail)));repeat(refine wpQuiet_nil ?_)
     refine ay rfl rfl fun K hK=> ?_;go_simp;refine hK _ _ ⟨⟨fun h=>(by simp at h),HGG.out _ ?_⟩,?_⟩
     ·exact ⟨jV (jV sm hbv) hbB,jV (jV sm hbv) hbB,jV (jV sm hbv) hbB⟩
     clear hK K
     (repeat(quiet_step (fail)));repeat(refine wpQuiet_nil ?_)
     refine NoPanic.normal ?_;go_wp2;go_roundw
     case rel=>
      have hwv:¬w.heap.size=gv:=fun h=>Q3 h.symm;have hwb:¬w.heap.size=gb:=om;have hk2:Keep au wr ((wr.alloc (.cells #[.int .i64 A,.int .i64 B,.int .i64 By] 32)).drewN (nq+1)):=((Keep.refl au wr).alloc _).drewN _;have hk3:=TV.out.trans hk2 fun _ _ _ h=>h;refine⟨j+1,om,gn,by rw [HN.out],?_,?_,?_,?_⟩
      ·rw [HN.out];exact((Li.out.keep hk2).set _).setOther _ _ zfr
      ·rw [HN.out];exact((HB2.out.keep hk2).setOther _ _ zd1).set _
      ·exact ((HR2.out.keep hk2).setOther _ _ hwv).setOther _ _ hwb
      exact(hk3.setCell _ fun h=>absurd h om).setCell _ fun h=>absurd h om
     simp [intOf];omega
    have e1:=bQ hlow;have HN:=zh (Jy.out.trans (Ia.out.trans (if_neg hlow)));clear Ia Jy hlow;go_wp2;go_quiet (fail);go_wp2;go_roundw
    case rel=>
     have hk2:Keep au wr (wr.alloc (.cells #[.int .i64 A,.int .i64 B,.int .i64 By] 32)):=(Keep.refl au wr).alloc _;exact⟨j+1,om,gn,by rw [HN.out],by rw [HN.out];exact Li.out.keep kp,by rw [HN.out];exact HB2.out.keep kp,HR2.out.keep kp,TV.out.trans kp fun _ _ _ h=>h⟩
    simp [intOf];omega
   have hlt2:¬(j:Int)<(l.length:Int):=om;obtain rfl:j=l.length:=om;have hturn:Hid (rnds k l (t+1)=pass l ⟨(rnds k l t).vals,(rnds k l t).bys,-1⟩ l.length):=zh rfl;obtain⟨c0,c1,f0,f1,l0⟩:=hr.two;have mg:=zh hok;have Li:=zh hv;have HB2:=zh hb;have HR2:=zh hr;have TV:=zh yB;clear Jy hok hv hb hr yB HV HB HR EM HCY;generalize pass l ⟨(rnds k l t).vals,(rnds k l t).bys,-1⟩ l.length=S at *;generalize hla:S.last=la at *;have hlb:=mg.out.lb;rw [hla]at hlb;have HLA:=zh hla;clear hla;by_cases hneg:la<0
   ·have e1:=cZ hneg;clear hlb;go_wp2;refine bodyPost_ret (by simp [results,Tryz.results6,go_sem,c0,c1,f0,f1,l0];rfl) rfl ?_;have hint:=Li.out.ints k (by rw [mg.out.vl];unfold maxLen;omega) (mg.out.i64 om);rw [mg.out.vl]at hint;exact⟨_,rfl,by have:=TV.out;exact kp,.inr ⟨E0.out,k,rfl,.inl ⟨t,om,by rw [hturn.out,HLA.out];exact hneg,_,by rw [hturn.out];exact hint.same (fun a=>by rw [El HR2.out]) sm,rfl⟩⟩⟩
   obtain⟨x,rfl⟩:∃x:Nat,la=(x:Int):=⟨la.toNat,om⟩;have hxk:x<k:=om;have e1:decide ((x:Int)<0)=false:=bQ hneg;clear hlb;go_wp2_with fail;refine(TT wr k _ l gb k S.bys x (HG.out.keep TV.out) HB2.out (mg.out.byok HS.out) hxk om hl).mono ?_;rintro e w7 ⟨v7,rfl,hk7,hc7⟩;have HC7:=zh hc7;have HK7:=zh hk7;clear hc7 hk7;go_wp2;go_roundw
   case rel=>
    refine⟨t+1,om,gn,rfl,fun u hu=> ?_,?_,?_,?_,?_,fun _=> ?_⟩
    ·by_cases hut:u=t
     ·subst hut;rw [hturn.out,HLA.out];exact Int.not_lt.2 om
     have:=HCH.out u om;exact Int.not_lt.2 om
    ·rw [hturn.out];exact Li.out.keep HK7.out
    ·rw [hturn.out];exact HB2.out.keep HK7.out
    ·exact HR2.out.keep HK7.out
    ·exact TV.out.trans HK7.out fun _ _ _ h=>h
    rw [hturn.out,HLA.out];exact HC7.out
   simp [intOf];omega
  have hlt':¬(t:Int)<(k:Int)+1:=om;obtain rfl:t=k+1:=om;obtain⟨c0,c1,f0,f1,l0⟩:=HR.out.two;go_wp2;refine bodyPost_ret (by simp [results,Tryz.results6,go_sem,c0,c1,f0,f1,l0];rfl) rfl ?_;exact⟨_,rfl,by have:=EM.out;exact kp,.inr ⟨E0.out,k,rfl,.inr ⟨fun u hu=>by have:=HCH.out u om;omega,_,(HCY.out om).same (fun a=>by rw [El HR.out]) sm,rfl⟩⟩⟩
 obtain⟨c,a,e0⟩:∃c a,dQ n l=(c,a):=⟨_,_,rfl⟩;have hc:¬c=0:=by rw [e0]at h0;exact h0
 have F0:=zh (by rw [e0];rfl:dN (dQ n l).1 (dQ n l).2= .agg #[.int .i64 c,.int .i64 a]);have E:=zh e0;clear h0 e0;have hcb:(c != 0)=true:=bne_iff_ne.2 hc;go_enter Tryz.func6,Tryz.ntmps6;go_wp2_with fail;refine(mK _ n _ l (HG.out.keep kp)).mono ?_;rintro e w1 ⟨rfl,hk1⟩;have K1:Keep au w w1:=Keep.trans kp hk1 fun _ _ _ h=>h;have B1:aL w1 w.heap.size #[.int .i64 0,.int .i64 0]:=aL.keep kb hk1;obtain⟨c0,c1,f0,f1,l0⟩:=B1.two;have m0:¬w1.heap.size=w.heap.size:=om;clear hk1;rw [F0.out];go_wp2;go_region;go_wp2;refine bodyPost_ret (by simp [results,Tryz.results6,go_sem,c0,c1,f0,f1,m0,l0];rfl) rfl ?_;exact⟨_,rfl,kp,.inl ⟨c,a,E.out,hc,rfl⟩⟩
theorem Mi {r:List Int}{k:Nat}(hk:k<r.length)(h:k+1=r.length):jU r k=0:=by unfold jU;rw [h];simp
theorem Mj {r:List Int}{k:Nat}(hk:k<r.length)(h:¬k+1=r.length):jU r k=k+1:=by unfold jU;rw [Nat.mod_eq_of_lt om]
theorem X6 {m:Nat}{r:List Int}:∀ {i:Nat},(iK m r i).1=0→iK m r i=(0,0):=by
 induction r with
 | nil=>intro i _;rfl
 | cons z t ih=>
  intro i h;rw [iK]at h ⊢;split at h
  ·simp at h
  rename_i hz;rw [if_neg hz];exact ih h
theorem aL.put {w:World}{b:Nat}{x y:Value}(h:aL w b #[x,y])(x' y':Value):aL ((w.setCell ⟨b,0,none⟩ x').setCell ⟨b,1,none⟩ y') b #[x',y']:=by
 obtain⟨t,h⟩:=h;exact⟨t,Go.Joins.block_setCell (Go.Joins.block_setCell h x') y'⟩
def gA (l:List Gp)(e:Nat):Nat:=(l.getD e ⟨0,0,0⟩).A.toNat
def gB (l:List Gp)(e:Nat):Nat:=(l.getD e ⟨0,0,0⟩).B.toNat
def gY (l:List Gp)(e:Nat):Int:=(l.getD e ⟨0,0,0⟩).By
theorem lW.at {n:Nat}{l:List Gp}(hg:lW n l){e:Nat}(he:e<l.length):gA l e<n∧gB l e<n∧ -1000000≤gY l e∧gY l e≤1000000∧(l.getD e ⟨0,0,0⟩).A=(gA l e:Int)∧(l.getD e ⟨0,0,0⟩).B=(gB l e:Int):=by
 have:=hg.2.2 _ (Ef (d:=⟨0,0,0⟩) he);unfold gA gB gY;omega
def Ai (l:List Gp)(e:Nat)(s:St):Prop:=s.vals.getD (gB l e) 0+gY l e<s.vals.getD (gA l e) 0
theorem zd2 (l:List Int)(i p:Nat)(v:Int)(hp:p<l.length):(l.set i v).getD p 0=if p=i then v else l.getD p 0:=by
 rw [rA l i p v hp];by_cases h:i=p
 ·rw [if_pos h,if_pos h.symm]
 rw [if_neg h,if_neg fun h'=>h h'.symm]
theorem Am {l:List Gp}{e:Nat}{s:St}(h:Ai l e s):relax (l.getD e ⟨0,0,0⟩) e s=⟨s.vals.set (gA l e) (s.vals.getD (gB l e) 0+gY l e),s.bys.set (gA l e) e,(l.getD e ⟨0,0,0⟩).A⟩:=by
 unfold Ai gA gB gY at h;unfold relax;rw [if_pos h];rfl
theorem Em {l:List Gp}{e:Nat}{s:St}(h:¬Ai l e s):relax (l.getD e ⟨0,0,0⟩) e s=s:=by
 unfold Ai gA gB gY at h;unfold relax;rw [if_neg h]
theorem Gt {n:Nat}{l:List Gp}(hg:lW n l){s:St}:∀k,k≤l.length→(pass l s k).last<0→pass l s k=s∧∀j,j<k→¬Ai l j s
 | 0,_,_=>⟨rfl,fun j hj=>absurd hj om⟩
 | k+1,hk,h=>by
  rw [pass]at h ⊢;by_cases ht:Ai l k (pass l s k)
  ·rw [Am ht]at h;have:=hg.at (show k<l.length from om);simp only at h;omega
  rw [Em ht]at h ⊢;obtain⟨h1,h2⟩:=Gt hg k om h;refine⟨h1,fun j hj=> ?_⟩;by_cases hjk:j=k
  ·subst hjk;rw [h1]at ht;exact ht
  exact h2 j om
def Keeps (l:List Gp)(f:Nat→Int):Prop:=∀e,e<l.length→f (gA l e)-f (gB l e)≤gY l e
theorem O9 {n:Nat}{l:List Gp}(hg:lW n l){s:St}(h:(turn l s).last<0):Keeps l fun x=>(turn l s).vals.getD x 0:=by
 obtain⟨h1,h2⟩:=Gt hg (s:=⟨s.vals,s.bys,-1⟩) l.length (Nat.le_refl _) h;intro e he;have:=h2 e he;unfold Ai at this;rw [show turn l s=⟨s.vals,s.bys,-1⟩from h1];simp only at this ⊢;omega
structure Gh (n:Nat)(l:List Gp)(c:Nat)(s:St)(T:Nat→Nat):Prop where
 vl:s.vals.length=n
 bl:s.bys.length=n
 le:∀x,T x≤c
 by':∀x,x<n→0<T x→∃e:Nat,e<l.length∧s.bys.getD x 0=(e:Int)∧gA l e=x∧s.vals.getD (gB l e) 0+gY l e≤s.vals.getD x 0∧(T x≤T (gB l e)→s.vals.getD (gB l e) 0+gY l e<s.vals.getD x 0)∧T x≤T (gB l e)+l.length
 zero:∀x,x<n→T x=0→s.bys.getD x 0<0
 done:∀i,i<c→T (gB l (i%l.length))≤i→s.vals.getD (gA l (i%l.length)) 0≤s.vals.getD (gB l (i%l.length)) 0+gY l (i%l.length)
theorem Gh.step {n:Nat}{l:List Gp}(hg:lW n l){c:Nat}{s:St}{T:Nat→Nat}(h:Gh n l c s T){k:Nat}(hk:k<l.length)(hc:c%l.length=k):
  ∃T',Gh n l (c+1) (relax (l.getD k ⟨0,0,0⟩) k s) T'∧(¬Ai l k s→T'=T)∧(Ai l k s→T' (gA l k)=c+1):=by
 obtain⟨hA,hB,y0,y1,eA,eB⟩:=hg.at hk;by_cases ht:Ai l k s
 ·rw [Am ht];unfold Ai at ht;have hv:∀x,x<n→(s.vals.set (gA l k) (s.vals.getD (gB l k) 0+gY l k)).getD x 0=if x=gA l k then s.vals.getD (gB l k) 0+gY l k else s.vals.getD x 0:=fun x hx=>zd2 _ _ _ _ (by rw [h.vl];exact hx);have hb:∀x,x<n→(s.bys.set (gA l k) (k:Int)).getD x 0=if x=gA l k then(k:Int)else s.bys.getD x 0:=fun x hx=>zd2 _ _ _ _ (by rw [h.bl];exact hx);refine⟨fun x=>if x=gA l k then c+1 else T x,⟨by simp [h.vl],by simp [h.bl],fun x=> ?_,fun x hx hT=> ?_,fun x hx hT=> ?_,fun i hi hT=> ?_⟩,fun h'=>absurd ht h',fun _=>if_pos rfl⟩
  ·have:=h.le x;split<;>omega
  ·simp only at hT ⊢;by_cases Vo:x=gA l k
   ·rw [Vo]at hx hT ⊢;have hlB:=h.le (gB l k);refine⟨k,hk,?_,rfl,?_,fun hh=> ?_,?_⟩
    ·rw [hb _ hA,if_pos rfl]
    ·rw [hv _ hB,hv _ hA,if_pos rfl];by_cases QM:gB l k=gA l k
     ·rw [if_pos QM];rw [QM]at ht ⊢;omega
     rw [if_neg QM];omega
    ·rw [if_pos rfl]at hh;by_cases QM:gB l k=gA l k
     ·rw [hv _ hB,hv _ hA,if_pos rfl,if_pos QM];rw [QM]at ht ⊢;omega
     rw [if_neg QM]at hh;omega
    rw [if_pos rfl];by_cases QM:gB l k=gA l k
    ·rw [if_pos QM];omega
    rw [if_neg QM];apply Classical.byContradiction;intro hn;have hcl:l.length≤c:=om;have e1:(c-l.length)%l.length=k:=by rw [← hc];exact(Nat.mod_eq_sub_mod hcl).symm
    have:=h.done (c-l.length) om (by rw [e1];omega);rw [e1]at this;omega
   rw [if_neg Vo]at hT;obtain⟨e,he,b1,b2,b3,b4,b5⟩:=h.by' x hx hT
   have heB:=(hg.at he).2.1;have hlx:=h.le x;refine⟨e,he,?_,b2,?_,?_,?_⟩<;>(try rw [hv _ heB,hv _ hx,if_neg Vo])<;>(try rw [if_neg Vo])
   ·rw [hb _ hx,if_neg Vo];exact b1
   ·split
    ·rename_i hh;rw [hh]at b3;omega
    exact b3
   ·intro hh;by_cases h2:gB l e=gA l k
    ·rw [if_pos h2];rw [h2]at b3;omega
    rw [if_neg h2]at hh ⊢;exact b4 hh
   split
   ·omega
   exact b5
  ·simp only at hT ⊢;by_cases Vo:x=gA l k
   ·rw [if_pos Vo]at hT;omega
   rw [if_neg Vo]at hT;rw [hb _ hx,if_neg Vo];exact h.zero x hx hT
  simp only at hT ⊢;have hil:i%l.length<l.length:=Nat.mod_lt _ om;obtain⟨hA',hB',_⟩:=hg.at hil;by_cases QM:gB l (i%l.length)=gA l k
  ·rw [if_pos QM]at hT;omega
  rw [if_neg QM]at hT;rw [hv _ hA',hv _ hB',if_neg QM];by_cases hic:i=c
  ·rw [hic,hc,if_pos rfl];omega
  have:=h.done i om hT;split
  ·rename_i hh;rw [hh]at this;omega
  exact this
 rw [Em ht];unfold Ai at ht;refine⟨T,⟨h.vl,h.bl,fun x=>by have:=h.le x;omega,h.by',h.zero,fun i hi hT=> ?_⟩,fun _=>rfl,fun h'=>absurd h' ht⟩;by_cases hic:i=c
 ·subst hic;rw [hc];omega
 exact h.done i om hT
theorem Gh.pass {n:Nat}{l:List Gp}(hg:lW n l){t:Nat}{s:St}{T:Nat→Nat}(h:Gh n l (t*l.length) s T)(hs:s.last<0):
  ∀k,k≤l.length→∃T',Gh n l (t*l.length+k) (pass l s k) T'∧(¬ (pass l s k).last<0→(pass l s k).last.toNat<n∧t*l.length<T' (pass l s k).last.toNat)
 | 0,_=>⟨T,h,fun h'=>absurd hs h'⟩
 | k+1,hk=>by
  obtain⟨T1,h1,h2⟩:=Gh.pass hg h hs k om;have hm:(t*l.length+k)%l.length=k:=by rw [Nat.mul_add_mod_self_right,Nat.mod_eq_of_lt om]
  obtain⟨T2,h3,h4,h5⟩:=h1.step hg (show k<l.length from om) hm;refine⟨T2,h3,?_⟩;rw [Go.Proofs.YtmepglhdcphffaaGreat.pass];by_cases ht:Ai l k (Go.Proofs.YtmepglhdcphffaaGreat.pass l s k)
  ·rw [Am ht];intro _;have:=hg.at (show k<l.length from om);have e:=h5 ht;simp only;rw [this.2.2.2.2.1,Int.toNat_natCast];omega
  rw [Em ht,h4 ht];exact h2
theorem Gh.rnds {n:Nat}{l:List Gp}(hg:lW n l):∀t,∃T,Gh n l (t*l.length) (rnds n l t) T∧(0<t→¬(rnds n l t).last<0→(rnds n l t).last.toNat<n∧(t-1)*l.length<T (rnds n l t).last.toNat)
 | 0=>⟨fun _=>0,⟨by simp [Go.Proofs.YtmepglhdcphffaaGreat.rnds],by simp [Go.Proofs.YtmepglhdcphffaaGreat.rnds],fun x=>Nat.zero_le _,fun x _ h=>absurd h om,fun x hx _=>by simp [Go.Proofs.YtmepglhdcphffaaGreat.rnds,hx],fun i hi=>absurd hi om⟩,fun h=>absurd h om⟩
 | t+1=>by
  obtain⟨T,h,_⟩:=Gh.rnds hg t;obtain⟨T',h1,h2⟩:=Gh.pass hg (s:=⟨(Go.Proofs.YtmepglhdcphffaaGreat.rnds n l t).vals,(Go.Proofs.YtmepglhdcphffaaGreat.rnds n l t).bys,-1⟩) (T:=T) ⟨h.vl,h.bl,h.le,h.by',h.zero,h.done⟩ sm l.length (Nat.le_refl _);exact⟨T',by rw [Nat.succ_mul];exact h1,fun _ hn=>h2 hn⟩
theorem TW {l:List Gp}{bs:List Int}{y:Nat}{p:Nat}(hp:chain l bs y p=y)(hmin:∀q,0<q→q<p→chain l bs y q≠y):∀i j,i<j→j<p→chain l bs y i≠chain l bs y j:=by
 intro i j hij hjp he;have h1:chain l bs y (j+(p-j))=y:=by rw [show j+(p-j)=p from om];exact hp
 rw [kR,←he,←kR]at h1;exact hmin (i+(p-j)) om om h1
theorem sumTo_le {n:Nat}{l:List Gp}{r:List Int}(hr:r.length≤12)(hy:∀i,i<r.length→ -1000000≤(iE l r i).By∧(iE l r i).By≤1000000):∀k,k≤r.length→ -(1000000*(k:Int))≤sumTo l r k∧sumTo l r k≤1000000*(k:Int)
 | 0,_=>by simp [sumTo]
 | k+1,hk=>by
  have h1:=sumTo_le (n:=n) hr hy k om;have h2:=hy k om;rw [sumTo,Go.IntWalk.wrap64_in _ om];omega
theorem xM {n:Nat}{l:List Gp}{r:List Int}(hr:r.length≤12)(hy:∀i,i<r.length→ -1000000≤(iE l r i).By∧(iE l r i).By≤1000000)(k:Nat)(hk:k<r.length):sumTo l r (k+1)=sumTo l r k+(iE l r k).By:=by
 have h1:=sumTo_le (n:=n) hr hy k om;have h2:=hy k om;rw [sumTo,Go.IntWalk.wrap64_in _ om]
structure sO (n:Nat)(l:List Gp)(r:List Int):Prop where
 pos:0<r.length
 le:r.length≤n
 chk:iK l.length r 0=(0,0)
 bad:zaO l r
 apart:∀i j,i<j→j<r.length→(iE l r i).A≠(iE l r j).A
theorem zaQ {N:Nat}{l:List Gp}(hg:lW N l)(h:¬(rnds N l (N+1)).last<0){w':World}{v:Value}(hc:xL N l (rnds N l (N+1)).bys (rnds N l (N+1)).last.toNat w' v):
  ∃r,aR w' v r∧sO N l r:=by
 obtain⟨T,hT,hx⟩:=Gh.rnds hg (N+1);obtain⟨hxn,hxT⟩:=hx om h;generalize rnds N l (N+1)=s at *;generalize hX:s.last.toNat=x at *;simp only [Nat.add_sub_cancel]at hxT;have hnx:∀z,z<N→0<T z→∃e:Nat,e<l.length∧s.bys.getD z 0=(e:Int)∧gA l e=z∧nxt l s.bys z=gB l e∧s.vals.getD (nxt l s.bys z) 0+gY l e≤s.vals.getD z 0∧(T z≤T (nxt l s.bys z)→s.vals.getD (nxt l s.bys z) 0+gY l e<s.vals.getD z 0)∧T z≤T (nxt l s.bys z)+l.length∧nxt l s.bys z<N:=by
  intro z hz hz0;obtain⟨e,he,b1,b2,b3,b4,b5⟩:=hT.by' z hz hz0
  have hn:nxt l s.bys z=gB l e:=by unfold nxt gB;rw [b1];rfl
  rw [hn];exact⟨e,he,b1,b2,rfl,b3,b4,b5,(hg.at he).2.1⟩
 have hch:∀j,j≤N→chain l s.bys x j<N∧(N-j)*l.length<T (chain l s.bys x j):=by
  intro j
  induction j with
  | zero=>intro _;exact⟨hxn,hxT⟩
  | succ j ih=>
   intro hj;obtain⟨h1,h2⟩:=ih om;obtain⟨e,he,b1,b2,b3,b4,b5,b6,b7⟩:=hnx _ h1 om;refine⟨b7,?_⟩;rw [chain];have:(N-j)*l.length=(N-(j+1))*l.length+l.length:=by
    rw [show N-j=N-(j+1)+1 from om,Nat.succ_mul]
   omega
 have hnn:∀j,j<N→¬s.bys.getD (chain l s.bys x j) 0<0:=by
  intro j hj;obtain⟨h1,h2⟩:=hch j om;obtain⟨e,he,b1,_⟩:=hnx _ h1 om;omega
 rcases hc with⟨⟨j,hj,hneg⟩,_⟩ | ⟨_,p,p0,pn,pc,pr,pm,hv⟩
 ·exact absurd hneg (hnn j hj)
 refine⟨_,hv,?_⟩;obtain⟨hyN,_⟩:=hch N (Nat.le_refl _);generalize chain l s.bys x N=y at *;have hb1:∀q,chain l s.bys y q<N:=by
  intro q
  induction q with
  | zero=>exact hyN
  | succ q ih=>
   have h0:0<T (chain l s.bys y q):=by
    apply Classical.byContradiction;intro hh;exact pr q (hT.zero _ ih om)
   obtain⟨e,he,b1,b2,b3,b4,b5,b6,b7⟩:=hnx _ ih h0;exact b7
 have hb:∀q,∃e:Nat,e<l.length∧s.bys.getD (chain l s.bys y q) 0=(e:Int)∧gA l e=chain l s.bys y q∧gB l e=chain l s.bys y (q+1)∧s.vals.getD (chain l s.bys y (q+1)) 0+gY l e≤s.vals.getD (chain l s.bys y q) 0∧
   (T (chain l s.bys y q)≤T (chain l s.bys y (q+1))→s.vals.getD (chain l s.bys y (q+1)) 0+gY l e<s.vals.getD (chain l s.bys y q) 0):=by
  intro q;have h0:0<T (chain l s.bys y q):=by
   apply Classical.byContradiction;intro hh;exact pr q (hT.zero _ (hb1 q) om)
  obtain⟨e,he,b1,b2,b3,b4,b5,b6,b7⟩:=hnx _ (hb1 q) h0;exact⟨e,he,b1,b2,b3.symm,b4,b5⟩
 have zfs:=TW pc pm;have hlen:(backs l s.bys y p).reverse.length=p:=by rw [List.length_reverse,iY]
 have hget:∀i,i<p→(backs l s.bys y p).reverse.getD i 0=s.bys.getD (chain l s.bys y (p-1-i)) 0:=by
  intro i hi;rw [dV,List.getElem?_reverse (by rw [iY];exact hi),iY];simp [backs,show p-1-i<p from om]
 clear hnx hch hnn;generalize (backs l s.bys y p).reverse=r at *;have Pb:∀i,i<p→∃e:Nat,e<l.length∧r.getD i 0=(e:Int)∧iE l r i=l.getD e ⟨0,0,0⟩∧gA l e=chain l s.bys y (p-1-i)∧gB l e=chain l s.bys y (p-i)∧
   s.vals.getD (chain l s.bys y (p-i)) 0+gY l e≤s.vals.getD (chain l s.bys y (p-1-i)) 0∧(T (chain l s.bys y (p-1-i))≤T (chain l s.bys y (p-i))→s.vals.getD (chain l s.bys y (p-i)) 0+gY l e<s.vals.getD (chain l s.bys y (p-1-i)) 0):=by
  intro i hi;obtain⟨e,he,b1,b2,b3,b4,b5⟩:=hb (p-1-i);rw [show p-1-i+1=p-i from om]at b3 b4 b5;refine⟨e,he,(hget i hi).trans b1,?_,b2,b3,b4,b5⟩;unfold iE XW;rw [hget i hi,b1];rfl
 have hN:N≤12:=hg.1;have hys:∀i,i<r.length→ -1000000≤(iE l r i).By∧(iE l r i).By≤1000000:=by
  intro i hi;obtain⟨e,he,_,b2,_⟩:=Pb i om;rw [b2];have:=hg.at he;unfold gY at this;omega
 have hsum:∀k,k≤p→sumTo l r k<s.vals.getD (chain l s.bys y (p-k)) 0-s.vals.getD y 0∨(sumTo l r k≤s.vals.getD (chain l s.bys y (p-k)) 0-s.vals.getD y 0∧T y+k≤T (chain l s.bys y (p-k))):=by
  intro k
  induction k with
  | zero=>intro _;right;rw [Nat.sub_zero,pc];simp [sumTo]
  | succ k ih=>
   intro hk;obtain⟨e,he,_,b2,b3,b4,b5,b6⟩:=Pb k om;rw [xM (n:=N) om hys k om,b2,show p-(k+1)=p-1-k from om,show(l.getD e ⟨0,0,0⟩).By=gY l e from rfl];rcases ih om with h1 | ⟨h1,h2⟩
   ·left;omega
   by_cases hTT:T (chain l s.bys y (p-1-k))≤T (chain l s.bys y (p-k))
   ·left;have:=b6 hTT;omega
   right;exact⟨om,om⟩
 have hfin:=hsum p (Nat.le_refl _);rw [Nat.sub_self,show chain l s.bys y 0=y from rfl]at hfin;refine⟨om,om,?_,⟨fun i hi=> ?_,by rw [hlen];omega⟩,fun i j hij hj=> ?_⟩
 ·have h1:(iK l.length r 0).1=0:=XY.2 fun z hz=>by
   obtain⟨i,hi,rfl⟩:=List.mem_iff_getElem.1 hz;obtain⟨e,he,b1,_⟩:=Pb i om;rw [dV,eD hi]at b1;simp at b1;omega
  exact X6 h1
 ·unfold uW;obtain⟨e,he,b1,b2,b3,b4,_⟩:=Pb i om;have hni:jU r i<r.length:=Nat.mod_lt _ om;obtain⟨e',he',c1,c2,c3,c4,_⟩:=Pb (jU r i) om;rw [b2,c2,(hg.at he).2.2.2.2.1,(hg.at he').2.2.2.2.2,b3,c4];refine congrArg (fun z:Nat=>(z:Int)) ?_;by_cases hl:i+1=r.length
  ·rw [Mi hi hl,Nat.sub_zero,pc,show p-1-i=0 from om];rfl
  rw [Mj hi hl,show p-(i+1)=p-1-i from om]
 obtain⟨e,he,b1,b2,b3,_⟩:=Pb i om;obtain⟨e',he',c1,c2,c3,_⟩:=Pb j om;rw [b2,c2,(hg.at he).2.2.2.2.1,(hg.at he').2.2.2.2.1,b3,c3];have:=zfs (p-1-j) (p-1-i) om om;omega
theorem Pd {n:Nat}{l:List Gp}(hg:lW n l){t:Nat}(h:(rnds n l (t+1)).last<0):Keeps l fun x=>(rnds n l (t+1)).vals.getD x 0:=O9 hg h
theorem X7 {N:Nat}{l:List Gp}(h:dQ N l=(0,0)):lW N l:=by
 obtain⟨_,h1,h2,h3,h4⟩:=Jd (by rw [h]);exact⟨om,h3,h4⟩
theorem X5.cases' {n:Int}{l:List Gp}{w':World}{v:Value}(h:X5 n l w' v):
  (∃c a,dQ n l=(c,a)∧c≠0∧v= .tuple #[.slice none 0 0,.slice none 0 0,.agg #[.int .i64 c,.int .i64 a]])∨
  (∃N:Nat,n=(N:Int)∧dQ N l=(0,0)∧lW N l∧∃t,(rnds N l (t+1)).last<0∧(rnds N l (t+1)).vals.length=N∧(∀x,x<N→ -10000000000≤(rnds N l (t+1)).vals.getD x 0∧(rnds N l (t+1)).vals.getD x 0≤0)∧
   ∃oa cap,aR w' (.slice oa N cap) (rnds N l (t+1)).vals∧v= .tuple #[.slice oa N cap,.slice none 0 0,.agg #[.int .i64 0,.int .i64 0]])∨
  (∃N:Nat,n=(N:Int)∧dQ N l=(0,0)∧lW N l∧∃r,sO N l r∧∃oa cap,aR w' (.slice oa r.length cap) r∧v= .tuple #[.slice none 0 0,.slice oa r.length cap,.agg #[.int .i64 0,.int .i64 0]]):=by
 rcases h with h | ⟨h0,N,rfl,⟨t,ht,hneg,vv,hv,rfl⟩ | ⟨hall,vr,hc,rfl⟩⟩
 ·exact .inl h
 ·have hg:=X7 h0;have hok:=Jg hg (t+1);obtain⟨oa,cap,rfl⟩:=hv.form (n:=N) hok.vl.symm;have:=hg.1;exact .inr (.inl ⟨N,rfl,h0,hg,t,hneg,hok.vl,fun x hx=>by have:=hok.vb x hx;omega,oa,cap,hv,rfl⟩)
 have hg:=X7 h0;obtain⟨r,hr,hok⟩:=zaQ hg (hall N (Nat.le_refl _)) hc;obtain⟨oa,cap,rfl⟩:=hr.form (n:=r.length) rfl;exact .inr (.inr ⟨N,rfl,h0,hg,r,hok,oa,cap,hr,rfl⟩)
theorem sO.badV {N:Nat}{l:List Gp}{r:List Int}(h:sO N l r)(h0:dQ N l=(0,0)):Value.tuple #[.bool (Ed N l r),dN (tQ N l r).1 (tQ N l r).2]= .tuple #[.bool true,.agg #[.int .i64 0,.int .i64 0]]:=by
 have h1:tQ N l r=(0,0):=by rw [zo (by rw [h0])];exact h.chk
 have h2:Ed N l r=true:=by unfold Ed;rw [h1];simpa using h.bad
 rw [h1,h2];rfl
abbrev TG:TypeId:=32
theorem zaR:(Tryz.prog.info? TG).map (fun i=>(i.zero,i.size,i.bytes))=some (some (.agg #[.int .i64 0,.int .i64 0,.int .i64 0]),3,24):=kr
def tT (g:Gp):List Value:= [.int .i64 g.A,.int .i64 g.B,.int .i64 g.By]
def pX (l:List Gp):List Value:=l.flatMap tT
theorem Gu:∀(l:List Gp) (i:Nat) (g:Gp),l[i]? =some g→(pX l)[i*3]? =some (.int .i64 g.A)∧(pX l)[i*3+1]? =some (.int .i64 g.B)∧(pX l)[i*3+2]? =some (.int .i64 g.By)
 | [],i,g,h=>by simp at h
 | x::t,0,g,h=>by
  simp at h;subst h;exact⟨rfl,rfl,rfl⟩
 | x::t,i+1,g,h=>by
  have ih:=Gu t i g (by simpa using h);have e:pX (x::t)=Value.int .i64 x.A::Value.int .i64 x.B::Value.int .i64 x.By::pX t:=rfl;rw [e,show(i+1)*3=i*3+1+1+1 from om,show i*3+1+1+1+1=i*3+1+1+1+1 from rfl,show i*3+1+1+1+2=i*3+2+1+1+1 from om];simpa using ih
theorem Mk:∀(l:List Gp) (j:Nat) (u:Value),(pX l)[j]? =some u→∃i g,l[i]? =some g∧(j=i*3∧u= .int .i64 g.A∨j=i*3+1∧u= .int .i64 g.B∨j=i*3+2∧u= .int .i64 g.By)
 | [],j,u,h=>by simp [pX]at h
 | x::t,0,u,h=>⟨0,x,rfl,.inl ⟨rfl,by simpa [pX,tT]using h.symm⟩⟩
 | x::t,1,u,h=>⟨0,x,rfl,.inr (.inl ⟨rfl,by simpa [pX,tT]using h.symm⟩)⟩
 | x::t,2,u,h=>⟨0,x,rfl,.inr (.inr ⟨rfl,by simpa [pX,tT]using h.symm⟩)⟩
 | x::t,j+3,u,h=>by
  have e:pX (x::t)=Value.int .i64 x.A::Value.int .i64 x.B::Value.int .i64 x.By::pX t:=rfl;rw [e]at h;obtain⟨i,g,hi,hc⟩:=Mk t j u (by simpa using h);exact⟨i+1,g,by simpa using hi,by rcases hc with⟨h1,h2⟩ | ⟨h1,h2⟩ | ⟨h1,h2⟩<;>simp [h2]<;>omega⟩
theorem kP.cells {w:World}{v:Value}{l:List Gp}(h:kP w v l)(h0:0<l.length):∃b o cap,v= .slice (some ⟨b,o,none⟩) l.length cap∧b<w.heap.size∧∀w',Keep au w w'→∀j u,(pX l)[j]? =some u→w'.cell? ((⟨b,o,none⟩:Addr).add j)=some u:=by
 obtain⟨oa,cap,h1,h2,h3,h4⟩:=h;obtain⟨b,o,rfl,hb,hc⟩:=h4 (by rintro rfl;simp at h0);refine⟨b,o,cap,h1,hb,fun w' hk j u hj=> ?_⟩;obtain⟨i,g,hi,hcase⟩:=Mk l j u hj;obtain⟨c0,c1,c2⟩:=hc i g hi;rw [add_plain b o j];rw [hk.cell hb];rcases hcase with⟨rfl,rfl⟩ | ⟨rfl,rfl⟩ | ⟨rfl,rfl⟩
 ·exact c0
 ·rw [← Nat.add_assoc];exact c1
 rw [← Nat.add_assoc];exact c2
theorem Ml {w:World}{base g cap m:Nat}{l:List Gp}(h:w.ownsRow base TG 3 (.slice (some ⟨g,0,none⟩) m cap) m (pX l))(hm:m=l.length)(hl:l.length≤maxLen)(hi:∀g∈l,dA g.A∧dA g.B∧dA g.By):kP w (.slice (some ⟨g,0,none⟩) m cap) l:=by
 subst hm;refine⟨_,cap,rfl,hl,hi,fun hne=>⟨g,0,rfl,(h.lt g rfl).2,fun i x hx=> ?_⟩⟩;obtain⟨c0,c1,c2⟩:=Gu l i x hx;have hc:=fun j u=>h.cells (g:=g) rfl j u;have e:∀j,(⟨g,0,none⟩:Addr).add j=⟨g,0+j,none⟩:=fun j=>add_plain g 0 j;refine⟨?_,?_,?_⟩
 ·rw [← hc _ _ c0,e]
 ·rw [← hc _ _ c1,e,←Nat.add_assoc]
 rw [← hc _ _ c2,e,←Nat.add_assoc]
theorem X8 (g:Gp):∀u∈tT g,u.oneCell'=true:=by
 intro u hu;simp [tT]at hu;rcases hu with rfl | rfl | rfl<;>rfl
end Go.Proofs.YtmepglhdcphffaaGreat
