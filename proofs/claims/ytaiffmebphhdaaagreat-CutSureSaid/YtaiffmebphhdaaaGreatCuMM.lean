/- The law CutMore, plain. The reference's SmallRows, of any size. The law CutSure, plain. The reference's CutBounded, CutSome. -/
import Derived.Test.YtaiffmebphhdaaaGreatCuDD
import Derived.Test.YtaiffmebphhdaaaGreatSpEE
import Derived.Test.YtaiffmebphhdaaaGreatFkG
import Derived.Test.YtaiffmebphhdaaaGreatOwnG
import Derived.Test.YtaiffmebphhdaaaGreatFkAA
namespace Go.Proofs.YtaiffmebphhdaaaGreat
set_option maxRecDepth 100000
set_option maxHeartbeats 16000000
set_option linter.unusedSimpArgs false
set_option linter.unusedVariables false
open Go.ChangeShapes Go.WideShapes Go.RowKit
theorem ER {rows:List Rw}{N:Nat}{pt:List Fq}(hok:∀r∈rows,gN r N)(h:SK rows N pt):kY rows pt=true:=by
 unfold kY;rw [List.all_eq_true];intro r hr;have h1:(OL r pt).1=0:=by
  unfold OL;rw [h.len,Zo (hok r hr),if_neg (by simp),SQ h.ok]
 have h2:=ML hok h r hr;unfold En;rw [h1,h2];rfl
theorem GQ {rows:List Rw}{n:Nat}{pt:List Rat}(hl:pt.length=n)(hf:allFit pt pt.length=true)(h:∀r∈rows,om r n fun j=>pt.getD j 0):SK rows n (pt.map dQ):=by
 refine⟨by simpa using hl,NA hf,fun i hi=> ?_⟩
 have hr:rows.getD i bJ∈rows:=by
  rw [eG,iw hi];exact List.getElem_mem hi
 have e:(sQ n fun j=>(iO rows i j:Rat)*xg (pt.map dQ) j)=sQ n fun j=>((rows.getD i bJ).of.getD j 0:Rat)*pt.getD j 0:=dD n fun j hj=>by
  rw [Ux hf (by omega),eG (l:=pt),iw (by omega:j<pt.length)]
  rfl
 rw [e];exact h _ hr
theorem QX (rows:List Rw)(r:Rw)(ints:List Bool)(fuel:Int):
  ((xR rows ints fuel).f.1≠0→(xR rows ints fuel).st=0)∧((xR (rows++ [r]) ints fuel).f.1=0→(xR (rows++ [r]) ints fuel).st=1→kY rows (xR (rows++ [r]) ints fuel).pt=true∧((xR rows ints fuel).f.1=0→(xR rows ints fuel).st≠2)):=by
 refine⟨fun h0=> ?_,fun h0 h1=> ?_⟩
 ·rcases vY rows ints fuel with⟨_,h⟩ | ⟨_,_,h⟩ | ⟨_,_,h | h | ⟨pt,h,_⟩ | ⟨T,h,_⟩⟩
  all_goals rw [h]at h0 ⊢
  ·exact absurd rfl h0
  ·exact absurd rfl h0
  ·exact absurd rfl h0
 ·rcases vY (rows++ [r]) ints fuel with⟨_,h⟩ | ⟨_,_,h⟩ | ⟨hl,_,h | h | ⟨pt,h,h2,h3,h4,h5⟩ | ⟨T,h,_⟩⟩
  ·rw [h]at h1;cases h1
  ·rw [h]at h1;cases h1
  ·rw [h]at h1;cases h1
  ·rw [h]at h1;cases h1
  ·rw [h]
   have hok:=(oO (l:=rows++ [r]) (n:=ints.length) (by rw [hl])).2.2.2.2
   have hr:∀x∈rows,om x ints.length fun j=>pt.getD j 0:=fun x hx=>h5 x (List.mem_append_left _ hx)
   refine⟨ER (fun x hx=>hok x (List.mem_append_left _ hx)) (GQ h2 h3 hr),fun _ hs=> ?_⟩
   rcases vY rows ints fuel with⟨_,h⟩ | ⟨_,_,h⟩ | ⟨_,_,h | h | ⟨pt',h,_⟩ | ⟨T,h,_,h6⟩⟩
   ·rw [h]at hs;cases hs
   ·rw [h]at hs;cases hs
   ·rw [h]at hs;cases hs
   ·rw [h]at hs;cases hs
   ·rw [h]at hs;cases hs
   ·exact h6 _ (zab h4) hr
  ·rw [h]at h1;cases h1
def xH (bg:Nat)(rows:List Rw):Prop:=∀r∈rows,(∀x∈r.of,x.natAbs≤bg)∧r.to.natAbs≤bg
def WY (nm mm:Int)(bg:Nat)(rows:List Rw)(n:Int)(w:World)(e:Ending)(w':World):Prop:=∃b,e= .returned (.bool b)∧(b=true→n≤nm∧(rows.length:Int)≤mm∧xH bg rows)∧Keep au w w'
theorem qR (w:World)(v:Value)(rows:List Rw)(n nm mm:Int)(bg:Nat)(hbg:bg≤1000)(h:bW w v rows):
  Calls Tryz.prog 17 #[v,.int .i64 n,.int .i64 nm,.int .i64 mm,.int .i64 (bg:Int)] w fun e w'=>WY nm mm bg rows n w e w':=by
 have HR:=zh h;obtain⟨oa,ca,rfl,hlc,hcm⟩:=h.len;unfold maxLen at hcm;have hmr:rows.length≤9223372036854775807:=by omega
 clear h hlc hcm
 by_cases hn:nm<n
 case pos=>
  go_enter Tryz.func17,Tryz.ntmps17;go_wp2;refine bodyPost_ret (by simp [results,Tryz.results17,go_sem];rfl) rfl ?_
  exact⟨false,rfl,(fun h=>by cases h),Keep.refl _ _⟩
 case neg=>
  by_cases hm:mm<(rows.length:Int)
  case pos=>
   go_enter Tryz.func17,Tryz.ntmps17;go_wp2;refine bodyPost_ret (by simp [results,Tryz.results17,go_sem];rfl) rfl ?_
   exact⟨false,rfl,(fun h=>by cases h),Keep.refl _ _⟩
  case neg=>
   go_enter Tryz.func17,Tryz.ntmps17;go_wp2;go_loopw [11] (fun s wr=>∃i:Nat,i≤rows.length∧s= .int .i64 i∧xH bg (rows.take i)∧Keep au w wr) (fun s _=>(rows.length-intOf s).toNat)
   case atStart=>exact⟨0,by omega,rfl,fun r hr=>by simp at hr,Keep.refl _ _⟩
   case round=>
    obtain⟨i,hi,rfl,hs,hk⟩:=hrel;have HS:=zh hs;have HK:=zh hk;clear hs hk
    by_cases hil:i<rows.length
    case neg=>
     have hlt:¬(i:Int)<(rows.length:Int):=by omega
     obtain rfl:i=rows.length:=by omega
     have HB:Hid (n≤nm∧(rows.length:Int)≤mm∧xH bg rows):=zh ⟨by omega,by omega,by have:=HS.out;rwa [List.take_length]at this⟩
     go_wp2;refine bodyPost_ret (by simp [results,Tryz.results17,go_sem];rfl) rfl ?_
     exact⟨true,rfl,fun _=>HB.out,HK.out⟩
    case pos=>
     have hlt:(i:Int)<(rows.length:Int):=by omega
     have HIL:Hid (i<rows.length):=zh hil;obtain⟨b,o,rfl,hbl,hrow⟩:=HR.out.at hil;obtain⟨os,cs,p0,p1,p2,hrow⟩:=hrow.row;have jG:Hid (bC w (.slice os (rows[i]).of.length cs) (rows[i]).of):=zh (by obtain⟨sv,hsv,h,_⟩:=hrow;cases hsv;exact h)
     have HT:Hid (fK (rows[i]).to):=zh (by obtain⟨sv,hsv,_,_,h,_⟩:=hrow;exact h)
     have Em:Hid (rows.take (i+1)=rows.take i++ [rows[i]]):=zh (List.take_succ_eq_append_getElem hil);clear hrow;generalize rows[i]=r at *;have hmx:r.of.length≤9223372036854775807:=by obtain⟨_,_,_,h⟩:=jG.out.len;unfold maxLen at h;exact h
     have P0:=zh p0;have P2:=zh p2;clear p0 p1 p2;go_wp2;go_loopw [12] (fun s wr=>∃k:Nat,k≤r.of.length∧s= .int .i64 k∧(∀x∈r.of.take k,x.natAbs≤bg)∧Keep au w wr) (fun s _=>(r.of.length-intOf s).toNat)
     case atStart=>exact⟨0,by omega,rfl,fun x hx=>by simp at hx,HK.out⟩
     case round=>
      obtain⟨k,hk,rfl,hx9,hkr⟩:=hrel;have HX:=zh hx9;have dP:=zh hkr;clear hx9 hkr;have p0:=(dP.out.cell hbl).trans P0.out;have hbr:=dY hbl dP.out.size
      by_cases hkl:k<r.of.length
      case neg=>
       have hltk:¬(k:Int)<(r.of.length:Int):=by omega
       obtain rfl:k=r.of.length:=by omega
       have p2:=(dP.out.cell hbl).trans P2.out
       by_cases hb:(r.to).natAbs≤bg
       case pos=>
        have t1:¬(bg:Int)<r.to:=by omega
        have t2:¬r.to< -(bg:Int):=by omega
        have HS2:Hid (xH bg (rows.take (i+1))):=zh (by
         rw [Em.out];intro y hy
         rcases List.mem_append.1 hy with hy | hy
         ·exact HS.out y hy
         ·rw [List.mem_singleton.1 hy]
          refine⟨?_,hb⟩;have:=HX.out
          rwa [List.take_length]at this)
        clear hb;go_wp2;go_roundw
        case rel=>exact⟨i+1,HIL.out,by go_num,HS2.out,dP.out⟩
        case measure=>have:=HIL.out;simp [intOf];omega
       case neg=>
        by_cases t1:(bg:Int)<r.to
        case pos=>
         go_wp2;refine bodyPost_ret (by simp [results,Tryz.results17,go_sem];rfl) rfl ?_
         exact⟨false,rfl,(fun h=>by cases h),dP.out⟩
        case neg=>
         have t2:r.to< -(bg:Int):=by omega
         clear hb;go_wp2;refine bodyPost_ret (by simp [results,Tryz.results17,go_sem];rfl) rfl ?_
         exact⟨false,rfl,(fun h=>by cases h),dP.out⟩
      case pos=>
       have hltk:(k:Int)<(r.of.length:Int):=by omega
       obtain⟨bi,oi,ci,hsl,hbi,hc⟩:=jG.out.at hkl
       injection hsl with e1 e2 e3
       subst e1;have q0:=(dP.out.cell hbi).trans hc;have ZT:=dY hbi dP.out.size;have zco:Hid (r.of.take (k+1)=r.of.take k++ [r.of[k]]):=zh (List.take_succ_eq_append_getElem hkl);clear hc;generalize r.of[k]=x at*
       by_cases hb:x.natAbs≤bg
       case pos=>
        have t1:¬(bg:Int)<x:=by omega
        have t2:¬x< -(bg:Int):=by omega
        have HX2:Hid (∀y∈r.of.take (k+1),y.natAbs≤bg):=zh (by
         rw [zco.out];intro y hy
         rcases List.mem_append.1 hy with hy | hy
         ·exact HX.out y hy
         ·rw [List.mem_singleton.1 hy];exact hb)
        clear hb;go_wp2;go_roundw
        case rel=>exact⟨k+1,by omega,by go_num,HX2.out,dP.out⟩
        case measure=>simp [intOf];omega
       case neg=>
        by_cases t1:(bg:Int)<x
        case pos=>
         go_wp2;refine bodyPost_ret (by simp [results,Tryz.results17,go_sem];rfl) rfl ?_
         exact⟨false,rfl,(fun h=>by cases h),dP.out⟩
        case neg=>
         have t2:x< -(bg:Int):=by omega
         clear hb;go_wp2;refine bodyPost_ret (by simp [results,Tryz.results17,go_sem];rfl) rfl ?_
         exact⟨false,rfl,(fun h=>by cases h),dP.out⟩
def vG (r:Rw)(k:Nat):Prop:=∀j,j<r.of.length→j≠k→r.of.getD j 0=0
def zu (rows:List Rw)(k:Nat):Prop:=(∃r∈rows,vG r k∧r.of.getD k 0<0)∧∃r∈rows,vG r k∧0<r.of.getD k 0
def sP (x y:Int):List Fq:= [⟨x,1⟩,⟨y,1⟩]
def jM (x:Int):Prop:= -5≤x∧x≤5
theorem Bh {r:Rw}{k:Nat}(h:vG r k)(x:Nat→Rat):∀n,(sQ n fun j=>(r.of.getD j 0:Rat)*x j)=if k<n then(r.of.getD k 0:Rat)*x k else 0
 | 0=>rfl
 | n+1=>by
  simp only [sQ];rw [Bh h x n]
  by_cases e:n=k
  ·subst e
   rw [if_neg (by omega),if_pos (by omega),Rat.zero_add]
  ·have hz:r.of.getD n 0=0:=by
    by_cases hl:n<r.of.length
    ·exact h n hl e
    ·rw [eG,List.getElem?_eq_none (by omega)];rfl
   rw [hz,show((0:Int):Rat)=0 from rfl,Rat.zero_mul,Rat.add_zero]
   by_cases hk:k<n
   ·rw [if_pos hk,if_pos (by omega)]
   ·rw [if_neg hk,if_neg (by omega)]
theorem Mw {r:Rw}{n:Nat}{x:Nat→Rat}(hk:r.kind=1∨r.kind=2∨r.kind=3)(h:om r n x):(sQ n fun j=>(r.of.getD j 0:Rat)*x j)≤(r.to:Rat):=by
 obtain⟨h1,h2,h3⟩:=h
 rcases hk with hk | hk | hk
 ·exact h1 hk
 ·exact Rat.le_of_lt (h2 hk)
 ·rw [h3 hk];exact Rat.le_refl
theorem zaP {rows:List Rw}{n k:Nat}{x:Nat→Rat}(hok:∀r∈rows,gN r (n:Int))(hs:xH 5 rows)(hb:zu rows k)(hk:k<n)(hx:∀r∈rows,om r n x): -5≤x k∧x k≤5:=by
 obtain⟨⟨r,hr,ha,hc⟩,s,hs',hb,hd⟩:=hb;have f1:=Mw (hok r hr).kind (hx r hr);have f2:=Mw (hok s hs').kind (hx s hs');rw [Bh ha,if_pos hk]at f1;rw [Bh hb,if_pos hk]at f2;have t1:(r.to:Rat)≤5:=by
  have:=(hs r hr).2
  exact_mod_cast (show r.to≤5 from by omega)
 have t2:(s.to:Rat)≤5:=by
  have:=(hs s hs').2
  exact_mod_cast (show s.to≤5 from by omega)
 have c1:((r.of.getD k 0:Int):Rat)≤ -1:=by
  have h:=Rat.intCast_le_intCast.2 (show r.of.getD k 0≤ -1 from by omega)
  rwa [show((-1:Int):Rat)= -1 from rfl]at h
 have c2:(1:Rat)≤((s.of.getD k 0:Int):Rat):=by exact_mod_cast (show 1≤s.of.getD k 0 from by omega)
 generalize ((r.of.getD k 0:Int):Rat)=c at *;generalize ((s.of.getD k 0:Int):Rat)=d at*
 constructor
 ·refine Rat.not_lt.1 fun h=> ?_
  have h1:0< -x k:=by grind
  have h2:(1:Rat)*(-x k)≤(-c)*(-x k):=Rat.mul_le_mul_of_nonneg_right (by grind) (Rat.le_of_lt h1)
  grind
 ·refine Rat.not_lt.1 fun h=> ?_
  have h1:0<x k:=by grind
  have h2:(1:Rat)*x k≤d*x k:=Rat.mul_le_mul_of_nonneg_right c2 (Rat.le_of_lt h1)
  grind
theorem Mx {r:Rw}{N:Nat}{pt:List Fq}(hk:gN r N)(h:oV r pt=true):om r N fun j=>xg pt j:=by
 have e:yA r.of pt r.of.length=sQ N fun j=>(r.of.getD j 0:Rat)*xg pt j:=by
  rw [Ii];have hl:=hk.len;obtain⟨d,hd⟩:∃d,N=r.of.length+d:=⟨N-r.of.length,by omega⟩
  subst hd;rw [Cv d fun j hj _=> ?_]
  rw [eG,List.getElem?_eq_none (by omega)]
  show((0:Int):Rat)*_=0;rw [show((0:Int):Rat)=0 from rfl,Rat.zero_mul]
 unfold oV jZ at h;rw [e]at h;unfold om;generalize (sQ N fun j=>(r.of.getD j 0:Rat)*xg pt j)=s at*
 generalize ((r.to:Int):Rat)=t at *;have s1:=yB (q:=s-t);have s2:=nT (q:=s-t);refine⟨fun hc=> ?_,fun hc=> ?_,fun hc=> ?_⟩
 ·rw [if_pos hc]at h
  have h:=of_decide_eq_true h;refine Rat.not_lt.1 fun hx=> ?_
  have:=s2.2 (by grind)
  omega
 ·rw [if_neg (by omega),if_pos hc]at h
  have h:=of_decide_eq_true h;have:=s1.1 h
  grind
 ·rw [if_neg (by omega),if_neg (by omega)]at h
  have h:=of_decide_eq_true h;refine Rat.le_antisymm (Rat.not_lt.1 fun hx=> ?_) (Rat.not_lt.1 fun hx=> ?_)
  ·have:=s2.2 (by grind);omega
  ·have:=s1.2 (by grind);omega
theorem V4 {n:Nat}(hn:n≤2){pt:List Rat}(hl:pt.length=n)(hf:allFit pt pt.length=true)(hd:∀k,k<n→(pt.getD k 0).den=1):pt.map dQ=(sP (pt.getD 0 0).num (pt.getD 1 0).num).take n:=by
 have hq:∀q∈pt,q.den=1→dQ q=⟨q.num,1⟩:=fun q hq h=>by
  unfold dQ;rw [if_pos (Dg hf q hq),h];rfl
 rcases pt with _ | ⟨a,_ | ⟨b,_ | ⟨c,l⟩⟩⟩
 ·obtain rfl:n=0:=by simpa using hl.symm
  rfl
 ·obtain rfl:n=1:=by simpa using hl.symm
  simp only [List.map_cons,List.map_nil];rw [hq a (by simp) (hd 0 (by omega))]
  rfl
 ·obtain rfl:n=2:=by simpa using hl.symm
  simp only [List.map_cons,List.map_nil];rw [hq a (by simp) (hd 0 (by omega)),hq b (by simp) (hd 1 (by omega))]
  rfl
 ·simp at hl;omega
theorem RP {rows:List Rw}{n:Nat}(hl:jW rows n=(0,0))(hn:n≤2)(h9:rows.length≤9)(hs:xH 5 rows)(hb:∀k,k<n→zu rows k):
  ∃st pt T,xR rows (List.replicate n true) 2000=⟨st,pt,T,(0,0)⟩∧((st=1∧∃x y,jM x∧jM y∧kY rows ((sP x y).take n)=true)∨(st=2∧∀x y,kY rows ((sP x y).take n)=false)):=by
 obtain⟨_,hn0,hn12,h40,hok⟩:=oO (l:=rows) (n:=n) (by rw [hl])
 have hlen:(List.replicate n true).length=n:=by simp
 have e:xR rows (List.replicate n true) 2000=EI (uy n) rows (List.replicate n true) 2000:=by
  unfold xR;rw [hlen,hl,if_pos rfl,if_neg (by omega)]
  rfl
 have NG:∀x:Nat→Rat,(∀r∈rows,om r n x)→∀k,k<n→ -5≤x k∧x k≤5:=fun x hx k hk=>zaP hok hs (hb k hk) hk hx
 have h9s:∀r∈rows,small9 r:=fun r hr=>⟨fun x hx=>by have:=(hs r hr).1 x hx;omega,by have:=(hs r hr).2;omega⟩
 have hlp:EC (List.replicate n true).length (uy n):=by rw [hlen];exact KM (by omega) _
 have hsm:Xj (List.replicate n true).length (uy n):=by rw [hlen];exact zbo hn
 have hst:=UC hlp hsm (by omega) h9 (by rw [hlen];exact hok) h9s (by rw [hlen];exact NG)
 have ht:=KG hlp (by omega) h40 (by rw [hlen];exact hok) 2000
 rw [hlen]at ht;rw [e]
 rcases ht with h | h | ⟨pt,h,h1,h2,h3,h4⟩ | ⟨T,h,_,h3⟩
 ·rw [h]at hst;rcases hst with h | h<;>cases h
 ·rw [h]at hst;rcases hst with h | h<;>cases h
 ·refine ⟨1,pt.map dQ,[],h,.inl ⟨rfl,(pt.getD 0 0).num,(pt.getD 1 0).num,?_⟩⟩
  have hd:∀k,k<n→(pt.getD k 0).den=1:=fun k hk=>EF h3 k (by rw [hlen];exact hk) (by rw [eG];simp [hk])
  have hin:∀k,jM (pt.getD k 0).num:=fun k=>by
   by_cases hk:k<n
   ·obtain ⟨b1,b2⟩:=NG _ h4 k hk
    have e1:pt.getD k 0=(((pt.getD k 0).num:Int):Rat):=Rat.ext rfl (hd k hk);rw [e1]at b1 b2;rw [show(-5:Rat)=((-5:Int):Rat)from rfl]at b1
    rw [show(5:Rat)=((5:Int):Rat)from rfl]at b2
    exact⟨Rat.intCast_le_intCast.1 b1,Rat.intCast_le_intCast.1 b2⟩
   ·rw [eG,List.getElem?_eq_none (by omega)]
    exact⟨by decide,by decide⟩
  refine⟨hin 0,hin 1,?_⟩;rw [← V4 hn h1 h2 hd];exact ER hok (GQ h1 h2 h4)
 ·refine ⟨2,[],T,h,.inr ⟨rfl,fun x y=> ?_⟩⟩
  rcases hh:kY rows ((sP x y).take n)with _ | _
  ·rfl
  ·exfalso
   refine h3 (fun j=>xg ((sP x y).take n) j) (fun k hk _=> ?_) fun r hr=>Mx (hok r hr) (Ub hh r hr).2
   rw [hlen]at hk;have h01:k=0∨k=1:=by omega
   have hz:∀z:Int,Rat.divInt z 1=(z:Rat):=fun z=>Rat.num_divInt_den (z:Rat)
   rcases h01 with rfl | rfl
   ·refine ⟨x,?_⟩
    show((sP x y).take n |>.getD 0 ⟨0,0⟩).q=_
    rw [show((sP x y).take n).getD 0 ⟨0,0⟩=⟨x,1⟩from by rw [eG,List.getElem?_take_of_lt hk];rfl]
    exact hz x
   ·refine ⟨y,?_⟩
    show((sP x y).take n |>.getD 1 ⟨0,0⟩).q=_
    rw [show((sP x y).take n).getD 1 ⟨0,0⟩=⟨y,1⟩from by rw [eG,List.getElem?_take_of_lt hk];rfl]
    exact hz y
def zae (rows:List Rw)(N:Nat)(w:World)(e:Ending)(w':World):Prop:=∃b,e= .returned (.bool b)∧(b=true→N≤2∧rows.length≤9∧xH 5 rows∧∀k,k<N→zu rows k)∧Keep au w w'
theorem ES (w:World)(v:Value)(rows:List Rw)(N:Nat)(hN:N≤12)(h:bW w v rows):Calls Tryz.prog 15 #[v,.int .i64 (N:Int)] w (zae rows N w):=by
 have CS:=fun w' (k:Keep au w w')=>zh (qR w' v rows N 2 9 5 (by decide) (h.keep k))
 rw [show((5:Nat):Int)=5 from rfl]at CS
 have HR:=zh h;obtain⟨oa,ca,rfl,hlc,hcm⟩:=h.len;unfold maxLen at hcm;have hmr:rows.length≤9223372036854775807:=by omega
 clear h hlc hcm;go_enter Tryz.func15,Tryz.ntmps15;go_wp2_with fail;refine(CS _ kp).out.mono ?_;rintro e w1 ⟨b,rfl,hb,hk1⟩;have K1:Hid (Keep au w w1):=zh (Keep.trans kp hk1 fun _ _ _ h=>h)
 clear CS hk1
 rcases b with _ | _
 case false=>
  go_wp2;refine bodyPost_ret (by simp [results,Tryz.results15,go_sem];rfl) rfl ?_
  exact⟨false,rfl,(fun h=>by cases h),K1.out⟩
 case true=>
 obtain⟨hn2,hm9,hsm⟩:=hb rfl;have rT:=zh hsm;have Br:Hid (N≤2∧rows.length≤9):=zh ⟨by omega,by omega⟩
 clear hb hsm hn2 hm9;go_wp2;go_loopw [5] (fun s wr=>∃k:Nat,k≤N∧s= .int .i64 k∧(∀q,q<k→zu rows q)∧Keep au w wr) (fun s _=>(N-intOf s).toNat)
 case atStart=>exact⟨0,by omega,rfl,fun q hq=>by omega,K1.out⟩
 case round=>
 obtain⟨k,hk,rfl,hlh,hkr⟩:=hrel;have HLH:=zh hlh;have KR:=zh hkr;clear hlh hkr K1
 by_cases hkN:k<N
 case neg=>
  have hlt:¬(k:Int)<(N:Int):=by omega
  obtain rfl:N=k:=by omega
  go_wp2;refine bodyPost_ret (by simp [results,Tryz.results15,go_sem];rfl) rfl ?_
  exact⟨true,rfl,fun _=>⟨Br.out.1,Br.out.2,rT.out,HLH.out⟩,KR.out⟩
 case pos=>
 have hlt:(k:Int)<(N:Int):=by omega
 obtain⟨wk,rfl⟩:∃W:World,W=wr:=⟨_,rfl⟩;go_wp2;go_loopw [8,6,7] (fun s u z wr=>∃(i:Nat) (lo hi:Bool),i≤rows.length∧s= .int .i64 i∧u= .bool lo∧z= .bool hi∧(lo=true→∃r∈rows,vG r k∧r.of.getD k 0<0)∧(hi=true→∃r∈rows,vG r k∧0<r.of.getD k 0)∧Keep au w wr) (fun s _ _ _=>(rows.length-intOf s).toNat)
 case atStart=>exact⟨0,false,false,by omega,rfl,rfl,rfl,(fun h=>by cases h),(fun h=>by cases h),KR.out⟩
 case round=>
 obtain⟨i,lo,hi,hil,rfl,rfl,rfl,hlo,hhi,hkr⟩:=hrel;have HLO:=zh hlo;have HHI:=zh hhi;have KI:=zh hkr;clear hlo hhi hkr KR
 by_cases hir:i<rows.length
 case neg=>
  have zcG:¬(i:Int)<(rows.length:Int):=by omega
  rcases lo with _ | _
  case false=>
   go_wp2;refine bodyPost_ret (by simp [results,Tryz.results15,go_sem];rfl) rfl ?_
   exact⟨false,rfl,(fun h=>by cases h),KI.out⟩
  case true=>
  rcases hi with _ | _
  case false=>
   go_wp2;refine bodyPost_ret (by simp [results,Tryz.results15,go_sem];rfl) rfl ?_
   exact⟨false,rfl,(fun h=>by cases h),KI.out⟩
  case true=>
   have zcH:Hid (∀q,q<k+1→zu rows q):=zh fun q hq=>by
    by_cases e:q=k
    ·subst e;exact⟨HLO.out rfl,HHI.out rfl⟩
    ·exact HLH.out q (by omega)
   go_wp2;go_roundw
   case rel=>exact⟨k+1,by omega,by go_num,zcH.out,KI.out⟩
   case measure=>simp [intOf];omega
 case pos=>
 have zcG:(i:Int)<(rows.length:Int):=by omega
 have Wn:Hid (i<rows.length):=zh hir;obtain⟨b,o,rfl,hbl,hrow⟩:=HR.out.at hir;obtain⟨os,cs,p0,p1,p2,hrow⟩:=hrow.row;have jG:Hid (bC w (.slice os (rows[i]).of.length cs) (rows[i]).of):=zh (by obtain⟨sv,hsv,h,_⟩:=hrow;cases hsv;exact h)
 have HMR:Hid (rows[i]∈rows):=zh (List.getElem_mem hir);clear hrow;generalize rows[i]=r at *;have hmx:r.of.length≤9223372036854775807:=by obtain⟨_,_,_,h⟩:=jG.out.len;unfold maxLen at h;exact h
 have P0:=zh p0;obtain⟨wi,rfl⟩:∃W:World,W=wr:=⟨_,rfl⟩;clear p0 p1 p2 hil;go_wp2;go_loopw [11,9,10] (fun s u z wr=>∃(j:Nat) (c:Int) (al:Bool),j≤r.of.length∧s= .int .i64 j∧u= .int .i64 c∧z= .bool al∧c=(if k<j then r.of.getD k 0 else 0)∧(al=true→∀q,q<j→q≠k→r.of.getD q 0=0)∧Keep au w wr) (fun s _ _ _=>(r.of.length-intOf s).toNat)
 case atStart=>exact⟨0,0,true,by omega,rfl,rfl,rfl,by rw [if_neg (by omega)],fun _ q hq=>by omega,KI.out⟩
 case round=>
 obtain⟨j,c,al,hjl,rfl,rfl,rfl,hc,hal,hkr⟩:=hrel;have HC:=zh hc;have Aa:=zh hal;have KJ:=zh hkr;clear hc hal hkr KI;have p0:=(KJ.out.cell hbl).trans P0.out;have hbr:=dY hbl KJ.out.size
 by_cases hjr:j<r.of.length
 case neg=>
  have MS:¬(j:Int)<(r.of.length:Int):=by omega
  obtain rfl:r.of.length=j:=by omega
  have YR:Hid (c=r.of.getD k 0):=zh (by
   rw [HC.out]
   by_cases hk':k<r.of.length
   ·rw [if_pos hk']
   ·rw [if_neg hk',eG,List.getElem?_eq_none (by omega)];rfl)
  clear HC
  rcases al with _ | _
  case false=>
   clear Aa YR;go_wp2;go_roundw
   case rel=>exact⟨i+1,lo,hi,Wn.out,by go_num,rfl,rfl,HLO.out,HHI.out,KJ.out⟩
   case measure=>have:=Wn.out;simp [intOf];omega
  case true=>
  have HA:Hid (vG r k):=zh fun q hq hne=>Aa.out rfl q hq hne
  by_cases hp:0<c
  case pos=>
   have hnn:¬c<0:=by omega
   have HH:Hid (∃r∈rows,vG r k∧0<r.of.getD k 0):=zh ⟨r,HMR.out,HA.out,by rw [← YR.out];exact hp⟩
   clear Aa YR;go_wp2;go_roundw
   case rel=>exact⟨i+1,lo,true,Wn.out,by go_num,rfl,rfl,HLO.out,fun _=>HH.out,KJ.out⟩
   case measure=>have:=Wn.out;simp [intOf];omega
  case neg=>
  by_cases hq:c<0
  case pos=>
   have HH:Hid (∃r∈rows,vG r k∧r.of.getD k 0<0):=zh ⟨r,HMR.out,HA.out,by rw [← YR.out];exact hq⟩
   clear Aa YR;go_wp2;go_roundw
   case rel=>exact⟨i+1,true,hi,Wn.out,by go_num,rfl,rfl,fun _=>HH.out,HHI.out,KJ.out⟩
   case measure=>have:=Wn.out;simp [intOf];omega
  case neg=>
   clear Aa YR;go_wp2;go_roundw
   case rel=>exact⟨i+1,lo,hi,Wn.out,by go_num,rfl,rfl,HLO.out,HHI.out,KJ.out⟩
   case measure=>have:=Wn.out;simp [intOf];omega
 case pos=>
  have MS:(j:Int)<(r.of.length:Int):=by omega
  obtain⟨bi,oi,ci,hsl,hbi,hcc⟩:=jG.out.at hjr
  injection hsl with e1 e2 e3
  clear e2;subst e1;subst e3;have q0:=(KJ.out.cell hbi).trans hcc;have ZT:=dY hbi KJ.out.size;have YT:Hid (r.of.getD j 0=r.of[j]):=zh (by rw [eG,iw hjr];rfl)
  clear hcc;generalize r.of[j]=x at*
  by_cases hjk:j=k
  case pos=>
   subst hjk;have Gm:Hid (x=if j<j+1 then r.of.getD j 0 else 0):=zh (by rw [if_pos (by omega),YT.out])
   have zaf:Hid (al=true→∀q,q<j+1→q≠j→r.of.getD q 0=0):=zh fun h q hq hne=>Aa.out h q (by omega) hne
   clear HC Aa YT;go_wp2;go_roundw
   case rel=>exact⟨j+1,x,al,by omega,by go_num,rfl,rfl,Gm.out,zaf.out,KJ.out⟩
   case measure=>simp [intOf];omega
  case neg=>
  have e1:((j:Int)==(k:Int))=false:=by rw [beq_eq_false_iff_ne];omega
  have Gm:Hid (c=if k<j+1 then r.of.getD k 0 else 0):=zh (by
   rw [HC.out]
   by_cases hkj:k<j
   ·rw [if_pos hkj,if_pos (by omega)]
   ·rw [if_neg hkj,if_neg (by omega)])
  by_cases hx:x=0
  case pos=>
   have zaf:Hid (al=true→∀q,q<j+1→q≠k→r.of.getD q 0=0):=zh fun h q hq hne=>by
    by_cases e:q=j
    ·subst e;rw [YT.out];exact hx
    ·exact Aa.out h q (by omega) hne
   subst hx;clear HC Aa YT;go_wp2;go_roundw
   case rel=>exact⟨j+1,c,al,by omega,by go_num,rfl,rfl,Gm.out,zaf.out,KJ.out⟩
   case measure=>simp [intOf];omega
  case neg=>
   have e2:(x != 0)=true:=by rw [bne_iff_ne];exact hx
   clear HC Aa YT hx;go_wp2;go_roundw
   case rel=>exact⟨j+1,c,false,by omega,by go_num,rfl,rfl,Gm.out,(fun h=>by cases h),KJ.out⟩
   case measure=>simp [intOf];omega
theorem Xn {w:World}{b:Nat}(x y:Int)(h:aL w b #[.int .i64 x,.int .i64 1,.int .i64 y,.int .i64 1])(hx:jM x)(hy:jM y){n:Nat}(hn:n≤2):eT w (.slice (some ⟨b,0,none⟩) n 2) ((sP x y).take n):=by
 have hl:((sP x y).take n).length=n:=by rw [List.length_take];show min n 2=n;omega
 unfold jM at hx hy;refine⟨_,2,by rw [hl],by omega,by unfold maxLen;omega,fun g hg=> ?_,fun _=>⟨b,0,rfl,h.lt,fun i g hi=> ?_⟩⟩
 ·have hg:=List.mem_of_mem_take hg
  simp [sP]at hg
  rcases hg with rfl | rfl<;>exact⟨by unfold fK;simp only;omega,by unfold fK;simp only;omega⟩
 ·have hin:i<n:=by
   have:=(List.getElem?_eq_some_iff.1 hi).1;omega
  rw [List.getElem?_take_of_lt hin]at hi;obtain rfl | rfl:i=0∨i=1:=by omega
  ·cases hi;exact⟨h.cell 0,h.cell 1⟩
  ·cases hi;exact⟨h.cell 2,h.cell 3⟩
def zah (rows:List Rw)(n:Nat)(w:World)(e:Ending)(w':World):Prop:=∃b,e= .returned (.bool b)∧(b=true→∃x y,jM x∧jM y∧kY rows ((sP x y).take n)=true)∧(b=false→∀x y,jM x→jM y→kY rows ((sP x y).take n)=false)∧Keep au w w'
theorem KV (w:World)(v:Value)(rows:List Rw)(N:Nat)(hN:N≤2)(h:bW w v rows):Calls Tryz.prog 16 #[v,.int .i64 (N:Int)] w (zah rows N w):=by
 have CA:=zh (fun w' vn pt (k:Keep au w w') (hp:eT w' vn pt)=>BH w' v rows vn pt (h.keep k) hp)
 obtain⟨oa,ca,rfl,_,_⟩:=h.len;clear h;have hN1:(N:Int)≤2:=by omega
 go_enter Tryz.func16,Tryz.ntmps16;go_wp2;go_loopw [5] (fun s wr=>∃x:Int,-5≤x∧x≤6∧s= .int .i64 x∧(∀x' y',jM x'→jM y'→x'<x→kY rows ((sP x' y').take N)=false)∧Keep au w wr) (fun s _=>(6-intOf s).toNat)
 case atStart=>exact⟨-5,by omega,by omega,rfl,fun x' y' h _ h'=>by unfold jM at h;omega,kp⟩
 case round=>
 obtain⟨x,hx1,hx2,rfl,hno,hkr⟩:=hrel;have Ie:=zh hno;have KR:=zh hkr;clear hno hkr
 by_cases hx5:x≤5
 case neg=>
  go_wp2;refine bodyPost_ret (by simp [results,Tryz.results16,go_sem];rfl) rfl ?_
  exact⟨false,rfl,(fun h=>by cases h),fun _ x' y' h h'=>Ie.out x' y' h h' (by unfold jM at h;omega),KR.out⟩
 case pos=>
 obtain⟨wk,rfl⟩:∃W:World,W=wr:=⟨_,rfl⟩;go_wp2;go_loopw [6] (fun s wr=>∃y:Int,-5≤y∧y≤6∧s= .int .i64 y∧(∀y',jM y'→y'<y→kY rows ((sP x y').take N)=false)∧Keep au w wr) (fun s _=>(6-intOf s).toNat)
 case atStart=>exact⟨-5,by omega,by omega,rfl,fun y' h h'=>by unfold jM at h;omega,KR.out⟩
 case round=>
 obtain⟨y,hy1,hy2,rfl,hno,hkr⟩:=hrel;have Wp:=zh hno;have KY:=zh hkr;clear hno hkr KR
 by_cases hy5:y≤5
 case neg=>
  have Br:Hid (∀x' y',jM x'→jM y'→x'<x+1→kY rows ((sP x' y').take N)=false):=zh fun x' y' h h' hlt=>by
   by_cases e:x'=x
   ·subst e;exact Wp.out y' h' (by unfold jM at h';omega)
   ·exact Ie.out x' y' h h' (by omega)
  go_wp2;go_roundw
  case rel=>exact⟨x+1,by omega,by omega,by go_num,Br.out,KY.out⟩
  case measure=>simp [intOf];omega
 case pos=>
  have ka:Keep au wr (wr.alloc (.cells #[.int .i64 x,.int .i64 1,.int .i64 y,.int .i64 1] TF)):=(Keep.refl _ _).alloc _;have HX:Hid (jM x∧jM y):=zh ⟨⟨hx1,hx5⟩,hy1,hy5⟩;have C:=zh (CA.out (wr.alloc (.cells #[.int .i64 x,.int .i64 1,.int .i64 y,.int .i64 1] TF)) _ _ (KY.out.both ka) (Xn (b:=wr.heap.size) x y (aR _ _ rfl) HX.out.1 HX.out.2 hN));have KA:=zh (KY.out.both ka);clear ka;go_wp2_with fail;refine C.out.mono ?_;rintro e w2 ⟨rfl,hk⟩;have K2:=zh (KA.out.both hk);clear hk C KA
  rcases hh:kY rows ((sP x y).take N)with _ | _
  case true=>
   have HH:=zh hh;clear hh;go_wp2;refine bodyPost_ret (by simp [results,Tryz.results16,go_sem];rfl) rfl ?_
   exact⟨true,rfl,fun _=>⟨x,y,HX.out.1,HX.out.2,HH.out⟩,(fun h=>by cases h),K2.out⟩
  case false=>
   have Br:Hid (∀y',jM y'→y'<y+1→kY rows ((sP x y').take N)=false):=zh fun y' h' hlt=>by
    by_cases e:y'=y
    ·subst e;exact hh
    ·exact Wp.out y' h' (by omega)
   clear hh;go_wp2;go_roundw
   case rel=>exact⟨y+1,by omega,by omega,by go_num,Br.out,K2.out⟩
   case measure=>simp [intOf];omega
end Go.Proofs.YtaiffmebphhdaaaGreat
