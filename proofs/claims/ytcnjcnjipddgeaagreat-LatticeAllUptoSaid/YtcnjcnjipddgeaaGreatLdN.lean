/- The laws of lattice.Do, plain: whole numbers that rows hold at. -/
import Derived.Test.YtcnjcnjipddgeaaGreatLdM
import Derived.Test.YtcnjcnjipddgeaaGreatFkG
import Derived.Test.YtcnjcnjipddgeaaGreatWpA
namespace Go.Proofs.YtcnjcnjipddgeaaGreat
set_option linter.unusedSimpArgs false
set_option linter.unusedVariables false
open Go.ChangeShapes Go.WideShapes Go.RowKit
theorem first_ofL:∀ {l:List Int} {i:Nat},(∀x∈l,fitI x)→firstOut l i=(0,0)
 | [],_,_=>rfl
 | x::l,i,h=>by unfold firstOut;rw [if_pos (h x (by simp))];exact first_ofL fun y hy=>h y (by simp [hy])
theorem chk_ofL {r:Rw}{n:Int}(h:RowOK r n):chkRow r n=(0,0):=by
 have h0:=h.n0;have h1:=h.n12;have h2:=h.len;unfold chkRow;rw [if_neg (by omega),if_neg (not_not_intro h.kind),if_neg (by omega)]
 apply first_ofL
 intro x hx
 rcases List.mem_append.1 hx with hx | hx
 ·exact h.fit x hx
 ·rw [List.mem_singleton]at hx;subst hx;exact h.fto
theorem divInt_oneL (c:Int):Rat.divInt c 1=(c:Rat):=by
 rw [← Rat.num_divInt_den (c:Rat),Rat.num_intCast,Rat.den_intCast];rfl
theorem wpF_q {xs:List Int}{k:Nat}(hk:k<xs.length):((wpF xs xs.length).getD k ⟨0,0⟩).q=((xs.getD k 0:Int):Rat):=by
 unfold wpF;rw [List.take_length,List.getD_eq_getElem?_getD,List.getElem?_map,List.getD_eq_getElem?_getD,List.getElem?_eq_getElem hk];show Rat.divInt xs[k] 1=_;exact divInt_oneL _
theorem sumK_sol {of xs:List Int}:∀k,k≤xs.length→sumK of (wpF xs xs.length) k=sQ k fun j=>((of.getD j 0:Int):Rat)*((xs.getD j 0:Int):Rat)
 | 0,_=>rfl
 | k+1,h=>by
  simp only [sumK,sQ];rw [sumK_sol k (by omega),wpF_q (by omega)]
theorem whole_holds {rows:List Rw}{N:Nat}{xs:List Int}(hok:∀r∈rows,RowOK r (N:Int))(h3:∀r∈rows,r.kind=3)(hl:xs.length=N)(hf:∀x∈xs,fitI x):allHB rows (wpF xs xs.length)=true↔Solves N rows.length (fun r j=>(azR rows r j:Rat)) (toR rows) fun j=>((xs.getD j 0:Int):Rat):=by
 have hlen:(wpF xs xs.length).length=N:=by rw [wpF_len (Nat.le_refl _),hl]
 have hbad:firstBad (wpF xs xs.length) 0=(0,0):=badL fun g hg=>by
  unfold wpF at hg;rw [List.take_length]at hg;obtain⟨x,hx,rfl⟩:=List.mem_map.1 hg;have:=hf x hx;unfold fitI at this;exact⟨by show(1:Int)≤1;omega,by show(1:Int)≤1073741824;omega,by show -1073741824≤x;omega,by show x≤1073741824;omega,by show Nat.gcd x.natAbs 1=1;exact Nat.gcd_one_right _⟩
 have row:∀r∈rows,rowHB (wpF xs xs.length) r=true↔(sQ N fun j=>((r.of.getD j 0:Int):Rat)*((xs.getD j 0:Int):Rat))=(r.to:Rat):=fun r hr=>by
  have h:=hok r hr;have hp:(ptF r (wpF xs xs.length)).1=0:=by
   unfold ptF;rw [hlen,chk_ofL h,if_neg (by simp),hbad]
  have hs:sumK r.of (wpF xs xs.length) r.of.length=sQ N fun j=>((r.of.getD j 0:Int):Rat)*((xs.getD j 0:Int):Rat):=by
   have hle:r.of.length≤N:=by have:=h.len;omega
   rw [sumK_sol _ (by omega)]
   obtain⟨K,rfl⟩:∃K,N=r.of.length+K:=⟨N-r.of.length,by omega⟩
   exact(sQ_more K fun j h1 _=>by
    rw [List.getD_eq_getElem?_getD,List.getElem?_eq_none h1];show((0:Int):Rat)*_=0;rw [show((0:Int):Rat)=0 from rfl];grind).symm
  unfold rowHB;rw [decide_eq_true hp,Bool.true_and];unfold holdsB;rw [h3 r hr,hs];generalize (sQ N fun j=>((r.of.getD j 0:Int):Rat)*((xs.getD j 0:Int):Rat))=s
  have e:(s-(r.to:Rat)).num.sign=0↔s=(r.to:Rat):=by
   rw [Int.sign_eq_zero_iff_zero,Rat.num_eq_zero]
   constructor<;>intro h<;>grind
  rw [← e];unfold holdsP;simp
 unfold allHB;rw [List.all_eq_true]
 constructor
 ·intro h r hr
  have:=(row rows[r] (List.getElem_mem hr)).1 (h _ (List.getElem_mem hr));have e:rows.getD r ⟨[],0,0⟩=rows[r]:=by rw [List.getD_eq_getElem?_getD,List.getElem?_eq_getElem hr];rfl
  show(sQ N fun j=>(((rows.getD r ⟨[],0,0⟩).of.getD j 0:Int):Rat)*((xs.getD j 0:Int):Rat))=(((rows.getD r ⟨[],0,0⟩).to:Int):Rat)
  rw [e];exact this
 ·intro h x hx
  obtain⟨r,hr,rfl⟩:=List.getElem_of_mem hx;refine(row rows[r] hx).2 ?_;have:=h r hr;have e:rows.getD r ⟨[],0,0⟩=rows[r]:=by rw [List.getD_eq_getElem?_getD,List.getElem?_eq_getElem hr];rfl
  have this:(sQ N fun j=>(((rows.getD r ⟨[],0,0⟩).of.getD j 0:Int):Rat)*((xs.getD j 0:Int):Rat))=(((rows.getD r ⟨[],0,0⟩).to:Int):Rat):=this
  rw [e]at this;exact this
end Go.Proofs.YtcnjcnjipddgeaaGreat
