/- Package lattice's Do, plain: it is always told, and what its answers are. -/
import Derived.Test.YtcnjcnjipddgeaaGreatLdS
namespace Go.Proofs.YtcnjcnjipddgeaaGreat
set_option linter.unusedSimpArgs false
set_option linter.unusedVariables false
open Go.ChangeShapes Go.WideShapes Go.RowKit
theorem dl_lt {z:Int}{k:Nat}(h:dl z≤k):z.natAbs<4294967296^k:=Nat.lt_of_lt_of_le (digN_lt_pow _) (Nat.pow_le_pow_right (by omega) h)
theorem bdW_of {q:Rat}(h1:dl q.num≤4000)(h2:dl (q.den:Int)≤4000):bdW q=true:=by
 have h3:=dl_lt (k:=4000) h2;rw [Int.natAbs_natCast]at h3;exact decide_eq_true ⟨dl_lt (k:=4000) h1,h3⟩
theorem step_w {n m f i:Nat}{tt:Rat}{S S':LQ}{w:List Rat}(h:stepR n m f i tt S=some (some w,S'))(hs:LQok n m S):w.all bdW=true:=by
 obtain⟨hok,b,c,hc,hbc,h1,h2,h3,h4⟩:=stepR_out h;obtain⟨k1,k2,k3,k4,k5⟩:=okS_parts hok hs.p hs.f;obtain⟨r1,r2⟩:=k4 _ (Nat.le_refl _);rw [List.all_eq_true];have n1:=nb_one.1;have n2:=nb_one.2
 cases b
 ·by_cases e:(restK S m i tt S.piv.length).1=0
  ·have:=h1 rfl e
   cases this
  ·have:=h2 rfl e
   cases this
   intro q hq;obtain⟨x,hx,rfl⟩:=List.mem_map.1 hq;have hx:=r2 x hx;have a:=dl_radd (a:=(restK S m i tt S.piv.length).1) (b:=(restK S m i tt S.piv.length).1) (k:=2862) (l:=24) (by omega) (by omega) (by omega)
   have d:=dl_rdiv (a:=1) (b:=(restK S m i tt S.piv.length).1+(restK S m i tt S.piv.length).1) (fun e'=>e (by grind))
   have g:=dl_rmul x (1/((restK S m i tt S.piv.length).1+(restK S m i tt S.piv.length).1));exact bdW_of (by omega) (by omega)
 ·by_cases e:((restK S m i tt S.piv.length).1*(1/cellQ c S.piv.length i)).den=1
  ·have:=h3 rfl e
   cases this
  ·have:=h4 rfl e
   cases this
   intro q hq;obtain⟨x,hx,rfl⟩:=List.mem_map.1 hq;have hx:=r2 x hx;have hc':=cellQ_dl hbc S.piv.length i;have d:=dl_rdiv (a:=1) (clearR_ne hs.c hc);have g:=dl_rmul x (1/cellQ c S.piv.length i);exact bdW_of (by omega) (by omega)
theorem run_w {n m f:Nat}{rows:List Rw}:∀l i S,LQok n m S→∀w S',runS n m f rows l i S=some (some w,S')→w.all bdW=true
 | 0,i,S,hs,w,S',h=>by simp [runS]at h
 | l+1,i,S,hs,w,S',h=>by
  obtain⟨o,h1,h2⟩:=runS_succ h
  rcases h2 with⟨w',S'',rfl,e⟩ | ⟨S'',rfl,e⟩
  ·cases e
   exact step_w h1 hs
  ·exact run_w l (i+1) S'' (stepR_ok h1 hs) w S' e
theorem ptS_ptQ {S:LQ}{m j:Nat}:∀k,ptS S m j k=sQ k fun q=>S.part.getD q 0*cellQ S.cols q (m+j)
 | 0=>rfl
 | k+1=>by simp only [ptS,sQ];rw [ptS_ptQ k];grind
theorem okY_of {n m:Nat}{AZ:Nat→Nat→Int}{b:Nat→Rat}{c0:List (List Rat)}{S:LQ}(hG:Given n m AZ c0)(h:LI n m (fun r j=>(AZ r j:Rat)) b c0 m S)(hb:LB n m S):okY S n m=true:=by
 have h12:=hG.n12;have hpn:=h.pn;have hpl:=h.pl;have hcell:bdC S.cols=true:=all_bd h.cols (fun k t hk=>(hb.a k hk t).mono (nat_le (EN_mono (Nat.min_le_right _ 11)))) (nat_lt EN_lim)
 have hF1:∀k,k≤12→1000000*FN k*GN<4294967296^2850:=fun k hk=>by
  refine Nat.lt_of_le_of_lt ?_ (FN_small hk);exact Nat.mul_le_mul_right _ (Nat.mul_le_mul_right _ (by decide))
 have heF:∀k,eN k*FN k≤FN (k+1):=fun k=>by
  show _≤FN k*(1+eN k);rw [Nat.mul_add,Nat.mul_one,Nat.mul_comm (eN k)];omega
 have hpt:∀j k,k≤S.piv.length→Wi ((1000000*FN k:Nat):Rat) (ptS S m j k)∧IsZ (ptS S m j k):=fun j k=>by
  induction k with
  | zero=>
   intro _;refine⟨?_,IsZ.zero⟩;show Wi _ 0;have:((0:Nat):Rat)≤((1000000*FN 0:Nat):Rat):=nat_le (Nat.zero_le _);have e:((0:Nat):Rat)=0:=rfl;rw [e]at this;unfold Wi
   constructor<;>grind
  | succ k ih=>
   intro hk;obtain⟨i1,i2⟩:=ih (by omega)
   simp only [ptS];refine⟨(i1.add ((hb.f k (by omega) (m+j)).mul (hb.p k (by omega)))).mono ?_,i2.add ((h.cols.z _ _).mul (h.part _))⟩
   rw [← Rat.natCast_mul,←Rat.natCast_add];refine nat_le ?_;show _≤1000000*(FN k*(1+eN k));rw [Nat.mul_add,Nat.mul_one,Nat.mul_add];have:eN k*(1000000*FN k)=1000000*(FN k*eN k):=by rw [Nat.mul_comm (FN k),Nat.mul_left_comm]
   omega
 unfold okY;rw [Bool.and_eq_true,Bool.and_eq_true,Bool.and_eq_true];refine⟨⟨⟨hcell,?_⟩,?_⟩,?_⟩
 ·rw [List.all_eq_true]
  intro q hq;obtain⟨r,hr,rfl⟩:=List.getElem_of_mem hq;have e:S.part[r]=S.part.getD r 0:=by rw [List.getD_eq_getElem?_getD,List.getElem?_eq_getElem hr];rfl
  rw [e];exact bdF_of (hF1 r (by omega)) (hb.p r (by omega)) (den_int (h.part r))
 ·rw [List.all_eq_true]
  intro k hk;have hk:k≤S.piv.length:=by have:=List.mem_range.1 hk;omega
  rw [List.all_eq_true];intro q hq;obtain⟨j,_,rfl⟩:=List.mem_map.1 hq;exact bdF_of (hF1 k (by omega)) (hpt j k hk).1 (den_int (hpt j k hk).2)
 ·rw [List.all_eq_true]
  intro k hk;have hk:k<S.piv.length:=by have:=List.mem_range.1 hk;omega
  rw [List.all_eq_true];intro j _;refine bdM_of (F:=1000000*FN k) ?_ (hb.f k hk (m+j)) (h.cols.z _ _) (hb.p k hk) (den_int (h.part k));refine Nat.lt_of_le_of_lt (Nat.mul_le_mul_right _ ?_) (hF1 (k+1) (by omega))
  rw [Nat.mul_left_comm];exact Nat.mul_le_mul_left _ (heF k)
theorem rowsFit {n:Nat}{rows:List Rw}(hn:n≤12)(hok:∀r∈rows,RowOK r n):RowsFit n rows where
 n12:=hn
 of r j:=by
  unfold azR;rw [List.getD_eq_getElem?_getD (l:=rows)]
  rcases hr:rows[r]? with _ | x
  ·simp
  ·have h:=hok x (List.mem_of_getElem? hr)
   simp only [Option.getD_some];rw [List.getD_eq_getElem?_getD]
   rcases hg:x.of[j]? with _ | y
   ·simp
   ·have:=h.fit y (List.mem_of_getElem? hg)
    unfold fitI at this;simp only [Option.getD_some];omega
 tto r:=by
  rw [List.getD_eq_getElem?_getD]
  rcases hr:rows[r]? with _ | x
  ·simp
  ·have:=(hok x (List.mem_of_getElem? hr)).fto
   unfold fitI at this;simp only [Option.getD_some];omega
def bigF:Nat:=EN 11+2
theorem do_total {n:Nat}{rows:List Rw}(hn:n≤12)(hok:∀r∈rows,RowOK r n):
  (∃w,doR rows n bigF=some (noR w)∧NoW n rows.length (azR rows) (toR rows) w)∨
  (∃S,doR rows n bigF=some (yesR S n rows.length)∧LI n rows.length (fun r j=>(azR rows r j:Rat)) (toR rows) (startL rows n).cols rows.length S):=by
 have hf:=rowsFit hn hok;obtain⟨o,S,h1,h2,h3⟩:=run_total hf (f:=bigF) (Nat.le_refl _) rows.length 0 (startL rows n) (by omega) (start_LI hf) (start_LB hf)
 rcases o with _ | w
 ·obtain ⟨g1,g2⟩:=h2 rfl
  refine .inr ⟨S,?_,g1⟩;unfold doR;rw [h1];simp only;rw [if_pos (okY_of (start_given hf) g1 g2)]
 ·refine .inl ⟨w,?_,h3 w rfl⟩
  unfold doR;rw [h1];simp only;rw [if_pos (run_w _ _ _ startL_ok w S h1)]
end Go.Proofs.YtcnjcnjipddgeaaGreat
