/- The law LatticeTrue: its walk. -/
import Derived.Test.YtcnjcnjipddgeaaGreatLcK
import Derived.Test.YtcnjcnjipddgeaaGreatLdP
import Derived.Test.YtcnjcnjipddgeaaGreatLsA
import Derived.Test.YtcnjcnjipddgeaaGreatRfE
import Derived.Test.YtcnjcnjipddgeaaGreatRfL
import Derived.Test.YtcnjcnjipddgeaaGreatWpA
import Derived.Test.YtcnjcnjipddgeaaGreatFkG
namespace Go.Proofs.YtcnjcnjipddgeaaGreat
set_option maxRecDepth 100000
set_option maxHeartbeats 16000000
set_option linter.unusedSimpArgs false
set_option linter.unusedVariables false
open Go.ChangeShapes Go.WideShapes Go.RowKit
theorem refFltL_any (w:World)(c a:Int):Calls Tryz.prog 8 #[.int .i64 c,.int .i64 a] w fun e w'=>e= .returned (.agg #[.int .i64 c,.int .i64 a])∧Keep NoS w w':=by
 go_enter Tryz.func8,Tryz.ntmps8;go_wp2;go_returns;exact⟨rfl,kp⟩
def sumL (a u:List Int)(j:Nat):List Int:=(List.range j).map fun i=>a.getD i 0+u.getD i 0
theorem sumL_len (a u:List Int)(j:Nat):(sumL a u j).length=j:=by unfold sumL;simp
theorem sumL_succ (a u:List Int)(j:Nat):sumL a u (j+1)=sumL a u j++ [a.getD j 0+u.getD j 0]:=by unfold sumL;rw [List.range_succ,List.map_append];rfl
theorem sumL_get {a u:List Int}{j n:Nat}(h:j<n):(sumL a u n).getD j 0=a.getD j 0+u.getD j 0:=by
 unfold sumL;rw [List.getD_eq_getElem?_getD,List.getElem?_map,List.getElem?_range h];rfl
theorem sumL_i64 {a u:List Int}{n:Nat}(ha:∀x∈a,fitI x)(hu:∀x∈u,fitI x):∀x∈sumL a u n,I64 x:=fun x hx=>by
 have get:∀(l:List Int) (i:Nat),(∀y∈l,fitI y)→ -1073741824≤l.getD i 0∧l.getD i 0≤1073741824:=fun l i h=>by
  rw [List.getD_eq_getElem?_getD]
  rcases hg:l[i]? with _ | y
  ·simp
  ·have:=h y (List.mem_of_getElem? hg)
   unfold fitI at this;exact⟨by simp;omega,by simp;omega⟩
 unfold sumL at hx;obtain⟨i,_,rfl⟩:=List.mem_map.1 hx;have h1:=get a i ha;have h2:=get u i hu;unfold I64;omega
theorem ltrue_a (w:World)(oa:Option Addr)(m ca:Nat)(n:Int)(c1 c2:Int)
  (CD:∀w',Keep NoS w w'→Hid (Calls Tryz.prog 6 #[.slice oa m ca,.int .i64 n] w' fun e w''=>∃va vw vy,e= .returned (.tuple #[.bool false,va,vw,vy,.agg #[.int .i64 c1,.int .i64 c2]])∧OwnI w'' w'.heap.size va []∧OwnW w'' w'.heap.size vw []∧OwnF w'' w'.heap.size vy []∧Keep NoS w' w''))
  (CR:∀w',Keep NoS w w'→Hid (Calls Tryz.prog 7 #[.slice oa m ca,.int .i64 n] w' fun e w''=>e= .returned (.agg #[.int .i64 c1,.int .i64 c2])∧Keep NoS w' w''))
  (hc:c1≠0):
  Calls Tryz.prog 3 #[.slice oa m ca,.int .i64 n] w fun e w'=>e= .returned (.bool true)∧Keep NoS w w':=by
 have e1:(c1==0)=false:=by rw [beq_eq_false_iff_ne];exact hc
 have e2:(c1 != 0)=true:=by rw [bne_iff_ne];exact hc
 go_enter Tryz.func3,Tryz.ntmps3;go_wp2_with fail;refine(latticeFact_any _).mono ?_;rintro e w1 ⟨rfl,hk⟩;have K1:Hid (Keep NoS w w1):=zh (Keep.both kp hk);clear hk;go_wp2_with fail;refine((CD _ K1.out).out).mono ?_;rintro e w2 ⟨va,vw,vy,rfl,ha,hw,hy,hk⟩;have k2:Keep NoS w1 w2:=Keep.trans kp hk fun _ _ _ h=>h
 have K2:=zh (K1.out.both k2);obtain⟨oA,cA,rfl⟩:=ha.len;obtain⟨oW,cW,rfl,_,_⟩:=hw.len;obtain⟨oY,cY,rfl,_,_⟩:=hy.len;clear hk k2 ha hw hy CD;go_wp2_with fail;refine((CR _ (K2.out.alloc _)).out).mono ?_;rintro e w3 ⟨rfl,hk⟩;have Bb10:Blk w3 (w2.heap.size) #[.int .i64 c1,.int .i64 c2]:=Blk.keep kb hk;have k3:Keep NoS w2 w3:=Keep.trans kp hk fun _ _ _ h=>h
 have K3:=zh (K2.out.both k3);have Hb10:=zh Bb10;clear hk Bb10 k3 CR;generalize w2.heap.size=b10 at *;have ka:Keep NoS w3 (w3.alloc (.cells #[.int .i64 c1,.int .i64 c2] 28)):=(Keep.refl _ _).alloc _;have Hb11:Hid (Blk (w3.alloc (.cells #[.int .i64 c1,.int .i64 c2] 28)) w3.heap.size #[.int .i64 c1,.int .i64 c2]):=zh (blk_at _ _ rfl);have Hb10:=zh (Hb10.out.keep ka);have K4:=zh (K3.out.both ka);go_upto_region 6 with fail
 clear ka;generalize w3.alloc (.cells #[.int .i64 c1,.int .i64 c2] 28)=w4 at *;generalize w3.heap.size=b11 at *;obtain⟨p0,p1,_,_,pl⟩:=Hb10.out.two;obtain⟨q0,q1,_,_,ql⟩:=Hb11.out.two;go_upto_region 7 with fail
 go_quiet (fail);go_wp2;go_ret;exact⟨rfl,K4.out.drewN _⟩
theorem ltrue_c (w:World)(oa:Option Addr)(m ca:Nat)(n:Int) 
  (CD:∀w',Keep NoS w w'→Hid (Calls Tryz.prog 6 #[.slice oa m ca,.int .i64 n] w' fun e w''=>∃va vw vy,e= .returned (.tuple #[.bool false,va,vw,vy,.agg #[.int .i64 10,.int .i64 0]])∧OwnI w'' w'.heap.size va []∧OwnW w'' w'.heap.size vw []∧OwnF w'' w'.heap.size vy []∧Keep NoS w' w''))
  (CR:∀w',Keep NoS w w'→Hid (Calls Tryz.prog 7 #[.slice oa m ca,.int .i64 n] w' fun e w''=>e= .returned (.agg #[.int .i64 0,.int .i64 0])∧Keep NoS w' w''))
   :
  Calls Tryz.prog 3 #[.slice oa m ca,.int .i64 n] w fun e w'=>e= .returned (.bool true)∧Keep NoS w w':=by
 go_enter Tryz.func3,Tryz.ntmps3;go_wp2_with fail;refine(latticeFact_any _).mono ?_;rintro e w1 ⟨rfl,hk⟩;have K1:Hid (Keep NoS w w1):=zh (Keep.both kp hk);clear hk;go_wp2_with fail;refine((CD _ K1.out).out).mono ?_;rintro e w2 ⟨va,vw,vy,rfl,ha,hw,hy,hk⟩;have k2:Keep NoS w1 w2:=Keep.trans kp hk fun _ _ _ h=>h
 have K2:=zh (K1.out.both k2);obtain⟨oA,cA,rfl⟩:=ha.len;obtain⟨oW,cW,rfl,_,_⟩:=hw.len;obtain⟨oY,cY,rfl,_,_⟩:=hy.len;clear hk k2 ha hw hy CD;go_wp2_with fail;refine((CR _ (K2.out.alloc _)).out).mono ?_;rintro e w3 ⟨rfl,hk⟩;have Bb10:Blk w3 (w2.heap.size) #[.int .i64 10,.int .i64 0]:=Blk.keep kb hk;have k3:Keep NoS w2 w3:=Keep.trans kp hk fun _ _ _ h=>h
 have K3:=zh (K2.out.both k3);have Hb10:=zh Bb10;clear hk Bb10 k3 CR;generalize w2.heap.size=b10 at *;have ka:Keep NoS w3 (w3.alloc (.cells #[.int .i64 0,.int .i64 0] 28)):=(Keep.refl _ _).alloc _;have Hb11:Hid (Blk (w3.alloc (.cells #[.int .i64 0,.int .i64 0] 28)) w3.heap.size #[.int .i64 0,.int .i64 0]):=zh (blk_at _ _ rfl);have Hb10:=zh (Hb10.out.keep ka);have K4:=zh (K3.out.both ka);go_upto_region 6 with fail
 clear ka;generalize w3.alloc (.cells #[.int .i64 0,.int .i64 0] 28)=w4 at *;generalize w3.heap.size=b11 at *;obtain⟨p0,p1,_,_,pl⟩:=Hb10.out.two;obtain⟨q0,q1,_,_,ql⟩:=Hb11.out.two;go_upto_region 7 with fail
 refine wp_region_by (fun w'=>Keep NoS w4 w') [] [([0,1,2,3,4,5,6,7,8],9)] [10,11,12,13,14,15,16,17,18,19,20,21,22,23,24,25,26,27,28] (by kernel_rfl) (by kernel_rfl) kp ?_
 intro X W hne hF hcls;have HCL:=zh hcls;have z1:=fun x=>(Hb10.out.keep (hF x)).two
 have z2:=fun x=>(Hb11.out.keep (hF x)).two
 clear hF hcls p0 p1 pl q0 q1 ql;simp only [wpPlan,pickOps,zl0,zl1,zl2,clsOf,Bool.false_eq_true,if_false]
 (repeat(go_big_quiet_step (fail)));refine wpQuiet_nil ?_
 refine wpWa rfl rfl fun K hK=> ?_
 go_simp;refine(refFltL_any _ 10 0).mono ?_;rintro e w5 ⟨rfl,hk5⟩;have k5:Keep NoS w4 w5:=Keep.trans kp hk5 fun _ _ _ h=>h
 refine hK _ _ ⟨fun _=>HCL.out _ k5,?_⟩
 clear hK hk5
 (repeat(go_big_quiet_step (fail)));refine wpQuiet_nil ?_
 refine NoPanic.normal ?_;go_wp2;go_ret;exact⟨rfl,K4.out.both k5⟩
theorem ltrue_n (w:World)(oa:Option Addr)(m ca:Nat)(n:Int)(why:List Fq)
  (CD:∀w',Keep NoS w w'→Hid (Calls Tryz.prog 6 #[.slice oa m ca,.int .i64 n] w' fun e w''=>∃va vw vy,e= .returned (.tuple #[.bool false,va,vw,vy,.agg #[.int .i64 0,.int .i64 0]])∧OwnI w'' w'.heap.size va []∧OwnW w'' w'.heap.size vw []∧OwnF w'' w'.heap.size vy why∧Keep NoS w' w''))
  (CR:∀w',Keep NoS w w'→Hid (Calls Tryz.prog 7 #[.slice oa m ca,.int .i64 n] w' fun e w''=>e= .returned (.agg #[.int .i64 0,.int .i64 0])∧Keep NoS w' w''))
  (hl:why.length=m) (hwf:∀g∈why,I64 g.N∧I64 g.D)
  (CT:∀w' vy,Keep NoS w w'→IsFracs w' vy why→Hid (Calls Tryz.prog 9 #[.slice oa m ca,.int .i64 n,vy] w' fun e w''=>e= .returned (.tuple #[.bool true,.agg #[.int .i64 0,.int .i64 0]])∧Keep NoS w' w''))
  (CL:∀w' vy,Keep NoS w w'→IsFracs w' vy why→Hid (Calls Tryz.prog 10 #[.slice oa m ca,.int .i64 n,vy] w' fun e w''=>e= .returned (.bool true)∧Keep NoS w' w'')):
  Calls Tryz.prog 3 #[.slice oa m ca,.int .i64 n] w fun e w'=>e= .returned (.bool true)∧Keep NoS w w':=by
 subst hl;go_enter Tryz.func3,Tryz.ntmps3;go_wp2_with fail;refine(latticeFact_any _).mono ?_;rintro e w1 ⟨rfl,hk⟩;have K1:Hid (Keep NoS w w1):=zh (Keep.both kp hk);clear hk;go_wp2_with fail;refine((CD _ K1.out).out).mono ?_;rintro e w2 ⟨va,vw,vy,rfl,ha,hw,hy,hk⟩;have k2:Keep NoS w1 w2:=Keep.trans kp hk fun _ _ _ h=>h
 have K2:=zh (K1.out.both k2);obtain⟨oA,cA,rfl⟩:=ha.len;obtain⟨oW,cW,rfl,_,_⟩:=hw.len;obtain⟨oY,cY,rfl,_,_⟩:=hy.len;have HY:=zh (hy.fracs hwf);clear hk k2 ha hw hy CD;go_wp2_with fail;refine((CR _ (K2.out.alloc _)).out).mono ?_;rintro e w3 ⟨rfl,hk⟩;have Bb10:Blk w3 (w2.heap.size) #[.int .i64 0,.int .i64 0]:=Blk.keep kb hk;have k3:Keep NoS w2 w3:=Keep.trans kp hk fun _ _ _ h=>h
 have K3:=zh (K2.out.both k3);have Hb10:=zh Bb10;have HY:=zh (HY.out.keep k3);clear hk Bb10 k3 CR;generalize w2.heap.size=b10 at *;have ka:Keep NoS w3 (w3.alloc (.cells #[.int .i64 0,.int .i64 0] 28)):=(Keep.refl _ _).alloc _;have Hb11:Hid (Blk (w3.alloc (.cells #[.int .i64 0,.int .i64 0] 28)) w3.heap.size #[.int .i64 0,.int .i64 0]):=zh (blk_at _ _ rfl);have Hb10:=zh (Hb10.out.keep ka);have K4:=zh (K3.out.both ka);have HY:=zh (HY.out.keep ka);go_upto_region 6 with fail
 clear ka;generalize w3.alloc (.cells #[.int .i64 0,.int .i64 0] 28)=w4 at *;generalize w3.heap.size=b11 at *;obtain⟨p0,p1,_,_,pl⟩:=Hb10.out.two;obtain⟨q0,q1,_,_,ql⟩:=Hb11.out.two;have CTY:=CT _ _ K4.out HY.out;clear CT;go_wp2_with fail;refine CTY.out.mono ?_;rintro e w5 ⟨rfl,hk5⟩;have K5:=zh (K4.out.both hk5);have HY:=zh (HY.out.keep hk5);clear CTY p0 p1 pl q0 q1 ql hk5;have ka:Keep NoS w5 (w5.alloc (.cells #[.int .i64 0,.int .i64 0] 28)):=(Keep.refl _ _).alloc _;have Hb13:Hid (Blk (w5.alloc (.cells #[.int .i64 0,.int .i64 0] 28)) w5.heap.size #[.int .i64 0,.int .i64 0]):=zh (blk_at _ _ rfl);have K6:=zh (K5.out.both ka);have HY:=zh (HY.out.keep ka);go_upto_region 10 with fail
 clear ka;generalize w5.alloc (.cells #[.int .i64 0,.int .i64 0] 28)=w6 at *;generalize w5.heap.size=b13 at *;obtain⟨p0,p1,_,_,pl⟩:=Hb13.out.two;have CLY:=CL _ _ K6.out HY.out;clear CL;go_wp2_with fail;refine CLY.out.mono ?_;rintro e w7 ⟨rfl,hk7⟩;have K7:=zh (K6.out.both hk7);clear CLY p0 p1 pl hk7;go_wp2;go_ret;exact⟨rfl,K7.out⟩
theorem ltrue_y (w:World)(oa:Option Addr)(m ca:Nat)(n:Int)(N M:Nat)(a:List Int)(ways:List (List Int))
  (CD:∀w',Keep NoS w w'→Hid (Calls Tryz.prog 6 #[.slice oa m ca,.int .i64 n] w' fun e w''=>∃va vw vy,e= .returned (.tuple #[.bool true,va,vw,vy,.agg #[.int .i64 0,.int .i64 0]])∧OwnI w'' w'.heap.size va a∧OwnW w'' w'.heap.size vw ways∧OwnF w'' w'.heap.size vy []∧Keep NoS w' w''))
  (CR:∀w',Keep NoS w w'→Hid (Calls Tryz.prog 7 #[.slice oa m ca,.int .i64 n] w' fun e w''=>e= .returned (.agg #[.int .i64 0,.int .i64 0])∧Keep NoS w' w''))
  (hnN:n=(N:Int)) (hN:N≤12) (hal:a.length=N) (hML:ways.length=M) (hwl:M≤N) (haf:∀x∈a,fitI x) (hww:∀u∈ways,u.length=N∧∀x∈u,fitI x)
  (CA:∀w' u,Keep NoS w w'→IsFracs w' u (wpF a N)→Hid (Calls Tryz.prog 13 #[.slice oa m ca,u] w' fun e w''=>e= .returned (.bool true)∧Keep NoS w' w''))
  (CB:∀k w' u,k<ways.length→Keep NoS w w'→wpB (sumL a (ways.getD k []) N) N=true→IsFracs w' u (wpF (sumL a (ways.getD k []) N) N)→Hid (Calls Tryz.prog 13 #[.slice oa m ca,u] w' fun e w''=>e= .returned (.bool true)∧Keep NoS w' w'')):
  Calls Tryz.prog 3 #[.slice oa m ca,.int .i64 n] w fun e w'=>e= .returned (.bool true)∧Keep NoS w w':=by
 subst hnN;go_enter Tryz.func3,Tryz.ntmps3;go_wp2_with fail;refine(latticeFact_any _).mono ?_;rintro e w1 ⟨rfl,hk⟩;have K1:Hid (Keep NoS w w1):=zh (Keep.both kp hk);clear hk;go_wp2_with fail;refine((CD _ K1.out).out).mono ?_;rintro e w2 ⟨va,vw,vy,rfl,ha,hw,hy,hk⟩;have k2:Keep NoS w1 w2:=Keep.trans kp hk fun _ _ _ h=>h
 have K2:=zh (K1.out.both k2);obtain⟨oA,cA,rfl⟩:=ha.len;obtain⟨oW,cW,rfl,_,_⟩:=hw.len;obtain⟨oY,cY,rfl,_,_⟩:=hy.len;have HA:=zh (ha.ints fun x hx=>fit_i64 (haf x hx))
 have HW:=zh (hw.ways fun u hu x hx=>fit_i64 ((hww u hu).2 x hx))
 clear hk k2 ha hw hy CD;go_wp2_with fail;refine((CR _ (K2.out.alloc _)).out).mono ?_;rintro e w3 ⟨rfl,hk⟩;have Bb10:Blk w3 (w2.heap.size) #[.int .i64 0,.int .i64 0]:=Blk.keep kb hk;have k3:Keep NoS w2 w3:=Keep.trans kp hk fun _ _ _ h=>h
 have K3:=zh (K2.out.both k3);have Hb10:=zh Bb10;have HA:=zh (HA.out.keep k3);have HW:=zh (HW.out.keep k3);clear hk Bb10 k3 CR;generalize w2.heap.size=b10 at *;have ka:Keep NoS w3 (w3.alloc (.cells #[.int .i64 0,.int .i64 0] 28)):=(Keep.refl _ _).alloc _;have Hb11:Hid (Blk (w3.alloc (.cells #[.int .i64 0,.int .i64 0] 28)) w3.heap.size #[.int .i64 0,.int .i64 0]):=zh (blk_at _ _ rfl);have Hb10:=zh (Hb10.out.keep ka);have K4:=zh (K3.out.both ka);have HA:=zh (HA.out.keep ka);have HW:=zh (HW.out.keep ka);go_upto_region 6 with fail
 clear ka;generalize w3.alloc (.cells #[.int .i64 0,.int .i64 0] 28)=w4 at *;generalize w3.heap.size=b11 at *;obtain⟨p0,p1,_,_,pl⟩:=Hb10.out.two;obtain⟨q0,q1,_,_,ql⟩:=Hb11.out.two;have CS:=zh (shapes_yes w4 N _ _ a ways HA.out HW.out hN hal (by omega) haf hww)
 have HAF:=zh haf;have HWW:=zh hww;have HML:=zh hML;have HAL:=zh hal;have CWP:=zh fun w' (k:Keep NoS w4 w')=>wholePoint_any w' _ a (HA.out.keep k) (by omega)
 have hwb:wpB a a.length=true:=by
  unfold wpB;rw [List.take_length,List.all_eq_true];exact fun x hx=>decide_eq_true (haf x hx)
 rw [hwb]at CWP;rw [if_pos rfl]at CWP;rw [hal]at CWP HA CS;rw [hML]at HW CS
 try rw [hal]
 try rw [hML]
 clear haf hww hML hal hwb;go_wp2_with fail;refine CS.out.mono ?_;rintro e w5 ⟨rfl,hk5⟩;have K5:=zh hk5;clear CS p0 p1 pl q0 q1 ql hk5;go_wp2_with fail;refine(CWP.out w5 K5.out).mono ?_;rintro e w6 ⟨u,rfl,hu,hk6⟩;obtain⟨ou,cu,hue,_,_⟩:=hu.len;rw [wpF_len (by rw [HAL.out];exact Nat.le_refl _)]at hue
 subst hue;have CAY:=CA w6 _ (K4.out.both (K5.out.both hk6)) hu;have K6:=zh (K5.out.both hk6);clear CA CWP hk6 hu K5;go_wp2_with fail;refine CAY.out.mono ?_;rintro e w7 ⟨rfl,hk7⟩;have K7:=zh (K6.out.both hk7);have HA:=zh (HA.out.keep K7.out);have HW:=zh (HW.out.keep K7.out);have KB:=zh (K4.out.both K7.out);clear CAY hk7 K6 K7 K4 Hb10 Hb11;go_wp2;go_loopw [16] (fun s wr=>∃k:Nat,k≤M∧s= .int .i64 k∧Keep NoS w7 wr) (fun s _=>(M-intOf s).toNat)
 case atStart=>exact⟨0,by omega,rfl,Keep.refl _ _⟩
 case round=>
  obtain⟨k,hk,rfl,hkr⟩:=hrel;have HKR:=zh hkr;clear hkr
  by_cases hkl:k<M
  case neg=>
   have hlt:¬(k:Int)<(M:Int):=by omega
   go_wp2;go_ret;exact⟨rfl,KB.out.both HKR.out⟩
  case pos=>
   have hlt:(k:Int)<(M:Int):=by omega
   have hkw:k<ways.length:=by rw [HML.out];exact hkl
   obtain⟨bw,rw',cpw,sv,hv,hbw,pw,hsv⟩:=HW.out.at hkw
   injection hv with q1 q2 q3
   clear q2;subst q1;subst q3;obtain⟨hul,huf⟩:=HWW.out _ (List.getElem_mem hkw);have CBK:=zh fun w' u=>CB k w' u hkw
   have hgd:ways.getD k []=ways[k]:=by rw [List.getD_eq_getElem?_getD,List.getElem?_eq_getElem hkw];rfl
   rw [hgd]at CBK;generalize ways[k]=u at *;obtain⟨ou',cu',rfl,_⟩:=hsv.len;have HU:=zh hsv;have HUF:=zh huf;have HUL:=zh hul;rw [hul]at pw HU;have PW:=zh pw;have HBW:=zh hbw;clear huf hul hsv pw hbw hkw hgd;obtain⟨wk,hwk⟩:∃W:World,W=wr:=⟨_,rfl⟩;subst hwk;go_wp2;go_loopw [17,18] (fun s x wr=>∃j:Nat,j≤N∧x= .int .i64 j∧Keep NoS wk wr∧OwnI wr wk.heap.size s (sumL a u j)) (fun _ x _=>(N-intOf x).toNat)
   case atStart=>exact⟨0,by omega,rfl,Keep.refl _ _,OwnI.nil _ _⟩
   case round=>
    obtain⟨j,hj,rfl,hkr,hou⟩:=hrel;have KX:=zh hkr;have HOU:=zh hou;have hlj:(sumL a u j).length=j:=sumL_len _ _ _;obtain⟨ov,cv,hu⟩:=hou.len;rw [hlj]at hu;subst hu;clear hkr hou
    by_cases hjl:j<N
    case neg=>
     have hltj:¬(j:Int)<(N:Int):=by omega
     obtain rfl:j=N:=by omega
     have HIS:=zh (HOU.out.ints (sumL_i64 HAF.out HUF.out));have CWP:=zh (wholePoint_any wr _ (sumL a u j) HIS.out (by rw [hlj];omega))
     rw [hlj]at CWP;have CBK:=zh fun w' (k':Keep NoS wr w') u'=>CBK.out w' u' ((KB.out.both (HKR.out.both KX.out)).both k')
     generalize wpB (sumL a u j) j=bb at *;generalize wpF (sumL a u j) j=L at *;clear HOU;go_wp2_with fail;refine CWP.out.mono ?_;rintro e w8 ⟨p,rfl,hp,hk8⟩;have K8:=zh (KX.out.both hk8)
     cases bb
     case false=>
      clear CWP CBK hp hk8;go_wp2;go_roundw
      case rel=>exact⟨k+1,by omega,by go_num,HKR.out.both K8.out⟩
      case measure=>simp [intOf];omega
     case true=>
      rw [if_pos rfl]at hp;have CBY:=CBK.out w8 hk8 p rfl hp;clear CWP CBK hp hk8;go_wp2_with fail;refine CBY.out.mono ?_;rintro e w9 ⟨rfl,hk9⟩;have K9:=zh (K8.out.both hk9);clear CBY hk9;go_wp2;go_roundw
      case rel=>exact⟨k+1,by omega,by go_num,HKR.out.both K9.out⟩
      case measure=>simp [intOf];omega
    case pos=>
     have hltj:(j:Int)<(N:Int):=by omega
     have hja:j<a.length:=by rw [HAL.out];exact hjl
     have hju:j<u.length:=by rw [HUL.out];exact hjl
     obtain⟨ba,ra,cpa,hv,hba,pa⟩:=HA.out.at hja
     injection hv with q1 q2 q3
     clear q2;subst q1;subst q3;obtain⟨bu,ru,cpu,hv,hbu,pu⟩:=HU.out.at hju
     injection hv with q1 q2 q3
     clear q2;subst q1;subst q3;have HSS:=zh (sumL_succ a u j);have hga:a.getD j 0=a[j]:=by rw [List.getD_eq_getElem?_getD,List.getElem?_eq_getElem hja];rfl
     have hgu:u.getD j 0=u[j]:=by rw [List.getD_eq_getElem?_getD,List.getElem?_eq_getElem hju];rfl
     rw [hga,hgu]at HSS;have hfa:=HAF.out _ (List.getElem_mem hja);have hfu:=HUF.out _ (List.getElem_mem hju);have kk:=HKR.out.both KX.out;have pa:=(kk.cell hba).trans pa;have pu:=(kk.cell hbu).trans pu;have pw:=(kk.cell HBW.out).trans PW.out;have hba:=Nat.lt_of_lt_of_le hba kk.size;have hbu:=Nat.lt_of_lt_of_le hbu kk.size;have hbw:=Nat.lt_of_lt_of_le HBW.out kk.size;clear kk hga hgu;generalize a[j]=x at *;generalize u[j]=y at *;unfold fitI at hfa hfu;have hww:IntKind.i64.wrap (x+y)=x+y:=Go.IntWalk.i64_in _ (by omega)
     have HI:Hid (I64 (x+y)):=zh (by unfold I64;omega)
     have HLJ:=zh hlj;clear hfa hfu hja hju hlj;obtain⟨w8,hw8⟩:∃W:World,W=wr:=⟨_,rfl⟩;subst hw8;go_wp2;refine wp_region_by (fun w'=>Keep NoS w8 w') [14,15] [([0,1,2,3,4,5,6,7,8,9,10,11,12],13),([],14)] [15] (by kernel_rfl) (by kernel_rfl) kp ?_
     intro X W hne hF hcl;have HCL:=zh hcl;have hx0:=fun x=>((hF x).cell hba).trans pa
     have hx1:=fun x=>((hF x).cell hbu).trans pu
     have hx2:=fun x=>((hF x).cell hbw).trans pw
     clear hF hcl;simp only [wpPlan,pickOps,zl0,zl1,zl2,clsOf,Bool.false_eq_true,if_false]
     (repeat(quiet_step (fail)));refine wpQuiet_nil ?_
     refine wpAt rfl rfl fun K hK=> ?_
     go_simp;have k4:Keep NoS w8 ((w8.alloc (.cells #[.int .i64 (x+y)] TI)).drew):=kp;refine hK _ _ ⟨fun _=>HCL.out _ k4,?_⟩
     have HSM:Hid (IsInts ((w8.alloc (.cells #[.int .i64 (x+y)] TI)).drew) (.slice (some ⟨w8.heap.size,0,none⟩) 1 1) [x+y]):=zh ((one_int w8 (x+y) HI.out).keep (Keep.refl NoS _).drew);have HOU4:=zh (HOU.out.keep k4);have K9:=zh (KX.out.both k4);clear hK K k4;generalize (w8.alloc (.cells #[.int .i64 (x+y)] TI)).drew=w9 at *;generalize w8.heap.size=g9 at*
     (repeat(quiet_step (fail)));refine wpQuiet_nil ?_
     refine wpAt rfl rfl fun K hK=> ?_
     obtain⟨v5,wA,hr5,ho5,hg5⟩:=app_ints HOU4.out HSM.out (by rw [HLJ.out];simp;omega) K9.out.size
     have K10:=zh (K9.out.grown hg5 fun k hk=>HOU4.out.block k hk)
     rw [← HSS.out]at ho5;have HO5:=zh ho5;obtain⟨ob',cb',hu'⟩:=ho5.len;rw [sumL_len]at hu';subst hu';refine wp_app_run _ _ 24 _ _ rfl rfl rfl hr5 ?_;refine hK _ _ ⟨fun h=>(by simp at h),?_⟩
     clear hK K hr5 ho5 hg5 hx0 hx1 hx2;simp only [Act.put,List.setIfInBounds_toArray,List.set_cons_zero,List.set_cons_succ]
     (repeat(quiet_step (fail)));refine wpQuiet_nil ?_
     refine NoPanic.normal ?_;go_wp2;go_roundw
     case rel=>exact⟨j+1,by omega,by go_num,K10.out,HO5.out⟩
     case measure=>simp [intOf];omega
theorem latticeTrue_walk (w:World)(v:Value)(rows:List Rw)(n:Int)(h:IsRows w v rows)(hn:I64 n):
  Calls Tryz.prog 3 #[v,.int .i64 n] w fun e w'=>e= .returned (.bool true)∧Below w.heap.size w w':=by
 suffices hk:Calls Tryz.prog 3 #[v,.int .i64 n] w fun e w'=>e= .returned (.bool true)∧Keep NoS w w' from hk.mono fun e w' ⟨h1,h2⟩=>⟨h1,h2.below (Nat.le_refl _) fun _ _ h=>h.elim⟩
 have CD:=fun w' (k:Keep NoS w w')=>zh (ltDo_all w' v rows n (h.keep k) hn)
 have CR:=fun w' (k:Keep NoS w w')=>zh (refEq_any w' v rows n (h.keep k) hn)
 have CA:=fun(xs:List Int) w' u (k:Keep NoS w w') (hp:IsFracs w' u (wpF xs xs.length))=>zh (allHold_any w' v rows u (wpF xs xs.length) (h.keep k) hp)
 have CT:=fun(ts:List Fq) w' u (k:Keep NoS w w') (hp:IsFracs w' u ts)=>zh (latTake_any w' v rows n u ts (h.keep k) hn hp)
 have CL:=fun(N:Nat) (tm:List Fq) hok h40 hN hlen hfr w' vn (k:Keep NoS w w') (hp:IsFracs w' vn tm)=>zh (refLT_any w' v rows N vn tm (h.keep k) hp hok h40 hN hlen hfr)
 obtain⟨oa,ca,rfl,_,_⟩:=h.len;unfold fV at CD CR CT
 cases hy:(ltR rows n).yes with
 | true=>
  obtain⟨N,rfl,h12,h40,hok,h3,h0,S,hT⟩:=told_of hy;have hE:ltE rows (N:Int)=(0,0)∧eqF rows (N:Int)=(0,0):=by
   rcases ltR_cases rows (N:Int)with⟨h1,h2,_⟩ | ⟨h1,_,_,_,_,_,_,_,h7,_⟩
   ·rw [h2]at h0;exact absurd h0 h1
   ·refine ⟨?_,h1⟩
    rw [h7]at h0 ⊢;have h0:mcode (ltR rows (N:Int)).much=0:=h0;rw [h0]
  rw [hE.1,hy,hT.no]at CD;rw [hE.2]at CR;refine ltrue_y w oa _ ca N N _ (ltR rows (N:Int)).at_ (ltR rows (N:Int)).ways CD CR rfl h12 hT.al rfl (by rw [hT.wl];omega) hT.af hT.ww (fun w' u k hp=> ?_) (fun k w' u hk k' hb hp=> ?_)
  ·have:=CA (ltR rows (N:Int)).at_ w' u k (by rw [hT.al];exact hp)
   rwa [(whole_holds hok h3 hT.al hT.af).2 hT.solves]at this
  ·have hsl:(sumL (ltR rows (N:Int)).at_ ((ltR rows (N:Int)).ways.getD k []) N).length=N:=sumL_len _ _ _
   have:=CA (sumL (ltR rows (N:Int)).at_ ((ltR rows (N:Int)).ways.getD k []) N) w' u k' (by rw [hsl];exact hp)
   rwa [(whole_holds hok h3 hsl (fun x hx=>by
    unfold wpB at hb;rw [List.take_of_length_le (by rw [hsl];exact Nat.le_refl _)]at hb
    exact of_decide_eq_true (List.all_eq_true.1 hb x hx))).2 (hT.way hk fun j hj=>sumL_get hj)]at this
 | false=>
  rcases ltR_cases rows n with⟨h1,h2,h3⟩ | ⟨h1,N,rfl,h2,h3,h4,h5,h6,h7,⟨W,hW,hN⟩ | ⟨S,hS,hI⟩⟩
  ·rw [h2,h3]at CD
   exact ltrue_a w oa _ ca n _ _ CD CR h1
  ·rw [h7,hW]at CD
   rw [h1]at CR
   cases hm:(noR W).much with
   | true=>
    have e:noR W=⟨false,[],[],[],true⟩:=by
     unfold noR at hm ⊢
     split at hm
     ·cases hm
     ·rename_i hx
      rw [if_neg hx];rfl
    rw [e]at CD;exact ltrue_c w oa _ ca N CD CR
   | false=>
    obtain⟨hf,e⟩:=noR_not hm;rw [e]at CD;obtain⟨t1,t2⟩:=no_taken (by rw [h1]) hN hf
    have CT:=CT (W.map fqOf);rw [t1,t2]at CT;have hfo:∀g∈W.map fqOf,FracOK g.N g.D:=fun g hg=>by
     obtain⟨q,hq,rfl⟩:=List.mem_map.1 hg;exact fqOf_okL (hf q hq)
    have hl:(W.map fqOf).length=rows.length:=by rw [List.length_map];exact hN.len
    have CL:=CL N (W.map fqOf) h4 h3 h2 hl hfo;have t3:lt1 rows ((W.map fqOf).map Fq.q) N=true:=by
     unfold ltB at t2;rw [t1,if_pos rfl,Int.toNat_natCast]at t2;exact t2
    rw [t3]at CL;exact ltrue_n w oa _ ca N (W.map fqOf) CD CR hl (fun g hg=>by
     obtain⟨q,_,rfl⟩:=List.mem_map.1 hg;exact fqOf_i64 q) (fun w' vy k hp=>CT w' vy k hp) (fun w' vy k hp=>CL w' vy k hp)
  ·rw [h7,hS]at CD
   rw [h1]at CR;have hy':(yesR S N rows.length).yes=false:=by rw [← hS];exact hy
   have e:yesR S N rows.length=⟨false,[],[],[],true⟩:=by
    unfold yesR at hy' ⊢
    split at hy'
    ·split at hy'
     ·cases hy'
     ·rename_i a b
      rw [if_pos a,if_neg b];rfl
    ·rename_i a
     rw [if_neg a];rfl
   rw [e]at CD;exact ltrue_c w oa _ ca N CD CR
end Go.Proofs.YtcnjcnjipddgeaaGreat
