/- The law CutFaults: its walk. -/
import Derived.Test.YtaiffmebphhdaaaGreatCuDD
import Derived.Test.YtaiffmebphhdaaaGreatCuDD
namespace Go.Proofs.YtaiffmebphhdaaaGreat
set_option maxRecDepth 100000
set_option maxHeartbeats 16000000
set_option linter.unusedSimpArgs false
set_option linter.unusedVariables false
open Go.ChangeShapes Go.WideShapes Go.RowKit
theorem refFlt_any (w:World)(c a:Int):Calls Tryz.prog 11 #[.int .i64 c,.int .i64 a] w fun e w'=>e= .returned (.agg #[.int .i64 c,.int .i64 a])∧Keep NoS w w':=by
 go_enter Tryz.func11,Tryz.ntmps11;go_wp2;go_returns;exact⟨rfl,kp⟩
theorem faults_a (w:World)(oa oi:Option Addr)(m ca n ci:Nat)(fuel:Int)(c1 c2:Int)(hc:c1≠0)
  (CD:∀w',Keep NoS w w'→Hid (Calls Tryz.prog 9 #[.slice oa m ca,.slice oi n ci,.int .i64 fuel] w' fun e w''=>∃u t,e= .returned (.tuple #[.int .i64 0,u,t,.agg #[.int .i64 c1,.int .i64 c2]])∧IsFracs w'' u []∧IsStp w'' t []∧Keep NoS w' w''))
  (CR:∀w',Keep NoS w w'→Hid (Calls Tryz.prog 10 #[.slice oa m ca,.int .i64 (n:Int)] w' fun e w''=>e= .returned (.agg #[.int .i64 c1,.int .i64 c2])∧Keep NoS w' w'')):
  Calls Tryz.prog 3 #[.slice oa m ca,.slice oi n ci,.int .i64 fuel] w fun e w'=>e= .returned (.bool true)∧Keep NoS w w':=by
 have e1:(c1==0)=false:=by rw [beq_eq_false_iff_ne];exact hc
 have e2:(c1 != 0)=true:=by rw [bne_iff_ne];exact hc
 go_enter Tryz.func3,Tryz.ntmps3;go_wp2_with fail;refine(cutFact_any _).mono ?_;rintro e w1 ⟨rfl,hk⟩;have K1:Hid (Keep NoS w w1):=zh (Keep.both kp hk);clear hk;go_wp2_with fail;refine((CD _ K1.out).out).mono ?_;rintro e w2 ⟨u,t,rfl,hu,ht,hk⟩;have k2:Keep NoS w1 w2:=Keep.trans kp hk fun _ _ _ h=>h
 have K2:=zh (K1.out.both k2);obtain⟨ou,cu,rfl,_,_⟩:=hu.len;obtain⟨ot,ct,rfl⟩:=ht.len;clear hk k2 hu ht CD;go_wp2_with fail;refine((CR _ (K2.out.alloc _)).out).mono ?_;rintro e w3 ⟨rfl,hk⟩;have Bb11:Blk w3 (w2.heap.size) #[.int .i64 c1,.int .i64 c2]:=Blk.keep kb hk;have k3:Keep NoS w2 w3:=Keep.trans kp hk fun _ _ _ h=>h
 have K3:=zh (K2.out.both k3);have Hb11:=zh Bb11;clear hk Bb11 k3 CR;generalize w2.heap.size=b11 at *;have B11x:=Hb11;have ka:Keep NoS w3 (w3.alloc (.cells #[.int .i64 c1,.int .i64 c2] 28)):=(Keep.refl _ _).alloc _;have Hb12:Hid (Blk (w3.alloc (.cells #[.int .i64 c1,.int .i64 c2] 28)) w3.heap.size #[.int .i64 c1,.int .i64 c2]):=zh (blk_at _ _ rfl);have Hb11:=zh (Hb11.out.keep ka);have K4:=zh (K3.out.both ka);have HS12:Hid (w.heap.size≤w3.heap.size):=zh K3.out.size;have HNE:Hid (b11≠w3.heap.size):=zh (by have:=Hb11.out.lt;have:=K3.out.size;have h2:=Blk.lt B11x.out;omega)
 go_upto_region 6 with fail
 clear ka;generalize w3.alloc (.cells #[.int .i64 c1,.int .i64 c2] 28)=w4 at *;generalize w3.heap.size=b12 at *;obtain⟨p0,p1,_,_,pl⟩:=Hb11.out.two;obtain⟨q0,q1,q2,q3,ql⟩:=Hb12.out.two;go_upto_region 9 with fail
 go_quiet (fail);go_wp2;go_ret;exact⟨rfl,K4.out.drewN _⟩
theorem faults_b1 (w:World)(oa oi:Option Addr)(m ca n ci:Nat)(fuel:Int)  (h1:fuel<0)
  (CD:∀w',Keep NoS w w'→Hid (Calls Tryz.prog 9 #[.slice oa m ca,.slice oi n ci,.int .i64 fuel] w' fun e w''=>∃u t,e= .returned (.tuple #[.int .i64 0,u,t,.agg #[.int .i64 3,.int .i64 (-1)]])∧IsFracs w'' u []∧IsStp w'' t []∧Keep NoS w' w''))
  (CR:∀w',Keep NoS w w'→Hid (Calls Tryz.prog 10 #[.slice oa m ca,.int .i64 (n:Int)] w' fun e w''=>e= .returned (.agg #[.int .i64 0,.int .i64 0])∧Keep NoS w' w'')):
  Calls Tryz.prog 3 #[.slice oa m ca,.slice oi n ci,.int .i64 fuel] w fun e w'=>e= .returned (.bool true)∧Keep NoS w w':=by
 go_enter Tryz.func3,Tryz.ntmps3;go_wp2_with fail;refine(cutFact_any _).mono ?_;rintro e w1 ⟨rfl,hk⟩;have K1:Hid (Keep NoS w w1):=zh (Keep.both kp hk);clear hk;go_wp2_with fail;refine((CD _ K1.out).out).mono ?_;rintro e w2 ⟨u,t,rfl,hu,ht,hk⟩;have k2:Keep NoS w1 w2:=Keep.trans kp hk fun _ _ _ h=>h
 have K2:=zh (K1.out.both k2);obtain⟨ou,cu,rfl,_,_⟩:=hu.len;obtain⟨ot,ct,rfl⟩:=ht.len;clear hk k2 hu ht CD;go_wp2_with fail;refine((CR _ (K2.out.alloc _)).out).mono ?_;rintro e w3 ⟨rfl,hk⟩;have Bb11:Blk w3 (w2.heap.size) #[.int .i64 3,.int .i64 (-1)]:=Blk.keep kb hk;have k3:Keep NoS w2 w3:=Keep.trans kp hk fun _ _ _ h=>h
 have K3:=zh (K2.out.both k3);have Hb11:=zh Bb11;clear hk Bb11 k3 CR;generalize w2.heap.size=b11 at *;have B11x:=Hb11;have ka:Keep NoS w3 (w3.alloc (.cells #[.int .i64 0,.int .i64 0] 28)):=(Keep.refl _ _).alloc _;have Hb12:Hid (Blk (w3.alloc (.cells #[.int .i64 0,.int .i64 0] 28)) w3.heap.size #[.int .i64 0,.int .i64 0]):=zh (blk_at _ _ rfl);have Hb11:=zh (Hb11.out.keep ka);have K4:=zh (K3.out.both ka);have HS12:Hid (w.heap.size≤w3.heap.size):=zh K3.out.size;have HNE:Hid (b11≠w3.heap.size):=zh (by have:=Hb11.out.lt;have:=K3.out.size;have h2:=Blk.lt B11x.out;omega)
 go_upto_region 6 with fail
 clear ka;generalize w3.alloc (.cells #[.int .i64 0,.int .i64 0] 28)=w4 at *;generalize w3.heap.size=b12 at *;obtain⟨p0,p1,_,_,pl⟩:=Hb11.out.two;obtain⟨q0,q1,q2,q3,ql⟩:=Hb12.out.two;go_wp2_with fail;refine(refFlt_any _ 3 (-1)).mono ?_;rintro e w5 ⟨rfl,hk5⟩;clear p0 p1 pl q0 q1 q2 q3 ql;have Hb11:=zh (Hb11.out.keep hk5);have Hb12:=zh (Hb12.out.keep hk5);obtain⟨q0,q1,q2,q3,ql⟩:=Hb12.out.two;have K5:=zh (K4.out.both hk5);go_upto_region 8 with fail
 have Hb11:=zh ((Hb11.out.setOther 0 (.int .i64 3) HNE.out).setOther 1 (.int .i64 (-1)) HNE.out);have Hb12:=zh (Hb12.out.set2 (.int .i64 3) (.int .i64 (-1)));have K6:=zh (keep_set2 K5.out HS12.out (.int .i64 3) (.int .i64 (-1)));clear q0 q1 q2 q3 ql hk5;generalize (w5.setCell ⟨b12,0,none⟩ (.int .i64 3)).setCell ⟨b12,1,none⟩ (.int .i64 (-1))=w6 at *;obtain⟨p0,p1,_,_,pl⟩:=Hb11.out.two;obtain⟨q0,q1,_,_,ql⟩:=Hb12.out.two;go_upto_region 9 with fail
 go_quiet (fail);go_wp2;go_ret;exact⟨rfl,K6.out.drewN _⟩
theorem faults_b2 (w:World)(oa oi:Option Addr)(m ca n ci:Nat)(fuel:Int)  (h0:¬fuel<0) (h1:2000<fuel)
  (CD:∀w',Keep NoS w w'→Hid (Calls Tryz.prog 9 #[.slice oa m ca,.slice oi n ci,.int .i64 fuel] w' fun e w''=>∃u t,e= .returned (.tuple #[.int .i64 0,u,t,.agg #[.int .i64 3,.int .i64 (-1)]])∧IsFracs w'' u []∧IsStp w'' t []∧Keep NoS w' w''))
  (CR:∀w',Keep NoS w w'→Hid (Calls Tryz.prog 10 #[.slice oa m ca,.int .i64 (n:Int)] w' fun e w''=>e= .returned (.agg #[.int .i64 0,.int .i64 0])∧Keep NoS w' w'')):
  Calls Tryz.prog 3 #[.slice oa m ca,.slice oi n ci,.int .i64 fuel] w fun e w'=>e= .returned (.bool true)∧Keep NoS w w':=by
 go_enter Tryz.func3,Tryz.ntmps3;go_wp2_with fail;refine(cutFact_any _).mono ?_;rintro e w1 ⟨rfl,hk⟩;have K1:Hid (Keep NoS w w1):=zh (Keep.both kp hk);clear hk;go_wp2_with fail;refine((CD _ K1.out).out).mono ?_;rintro e w2 ⟨u,t,rfl,hu,ht,hk⟩;have k2:Keep NoS w1 w2:=Keep.trans kp hk fun _ _ _ h=>h
 have K2:=zh (K1.out.both k2);obtain⟨ou,cu,rfl,_,_⟩:=hu.len;obtain⟨ot,ct,rfl⟩:=ht.len;clear hk k2 hu ht CD;go_wp2_with fail;refine((CR _ (K2.out.alloc _)).out).mono ?_;rintro e w3 ⟨rfl,hk⟩;have Bb11:Blk w3 (w2.heap.size) #[.int .i64 3,.int .i64 (-1)]:=Blk.keep kb hk;have k3:Keep NoS w2 w3:=Keep.trans kp hk fun _ _ _ h=>h
 have K3:=zh (K2.out.both k3);have Hb11:=zh Bb11;clear hk Bb11 k3 CR;generalize w2.heap.size=b11 at *;have B11x:=Hb11;have ka:Keep NoS w3 (w3.alloc (.cells #[.int .i64 0,.int .i64 0] 28)):=(Keep.refl _ _).alloc _;have Hb12:Hid (Blk (w3.alloc (.cells #[.int .i64 0,.int .i64 0] 28)) w3.heap.size #[.int .i64 0,.int .i64 0]):=zh (blk_at _ _ rfl);have Hb11:=zh (Hb11.out.keep ka);have K4:=zh (K3.out.both ka);have HS12:Hid (w.heap.size≤w3.heap.size):=zh K3.out.size;have HNE:Hid (b11≠w3.heap.size):=zh (by have:=Hb11.out.lt;have:=K3.out.size;have h2:=Blk.lt B11x.out;omega)
 go_upto_region 6 with fail
 clear ka;generalize w3.alloc (.cells #[.int .i64 0,.int .i64 0] 28)=w4 at *;generalize w3.heap.size=b12 at *;obtain⟨p0,p1,_,_,pl⟩:=Hb11.out.two;obtain⟨q0,q1,q2,q3,ql⟩:=Hb12.out.two;go_wp2_with fail;refine(refFlt_any _ 3 (-1)).mono ?_;rintro e w5 ⟨rfl,hk5⟩;clear p0 p1 pl q0 q1 q2 q3 ql;have Hb11:=zh (Hb11.out.keep hk5);have Hb12:=zh (Hb12.out.keep hk5);obtain⟨q0,q1,q2,q3,ql⟩:=Hb12.out.two;have K5:=zh (K4.out.both hk5);go_upto_region 8 with fail
 have Hb11:=zh ((Hb11.out.setOther 0 (.int .i64 3) HNE.out).setOther 1 (.int .i64 (-1)) HNE.out);have Hb12:=zh (Hb12.out.set2 (.int .i64 3) (.int .i64 (-1)));have K6:=zh (keep_set2 K5.out HS12.out (.int .i64 3) (.int .i64 (-1)));clear q0 q1 q2 q3 ql hk5;generalize (w5.setCell ⟨b12,0,none⟩ (.int .i64 3)).setCell ⟨b12,1,none⟩ (.int .i64 (-1))=w6 at *;obtain⟨p0,p1,_,_,pl⟩:=Hb11.out.two;obtain⟨q0,q1,_,_,ql⟩:=Hb12.out.two;go_upto_region 9 with fail
 go_quiet (fail);go_wp2;go_ret;exact⟨rfl,K6.out.drewN _⟩
theorem faults_c (w:World)(oa oi:Option Addr)(m ca n ci:Nat)(fuel:Int)  (h0:¬fuel<0) (h1:¬2000<fuel)
  (CD:∀w',Keep NoS w w'→Hid (Calls Tryz.prog 9 #[.slice oa m ca,.slice oi n ci,.int .i64 fuel] w' fun e w''=>∃u t,e= .returned (.tuple #[.int .i64 0,u,t,.agg #[.int .i64 10,.int .i64 0]])∧IsFracs w'' u []∧IsStp w'' t []∧Keep NoS w' w''))
  (CR:∀w',Keep NoS w w'→Hid (Calls Tryz.prog 10 #[.slice oa m ca,.int .i64 (n:Int)] w' fun e w''=>e= .returned (.agg #[.int .i64 0,.int .i64 0])∧Keep NoS w' w'')):
  Calls Tryz.prog 3 #[.slice oa m ca,.slice oi n ci,.int .i64 fuel] w fun e w'=>e= .returned (.bool true)∧Keep NoS w w':=by
 go_enter Tryz.func3,Tryz.ntmps3;go_wp2_with fail;refine(cutFact_any _).mono ?_;rintro e w1 ⟨rfl,hk⟩;have K1:Hid (Keep NoS w w1):=zh (Keep.both kp hk);clear hk;go_wp2_with fail;refine((CD _ K1.out).out).mono ?_;rintro e w2 ⟨u,t,rfl,hu,ht,hk⟩;have k2:Keep NoS w1 w2:=Keep.trans kp hk fun _ _ _ h=>h
 have K2:=zh (K1.out.both k2);obtain⟨ou,cu,rfl,_,_⟩:=hu.len;obtain⟨ot,ct,rfl⟩:=ht.len;clear hk k2 hu ht CD;go_wp2_with fail;refine((CR _ (K2.out.alloc _)).out).mono ?_;rintro e w3 ⟨rfl,hk⟩;have Bb11:Blk w3 (w2.heap.size) #[.int .i64 10,.int .i64 0]:=Blk.keep kb hk;have k3:Keep NoS w2 w3:=Keep.trans kp hk fun _ _ _ h=>h
 have K3:=zh (K2.out.both k3);have Hb11:=zh Bb11;clear hk Bb11 k3 CR;generalize w2.heap.size=b11 at *;have B11x:=Hb11;have ka:Keep NoS w3 (w3.alloc (.cells #[.int .i64 0,.int .i64 0] 28)):=(Keep.refl _ _).alloc _;have Hb12:Hid (Blk (w3.alloc (.cells #[.int .i64 0,.int .i64 0] 28)) w3.heap.size #[.int .i64 0,.int .i64 0]):=zh (blk_at _ _ rfl);have Hb11:=zh (Hb11.out.keep ka);have K4:=zh (K3.out.both ka);have HS12:Hid (w.heap.size≤w3.heap.size):=zh K3.out.size;have HNE:Hid (b11≠w3.heap.size):=zh (by have:=Hb11.out.lt;have:=K3.out.size;have h2:=Blk.lt B11x.out;omega)
 go_upto_region 6 with fail
 clear ka;generalize w3.alloc (.cells #[.int .i64 0,.int .i64 0] 28)=w4 at *;generalize w3.heap.size=b12 at *;obtain⟨p0,p1,_,_,pl⟩:=Hb11.out.two;obtain⟨q0,q1,q2,q3,ql⟩:=Hb12.out.two;go_upto_region 9 with fail
 refine wp_region_by (fun w'=>Keep NoS w4 w') [] [([0,1,2,3,4,5,6,7,8],9)] [10,11,12,13,14,15,16,17,18,19,20,21,22,23,24,25] (by kernel_rfl) (by kernel_rfl) kp ?_
 intro X W hne hF hcls;have HCL:=zh hcls;have z1:=fun x=>(Hb11.out.keep (hF x)).two
 have z2:=fun x=>(Hb12.out.keep (hF x)).two
 clear hF hcls p0 p1 pl q0 q1 q2 q3 ql;simp only [wpPlan,pickOps,zl0,zl1,zl2,clsOf,Bool.false_eq_true,if_false]
 (repeat(go_big_quiet_step (fail)));refine wpQuiet_nil ?_
 refine wpWa rfl rfl fun K hK=> ?_
 go_simp;refine(refFlt_any _ 10 0).mono ?_;rintro e w5 ⟨rfl,hk5⟩;have k5:Keep NoS w4 w5:=Keep.trans kp hk5 fun _ _ _ h=>h
 refine hK _ _ ⟨fun _=>HCL.out _ k5,?_⟩
 clear hK hk5
 (repeat(go_big_quiet_step (fail)));refine wpQuiet_nil ?_
 refine NoPanic.normal ?_;go_wp2;go_ret;exact⟨rfl,K4.out.both k5⟩
theorem faults_d (w:World)(oa oi:Option Addr)(m ca n ci:Nat)(fuel:Int)  (h0:¬fuel<0) (h1:¬2000<fuel)
  (CD:∀w',Keep NoS w w'→Hid (Calls Tryz.prog 9 #[.slice oa m ca,.slice oi n ci,.int .i64 fuel] w' fun e w''=>∃u t,e= .returned (.tuple #[.int .i64 3,u,t,.agg #[.int .i64 0,.int .i64 0]])∧IsFracs w'' u []∧IsStp w'' t []∧Keep NoS w' w''))
  (CR:∀w',Keep NoS w w'→Hid (Calls Tryz.prog 10 #[.slice oa m ca,.int .i64 (n:Int)] w' fun e w''=>e= .returned (.agg #[.int .i64 0,.int .i64 0])∧Keep NoS w' w'')):
  Calls Tryz.prog 3 #[.slice oa m ca,.slice oi n ci,.int .i64 fuel] w fun e w'=>e= .returned (.bool true)∧Keep NoS w w':=by
 go_enter Tryz.func3,Tryz.ntmps3;go_wp2_with fail;refine(cutFact_any _).mono ?_;rintro e w1 ⟨rfl,hk⟩;have K1:Hid (Keep NoS w w1):=zh (Keep.both kp hk);clear hk;go_wp2_with fail;refine((CD _ K1.out).out).mono ?_;rintro e w2 ⟨u,t,rfl,hu,ht,hk⟩;have k2:Keep NoS w1 w2:=Keep.trans kp hk fun _ _ _ h=>h
 have K2:=zh (K1.out.both k2);obtain⟨ou,cu,rfl,_,_⟩:=hu.len;obtain⟨ot,ct,rfl⟩:=ht.len;clear hk k2 hu ht CD;go_wp2_with fail;refine((CR _ (K2.out.alloc _)).out).mono ?_;rintro e w3 ⟨rfl,hk⟩;have Bb11:Blk w3 (w2.heap.size) #[.int .i64 0,.int .i64 0]:=Blk.keep kb hk;have k3:Keep NoS w2 w3:=Keep.trans kp hk fun _ _ _ h=>h
 have K3:=zh (K2.out.both k3);have Hb11:=zh Bb11;clear hk Bb11 k3 CR;generalize w2.heap.size=b11 at *;have B11x:=Hb11;have ka:Keep NoS w3 (w3.alloc (.cells #[.int .i64 0,.int .i64 0] 28)):=(Keep.refl _ _).alloc _;have Hb12:Hid (Blk (w3.alloc (.cells #[.int .i64 0,.int .i64 0] 28)) w3.heap.size #[.int .i64 0,.int .i64 0]):=zh (blk_at _ _ rfl);have Hb11:=zh (Hb11.out.keep ka);have K4:=zh (K3.out.both ka);have HS12:Hid (w.heap.size≤w3.heap.size):=zh K3.out.size;have HNE:Hid (b11≠w3.heap.size):=zh (by have:=Hb11.out.lt;have:=K3.out.size;have h2:=Blk.lt B11x.out;omega)
 go_upto_region 6 with fail
 clear ka;generalize w3.alloc (.cells #[.int .i64 0,.int .i64 0] 28)=w4 at *;generalize w3.heap.size=b12 at *;obtain⟨p0,p1,_,_,pl⟩:=Hb11.out.two;obtain⟨q0,q1,q2,q3,ql⟩:=Hb12.out.two;go_wp2;go_ret;exact⟨rfl,K4.out⟩
theorem faults_e (w:World)(oa oi:Option Addr)(m ca n ci:Nat)(fuel:Int)(pt:List Fq)(h0:¬fuel<0)(h1:¬2000<fuel)(h2:pt.length=n)
  (CD:∀w',Keep NoS w w'→Hid (Calls Tryz.prog 9 #[.slice oa m ca,.slice oi n ci,.int .i64 fuel] w' fun e w''=>∃u t,e= .returned (.tuple #[.int .i64 1,u,t,.agg #[.int .i64 0,.int .i64 0]])∧IsFracs w'' u pt∧IsStp w'' t []∧Keep NoS w' w''))
  (CR:∀w',Keep NoS w w'→Hid (Calls Tryz.prog 10 #[.slice oa m ca,.int .i64 (n:Int)] w' fun e w''=>e= .returned (.agg #[.int .i64 0,.int .i64 0])∧Keep NoS w' w'')):
  Calls Tryz.prog 3 #[.slice oa m ca,.slice oi n ci,.int .i64 fuel] w fun e w'=>e= .returned (.bool true)∧Keep NoS w w':=by
 go_enter Tryz.func3,Tryz.ntmps3;go_wp2_with fail;refine(cutFact_any _).mono ?_;rintro e w1 ⟨rfl,hk⟩;have K1:Hid (Keep NoS w w1):=zh (Keep.both kp hk);clear hk;go_wp2_with fail;refine((CD _ K1.out).out).mono ?_;rintro e w2 ⟨u,t,rfl,hu,ht,hk⟩;have k2:Keep NoS w1 w2:=Keep.trans kp hk fun _ _ _ h=>h
 have K2:=zh (K1.out.both k2);obtain⟨ou,cu,rfl,_,_⟩:=hu.len;obtain⟨ot,ct,rfl⟩:=ht.len;clear hk k2 hu ht CD;go_wp2_with fail;refine((CR _ (K2.out.alloc _)).out).mono ?_;rintro e w3 ⟨rfl,hk⟩;have Bb11:Blk w3 (w2.heap.size) #[.int .i64 0,.int .i64 0]:=Blk.keep kb hk;have k3:Keep NoS w2 w3:=Keep.trans kp hk fun _ _ _ h=>h
 have K3:=zh (K2.out.both k3);have Hb11:=zh Bb11;clear hk Bb11 k3 CR;generalize w2.heap.size=b11 at *;have B11x:=Hb11;have ka:Keep NoS w3 (w3.alloc (.cells #[.int .i64 0,.int .i64 0] 28)):=(Keep.refl _ _).alloc _;have Hb12:Hid (Blk (w3.alloc (.cells #[.int .i64 0,.int .i64 0] 28)) w3.heap.size #[.int .i64 0,.int .i64 0]):=zh (blk_at _ _ rfl);have Hb11:=zh (Hb11.out.keep ka);have K4:=zh (K3.out.both ka);have HS12:Hid (w.heap.size≤w3.heap.size):=zh K3.out.size;have HNE:Hid (b11≠w3.heap.size):=zh (by have:=Hb11.out.lt;have:=K3.out.size;have h2:=Blk.lt B11x.out;omega)
 go_upto_region 6 with fail
 clear ka;generalize w3.alloc (.cells #[.int .i64 0,.int .i64 0] 28)=w4 at *;generalize w3.heap.size=b12 at *;obtain⟨p0,p1,_,_,pl⟩:=Hb11.out.two;obtain⟨q0,q1,q2,q3,ql⟩:=Hb12.out.two;go_wp2;go_ret;exact⟨rfl,K4.out⟩
theorem faults_f (w:World)(oa oi:Option Addr)(m ca n ci:Nat)(fuel:Int)(tm:List CStep)(h0:¬fuel<0)(h1:¬2000<fuel)(h2:0<tm.length)
  (CD:∀w',Keep NoS w w'→Hid (Calls Tryz.prog 9 #[.slice oa m ca,.slice oi n ci,.int .i64 fuel] w' fun e w''=>∃u t,e= .returned (.tuple #[.int .i64 2,u,t,.agg #[.int .i64 0,.int .i64 0]])∧IsFracs w'' u []∧IsStp w'' t tm∧Keep NoS w' w''))
  (CR:∀w',Keep NoS w w'→Hid (Calls Tryz.prog 10 #[.slice oa m ca,.int .i64 (n:Int)] w' fun e w''=>e= .returned (.agg #[.int .i64 0,.int .i64 0])∧Keep NoS w' w'')):
  Calls Tryz.prog 3 #[.slice oa m ca,.slice oi n ci,.int .i64 fuel] w fun e w'=>e= .returned (.bool true)∧Keep NoS w w':=by
 go_enter Tryz.func3,Tryz.ntmps3;go_wp2_with fail;refine(cutFact_any _).mono ?_;rintro e w1 ⟨rfl,hk⟩;have K1:Hid (Keep NoS w w1):=zh (Keep.both kp hk);clear hk;go_wp2_with fail;refine((CD _ K1.out).out).mono ?_;rintro e w2 ⟨u,t,rfl,hu,ht,hk⟩;have k2:Keep NoS w1 w2:=Keep.trans kp hk fun _ _ _ h=>h
 have K2:=zh (K1.out.both k2);obtain⟨ou,cu,rfl,_,_⟩:=hu.len;obtain⟨ot,ct,rfl⟩:=ht.len;clear hk k2 hu ht CD;go_wp2_with fail;refine((CR _ (K2.out.alloc _)).out).mono ?_;rintro e w3 ⟨rfl,hk⟩;have Bb11:Blk w3 (w2.heap.size) #[.int .i64 0,.int .i64 0]:=Blk.keep kb hk;have k3:Keep NoS w2 w3:=Keep.trans kp hk fun _ _ _ h=>h
 have K3:=zh (K2.out.both k3);have Hb11:=zh Bb11;clear hk Bb11 k3 CR;generalize w2.heap.size=b11 at *;have B11x:=Hb11;have ka:Keep NoS w3 (w3.alloc (.cells #[.int .i64 0,.int .i64 0] 28)):=(Keep.refl _ _).alloc _;have Hb12:Hid (Blk (w3.alloc (.cells #[.int .i64 0,.int .i64 0] 28)) w3.heap.size #[.int .i64 0,.int .i64 0]):=zh (blk_at _ _ rfl);have Hb11:=zh (Hb11.out.keep ka);have K4:=zh (K3.out.both ka);have HS12:Hid (w.heap.size≤w3.heap.size):=zh K3.out.size;have HNE:Hid (b11≠w3.heap.size):=zh (by have:=Hb11.out.lt;have:=K3.out.size;have h2:=Blk.lt B11x.out;omega)
 go_upto_region 6 with fail
 clear ka;generalize w3.alloc (.cells #[.int .i64 0,.int .i64 0] 28)=w4 at *;generalize w3.heap.size=b12 at *;obtain⟨p0,p1,_,_,pl⟩:=Hb11.out.two;obtain⟨q0,q1,q2,q3,ql⟩:=Hb12.out.two;go_wp2;go_ret;exact⟨rfl,K4.out⟩
theorem cutFaults_walk (w:World)(v:Value)(rows:List Rw)(vi:Value)(ints:List Bool)(fuel:Int)(h:IsRows w v rows)(hi:IsBools w vi ints)(hf:I64 fuel):
  Calls Tryz.prog 3 #[v,vi,.int .i64 fuel] w fun e w'=>e= .returned (.bool true)∧Below w.heap.size w w':=by
 suffices hk:Calls Tryz.prog 3 #[v,vi,.int .i64 fuel] w fun e w'=>e= .returned (.bool true)∧Keep NoS w w' from hk.mono fun e w' ⟨h1,h2⟩=>⟨h1,h2.below (Nat.le_refl _) fun _ _ h=>h.elim⟩
 have hn:I64 (ints.length:Int):=by
  obtain⟨_,_,_,h1,h2⟩:=hi.len;unfold maxLen at h2;unfold I64;omega
 have CD:=fun w' (k:Keep NoS w w')=>zh (cutDo_any w' v vi rows ints fuel (h.keep k) (hi.keep k) hf)
 have CR:=fun w' (k:Keep NoS w w')=>zh (refRows_any w' v rows ints.length (h.keep k) hn)
 obtain⟨oa,ca,rfl,_,_⟩:=h.len;obtain⟨oi,ci,rfl,_,_⟩:=hi.len;unfold DoP at CD;unfold fV at CD CR
 rcases doC_cases rows ints fuel with⟨h1,h2⟩ | ⟨h1,h2,h3⟩ | ⟨h1,⟨h2,h3⟩,h4 | h4 | ⟨pt,h4,h5,_⟩ | ⟨T,h4,h5,_⟩⟩
 ·rw [h2]at CD
  exact faults_a w oa oi _ ca _ ci fuel _ _ h1 CD CR
 ·rw [h3]at CD
  rw [h1]at CR
  by_cases h0:fuel<0
  ·exact faults_b1 w oa oi _ ca _ ci fuel h0 CD CR
  ·exact faults_b2 w oa oi _ ca _ ci fuel h0 (by omega) CD CR
 ·rw [h4]at CD
  rw [h1]at CR;exact faults_c w oa oi _ ca _ ci fuel (by omega) (by omega) CD CR
 ·rw [h4]at CD
  rw [h1]at CR;exact faults_d w oa oi _ ca _ ci fuel (by omega) (by omega) CD CR
 ·rw [h4]at CD
  rw [h1]at CR;exact faults_e w oa oi _ ca _ ci fuel (pt.map fqOf) (by omega) (by omega) (by rw [List.length_map];exact h5) CD CR
 ·rw [h4]at CD
  rw [h1]at CR;exact faults_f w oa oi _ ca _ ci fuel T (by omega) (by omega) (List.length_pos_iff.2 h5) CD CR
end Go.Proofs.YtaiffmebphhdaaaGreat
