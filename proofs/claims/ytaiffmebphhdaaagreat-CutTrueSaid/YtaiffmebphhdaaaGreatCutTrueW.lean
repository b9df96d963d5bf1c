/- The law CutTrue: its walk. -/
import Derived.Test.YtaiffmebphhdaaaGreatCutTrueL
import Derived.Test.YtaiffmebphhdaaaGreatCuDD
import Derived.Test.YtaiffmebphhdaaaGreatOwGG
import Derived.Test.YtaiffmebphhdaaaGreatCuDD
namespace Go.Proofs.YtaiffmebphhdaaaGreat
set_option maxRecDepth 100000
set_option maxHeartbeats 16000000
set_option linter.unusedSimpArgs false
set_option linter.unusedVariables false
open Go.ChangeShapes Go.WideShapes Go.RowKit
theorem Tw (w:World)(oa oi:Option Addr)(m ca N ci:Nat)(fuel:Int)(c1 c2:Int)(hc:c1≠0)
  (CD:∀w',Keep au w w'→Hid (Calls Tryz.prog 9 #[.slice oa m ca,.slice oi N ci,.int .i64 fuel] w' fun e w''=>∃u t,e= .returned (.tuple #[.int .i64 0,u,t,.agg #[.int .i64 c1,.int .i64 c2]])∧dh w'' u []∧iH w'' t []∧Keep au w' w'')):
  Calls Tryz.prog 4 #[.slice oa m ca,.slice oi N ci,.int .i64 fuel] w fun e w'=>e= .returned (.bool true)∧Keep au w w':=by
 go_enter Tryz.func4,Tryz.ntmps4;go_wp2_with fail;refine(qN _).mono ?_;rintro e w1 ⟨rfl,hk⟩;have K1:Hid (Keep au w w1):=zh (Keep.both kp hk);clear hk;go_wp2_with fail;refine((CD _ K1.out).out).mono ?_;rintro e w2 ⟨u,t,rfl,hu,ht,hk⟩;have k2:Keep au w1 w2:=Keep.trans kp hk fun _ _ _ h=>h;have K2:=zh (K1.out.both k2);obtain⟨ou,cu,rfl,_,_⟩:=hu.len;obtain⟨ot,ct,rfl⟩:=ht.len;have HU:=zh hu;have HT:=zh ht;clear hk k2 hu ht CD;have ka:Keep au w2 (w2.alloc (.cells #[.int .i64 c1,.int .i64 c2] 28)):=(Keep.refl _ _).alloc _;have K3:=zh (K2.out.both ka);have e2:(c1 != 0)=true:=by rw [bne_iff_ne];exact hc
 go_wp2;go_ret;exact⟨rfl,K3.out⟩
theorem JA (w:World)(oa oi:Option Addr)(m ca N ci:Nat)(fuel:Int)  
  (CD:∀w',Keep au w w'→Hid (Calls Tryz.prog 9 #[.slice oa m ca,.slice oi N ci,.int .i64 fuel] w' fun e w''=>∃u t,e= .returned (.tuple #[.int .i64 3,u,t,.agg #[.int .i64 0,.int .i64 0]])∧dh w'' u []∧iH w'' t []∧Keep au w' w'')):
  Calls Tryz.prog 4 #[.slice oa m ca,.slice oi N ci,.int .i64 fuel] w fun e w'=>e= .returned (.bool true)∧Keep au w w':=by
 go_enter Tryz.func4,Tryz.ntmps4;go_wp2_with fail;refine(qN _).mono ?_;rintro e w1 ⟨rfl,hk⟩;have K1:Hid (Keep au w w1):=zh (Keep.both kp hk);clear hk;go_wp2_with fail;refine((CD _ K1.out).out).mono ?_;rintro e w2 ⟨u,t,rfl,hu,ht,hk⟩;have k2:Keep au w1 w2:=Keep.trans kp hk fun _ _ _ h=>h;have K2:=zh (K1.out.both k2);obtain⟨ou,cu,rfl,_,_⟩:=hu.len;obtain⟨ot,ct,rfl⟩:=ht.len;have HU:=zh hu;have HT:=zh ht;clear hk k2 hu ht CD;have ka:Keep au w2 (w2.alloc (.cells #[.int .i64 0,.int .i64 0] 28)):=(Keep.refl _ _).alloc _;have K3:=zh (K2.out.both ka);go_wp2;go_ret;exact⟨rfl,K3.out⟩
theorem Tx (w:World)(oa oi:Option Addr)(m ca N ci:Nat)(fuel:Int)(pt:List Fq)(hl:pt.length=N)(CA:∀w' vn,Keep au w w'→dh w' vn pt→Hid (Calls Tryz.prog 12 #[.slice oa m ca,vn] w' fun e w''=>e= .returned (.bool true)∧Keep au w' w''))(CW:∀w' vn,Keep au w w'→dh w' vn pt→Hid (Calls Tryz.prog 13 #[vn,.slice oi N ci] w' fun e w''=>e= .returned (.bool true)∧Keep au w' w''))
  (CD:∀w',Keep au w w'→Hid (Calls Tryz.prog 9 #[.slice oa m ca,.slice oi N ci,.int .i64 fuel] w' fun e w''=>∃u t,e= .returned (.tuple #[.int .i64 1,u,t,.agg #[.int .i64 0,.int .i64 0]])∧dh w'' u pt∧iH w'' t []∧Keep au w' w'')):
  Calls Tryz.prog 4 #[.slice oa m ca,.slice oi N ci,.int .i64 fuel] w fun e w'=>e= .returned (.bool true)∧Keep au w w':=by
 subst hl;go_enter Tryz.func4,Tryz.ntmps4;go_wp2_with fail;refine(qN _).mono ?_;rintro e w1 ⟨rfl,hk⟩;have K1:Hid (Keep au w w1):=zh (Keep.both kp hk);clear hk;go_wp2_with fail;refine((CD _ K1.out).out).mono ?_;rintro e w2 ⟨u,t,rfl,hu,ht,hk⟩;have k2:Keep au w1 w2:=Keep.trans kp hk fun _ _ _ h=>h;have K2:=zh (K1.out.both k2);obtain⟨ou,cu,rfl,_,_⟩:=hu.len;obtain⟨ot,ct,rfl⟩:=ht.len;have HU:=zh hu;have HT:=zh ht;clear hk k2 hu ht CD;have ka:Keep au w2 (w2.alloc (.cells #[.int .i64 0,.int .i64 0] 28)):=(Keep.refl _ _).alloc _;have K3:=zh (K2.out.both ka);have HU3:=zh (HU.out.keep ka);go_wp2_with fail;refine(CA (w2.alloc (.cells #[.int .i64 0,.int .i64 0] 28)) _ K3.out HU3.out).out.mono ?_;rintro e w3 ⟨rfl,hk⟩;have K4:=zh (K3.out.both hk);have HU4:=zh (HU3.out.keep hk);clear ka hk;go_wp2_with fail;refine(CW w3 _ K4.out HU4.out).out.mono ?_;rintro e w4 ⟨rfl,hk⟩;have K5:=zh (K4.out.both hk);clear hk;go_wp2;go_ret;exact⟨rfl,K5.out⟩
theorem Xm (w:World)(oa oi:Option Addr)(m ca N ci:Nat)(fuel:Int)(T:List eG)(CN:∀w' vn,Keep au w w'→iH w' vn T→Hid (Calls Tryz.prog 14 #[.slice oa m ca,.slice oi N ci,vn] w' fun e w''=>e= .returned (.bool true)∧Keep au w' w''))
  (CD:∀w',Keep au w w'→Hid (Calls Tryz.prog 9 #[.slice oa m ca,.slice oi N ci,.int .i64 fuel] w' fun e w''=>∃u t,e= .returned (.tuple #[.int .i64 2,u,t,.agg #[.int .i64 0,.int .i64 0]])∧dh w'' u []∧iH w'' t T∧Keep au w' w'')):
  Calls Tryz.prog 4 #[.slice oa m ca,.slice oi N ci,.int .i64 fuel] w fun e w'=>e= .returned (.bool true)∧Keep au w w':=by
 go_enter Tryz.func4,Tryz.ntmps4;go_wp2_with fail;refine(qN _).mono ?_;rintro e w1 ⟨rfl,hk⟩;have K1:Hid (Keep au w w1):=zh (Keep.both kp hk);clear hk;go_wp2_with fail;refine((CD _ K1.out).out).mono ?_;rintro e w2 ⟨u,t,rfl,hu,ht,hk⟩;have k2:Keep au w1 w2:=Keep.trans kp hk fun _ _ _ h=>h;have K2:=zh (K1.out.both k2);obtain⟨ou,cu,rfl,_,_⟩:=hu.len;obtain⟨ot,ct,rfl⟩:=ht.len;have HU:=zh hu;have HT:=zh ht;clear hk k2 hu ht CD;have ka:Keep au w2 (w2.alloc (.cells #[.int .i64 0,.int .i64 0] 28)):=(Keep.refl _ _).alloc _;have K3:=zh (K2.out.both ka);have HT3:=zh (HT.out.keep ka);go_wp2_with fail;refine(CN (w2.alloc (.cells #[.int .i64 0,.int .i64 0] 28)) _ K3.out HT3.out).out.mono ?_;rintro e w3 ⟨rfl,hk⟩;have K4:=zh (K3.out.both hk);clear ka hk;go_wp2;go_ret;exact⟨rfl,K4.out⟩
theorem Ja (w:World)(v:Value)(rows:List Rw)(vi:Value)(ints:List Bool)(fuel:Int)(h:dD w v rows)(hi:gJ w vi ints)(hf:fT fuel):
  Calls Tryz.prog 4 #[v,vi,.int .i64 fuel] w fun e w'=>e= .returned (.bool true)∧Below w.heap.size w w':=by
 suffices hk:Calls Tryz.prog 4 #[v,vi,.int .i64 fuel] w fun e w'=>e= .returned (.bool true)∧Keep au w w' from hk.mono fun e w' ⟨h1,h2⟩=>⟨h1,h2.below (Nat.le_refl _) fun _ _ h=>h.elim⟩;have CD:=fun w' (k:Keep au w w')=>zh (Bg w' v vi rows ints fuel (h.keep k) (hi.keep k) hf);have CA:=fun(pt:List Fq) w' vn (k:Keep au w w') (hp:dh w' vn pt)=>zh (MI w' v rows vn pt (h.keep k) hp);have CW:=fun(pt:List Fq) hl hw w' vn (k:Keep au w w') (hp:dh w' vn pt)=>zh (JB w' vn vi pt ints hp (hi.keep k) hl hw);obtain⟨oa,ca,rfl,_,_⟩:=h.len;obtain⟨oi,ci,rfl,_,_⟩:=hi.len;have CN:=fun(T:List eG) hr h12 hp hT ha hlast w' vn (k:Keep au w w') (ht:iH w' vn T)=>zh (JD w' oa oi ca ci vn rows ints T (h.keep k) (hi.keep k) ht hr h12 hp hT ha hlast);unfold DoP at CD;unfold fV at CD;rcases Tz rows ints fuel with⟨f,h1,h2⟩ | h2 | ⟨pt,h2,h3,h4,h5⟩ | ⟨T,h2,h3,h4,h5,h6,h7,h8⟩
 ·rw [h2]at CD;exact Tw w oa oi _ ca _ ci fuel _ _ h1 CD
 ·rw [h2]at CD;exact JA w oa oi _ ca _ ci fuel CD
 ·rw [h2]at CD;have CA:=CA pt;rw [h4]at CA;exact Tx w oa oi _ ca _ ci fuel pt h3 CA (CW pt h3 h5) CD
 rw [h2]at CD;exact Xm w oa oi _ ca _ ci fuel T (CN T h3 h4 h5 h6 h7 h8) CD
end Go.Proofs.YtaiffmebphhdaaaGreat
