/- The law SimplexSure: its walk. -/
import Derived.Test.YtamjmcdlddocgaaGreatSpF
import Derived.Test.YtamjmcdlddocgaaGreatSpI
import Derived.Test.YtamjmcdlddocgaaGreatSpJ
import Derived.Test.YtamjmcdlddocgaaGreatFkAA
import Derived.Test.YtamjmcdlddocgaaGreatFmS
namespace Go.Proofs.YtamjmcdlddocgaaGreat
set_option maxRecDepth 100000
set_option maxHeartbeats 16000000
set_option linter.unusedSimpArgs false
set_option linter.unusedVariables false
open Go.ChangeShapes Go.WideShapes Go.RowKit
theorem sW_sQ {f:Nat→Rat}:∀n,sW n f=sQ n f
 | 0=>rfl
 | n+1=>by unfold sW sQ;rw [sW_sQ n]
theorem zq_c {f:Nat→Int}{n:Nat}{t:Rat}{b:Bool}{x:Nat→Rat}:(⟨zq f n,t,b⟩:WR).dot n x=sQ n fun j=>((f j:Int):Rat)*x j:=by
 unfold WR.dot;rw [sW_sQ];refine sQ_congr n fun j hj=> ?_
 unfold WR.c;simp only;rw [zq_getD,if_pos hj]
theorem wide_at {r:Rw}{n:Nat}(h:RowOK r (n:Int)){x:Nat→Rat}:(∀a∈(if r.kind=3 then [wrX n r,wrY n r]else [wrX n r]),a.at n x)↔AtPt r n x:=by
 have e1:(wrX n r).dot n x=sQ n fun j=>((r.of.getD j 0:Int):Rat)*x j:=zq_c
 have e2:(wrY n r).dot n x= -(sQ n fun j=>((r.of.getD j 0:Int):Rat)*x j):=by
  have:(wrY n r).dot n x=sQ n fun j=>((-r.of.getD j 0:Int):Rat)*x j:=zq_c
  rw [this,show(sQ n fun j=>((-r.of.getD j 0:Int):Rat)*x j)=sQ n fun j=>(-1:Rat)*(((r.of.getD j 0:Int):Rat)*x j)from sQ_congr n fun j _=>by rw [Rat.intCast_neg];grind,sQ_mul]
  grind
 unfold AtPt;generalize (sQ n fun j=>((r.of.getD j 0:Int):Rat)*x j)=s at*
 have t1:(wrX n r).tt=(r.to:Rat):=rfl;have t2:(wrY n r).tt= -(r.to:Rat):=by
  show((-r.to:Int):Rat)=_;rw [Rat.intCast_neg]
 have l1:(wrX n r).less=(r.kind==2):=rfl;have l2:(wrY n r).less=false:=rfl
 rcases h.kind with hk | hk | hk
 ·rw [if_neg (by omega)]
  simp only [List.mem_singleton,forall_eq];unfold WR.at;rw [e1,t1,l1,hk];simp
 ·rw [if_neg (by omega)]
  simp only [List.mem_singleton,forall_eq];unfold WR.at;rw [e1,t1,l1,hk];simp
 ·rw [if_pos hk]
  unfold WR.at;simp only [List.mem_cons,List.not_mem_nil,or_false,forall_eq_or_imp,forall_eq];rw [e1,e2,t1,t2,l1,l2,hk];simp
  constructor
  ·rintro ⟨a,b⟩;grind
  ·intro a;subst a;exact⟨Rat.le_refl,Rat.le_refl⟩
theorem feas_wide {rows:List Rw}{n:Nat}(hok:∀r∈rows,RowOK r (n:Int)):((fmAll n n (rowsW n rows)).all okW=true)↔Feas rows n:=by
 rw [← fm_ends];unfold Feas rowsW
 constructor
 ·rintro ⟨x,h⟩
  exact⟨x,fun r hr=>(wide_at (hok r hr)).1 fun a ha=>h a (List.mem_flatMap.2 ⟨r,hr,ha⟩)⟩
 ·rintro ⟨x,h⟩
  refine⟨x,fun a ha=> ?_⟩
  obtain⟨r,hr,ha⟩:=List.mem_flatMap.1 ha;exact(wide_at (hok r hr)).2 (h r hr) a ha
theorem sure_bad (w:World)(oa:Option Addr)(m ca:Nat)(n:Int)(c1 c2:Int)(hc:c1≠0)(CR:∀w',Keep NoS w w'→Hid (Calls Tryz.prog 14 #[.slice oa m ca,.int .i64 n] w' fun e w''=>e= .returned (.agg #[.int .i64 c1,.int .i64 c2])∧Keep NoS w' w'')):
  Calls Tryz.prog 5 #[.slice oa m ca,.int .i64 n] w fun e w'=>e= .returned (.bool true)∧Keep NoS w w':=by
 have e2:(c1 != 0)=true:=by rw [bne_iff_ne];exact hc
 go_enter Tryz.func5,Tryz.ntmps5;go_wp2_with fail;refine(simplexFact_any _).mono ?_;rintro e w1 ⟨rfl,hk⟩;have K1:Hid (Keep NoS w w1):=zh (Keep.both kp hk);clear hk;go_wp2_with fail;refine(CR _ K1.out).out.mono ?_;rintro e w2 ⟨rfl,hk⟩;have K2:=zh (K1.out.both hk);clear hk CR K1;go_wp2;go_ret;exact⟨rfl,K2.out⟩
theorem sure_yes (w:World)(oa:Option Addr)(m ca:Nat)(n:Int)(rows:List Rw)(CR:∀w',Keep NoS w w'→Hid (Calls Tryz.prog 14 #[.slice oa m ca,.int .i64 n] w' fun e w''=>e= .returned (.agg #[.int .i64 0,.int .i64 0])∧Keep NoS w' w''))(CS:∀w',Keep NoS w w'→Hid (Calls Tryz.prog 15 #[.slice oa m ca,.int .i64 n,.int .i64 3,.int .i64 8,.int .i64 9] w' fun e w''=>SmallPost rows n w' e w''))
  (CD:∀w',Keep NoS w w'→Hid (Calls Tryz.prog 11 #[.slice oa m ca,.int .i64 n,.int .i64 2000] w' fun e w''=>∃u t,e= .returned (.tuple #[.int .i64 1,u,t,.agg #[.int .i64 0,.int .i64 0]])∧Keep NoS w' w''))
  (CP:∀w',Keep NoS w w'→Hid (Calls Tryz.prog 16 #[.slice oa m ca,.int .i64 n] w' fun e w''=>e= .returned (.bool true)∧Keep NoS w' w'')):
  Calls Tryz.prog 5 #[.slice oa m ca,.int .i64 n] w fun e w'=>e= .returned (.bool true)∧Keep NoS w w':=by
 go_enter Tryz.func5,Tryz.ntmps5;go_wp2_with fail;refine(simplexFact_any _).mono ?_;rintro e w1 ⟨rfl,hk⟩;have K1:Hid (Keep NoS w w1):=zh (Keep.both kp hk);clear hk;go_wp2_with fail;refine(CR _ K1.out).out.mono ?_;rintro e w2 ⟨rfl,hk⟩;have K2:=zh (K1.out.both hk);clear hk CR K1;go_wp2_with fail;refine(CS _ K2.out).out.mono ?_;rintro e w3 ⟨b,rfl,_,hk⟩;have K3:=zh (K2.out.both hk);clear hk CS K2
 cases b
 case false=>
  go_wp2;go_ret;exact⟨rfl,K3.out⟩
 case true=>
  go_wp2_with fail;refine(CD _ K3.out).out.mono ?_;rintro e w4 ⟨u,t,rfl,hk⟩;have K4:=zh (K3.out.both hk);clear hk CD K3;have ka:Keep NoS w4 (w4.alloc (.cells #[.int .i64 0,.int .i64 0] 26)):=(Keep.refl _ _).alloc _;have K5:=zh (K4.out.both ka);clear ka;go_wp2_with fail;refine(CP _ K5.out).out.mono ?_;rintro e w5 ⟨rfl,hk⟩;have K6:=zh (K5.out.both hk);clear hk CP;go_wp2;go_ret;exact⟨rfl,K6.out⟩
theorem sure_no (w:World)(oa:Option Addr)(m ca:Nat)(n:Int)(rows:List Rw)(CR:∀w',Keep NoS w w'→Hid (Calls Tryz.prog 14 #[.slice oa m ca,.int .i64 n] w' fun e w''=>e= .returned (.agg #[.int .i64 0,.int .i64 0])∧Keep NoS w' w''))(CS:∀w',Keep NoS w w'→Hid (Calls Tryz.prog 15 #[.slice oa m ca,.int .i64 n,.int .i64 3,.int .i64 8,.int .i64 9] w' fun e w''=>SmallPost rows n w' e w''))
  (CD:∀w',Keep NoS w w'→Hid (Calls Tryz.prog 11 #[.slice oa m ca,.int .i64 n,.int .i64 2000] w' fun e w''=>∃u t,e= .returned (.tuple #[.int .i64 2,u,t,.agg #[.int .i64 0,.int .i64 0]])∧Keep NoS w' w''))
  (CP:∀w',Keep NoS w w'→Hid (Calls Tryz.prog 16 #[.slice oa m ca,.int .i64 n] w' fun e w''=>e= .returned (.bool false)∧Keep NoS w' w'')):
  Calls Tryz.prog 5 #[.slice oa m ca,.int .i64 n] w fun e w'=>e= .returned (.bool true)∧Keep NoS w w':=by
 go_enter Tryz.func5,Tryz.ntmps5;go_wp2_with fail;refine(simplexFact_any _).mono ?_;rintro e w1 ⟨rfl,hk⟩;have K1:Hid (Keep NoS w w1):=zh (Keep.both kp hk);clear hk;go_wp2_with fail;refine(CR _ K1.out).out.mono ?_;rintro e w2 ⟨rfl,hk⟩;have K2:=zh (K1.out.both hk);clear hk CR K1;go_wp2_with fail;refine(CS _ K2.out).out.mono ?_;rintro e w3 ⟨b,rfl,_,hk⟩;have K3:=zh (K2.out.both hk);clear hk CS K2
 cases b
 case false=>
  go_wp2;go_ret;exact⟨rfl,K3.out⟩
 case true=>
  go_wp2_with fail;refine(CD _ K3.out).out.mono ?_;rintro e w4 ⟨u,t,rfl,hk⟩;have K4:=zh (K3.out.both hk);clear hk CD K3;have ka:Keep NoS w4 (w4.alloc (.cells #[.int .i64 0,.int .i64 0] 26)):=(Keep.refl _ _).alloc _;have K5:=zh (K4.out.both ka);clear ka;go_wp2_with fail;refine(CP _ K5.out).out.mono ?_;rintro e w5 ⟨rfl,hk⟩;have K6:=zh (K5.out.both hk);clear hk CP;go_wp2;go_ret;exact⟨rfl,K6.out⟩
theorem sure_far (w:World)(oa:Option Addr)(m ca:Nat)(n:Int)(rows:List Rw)(hn:¬(n≤3∧rows.length≤8∧SmallR rows))(CR:∀w',Keep NoS w w'→Hid (Calls Tryz.prog 14 #[.slice oa m ca,.int .i64 n] w' fun e w''=>e= .returned (.agg #[.int .i64 0,.int .i64 0])∧Keep NoS w' w''))(CS:∀w',Keep NoS w w'→Hid (Calls Tryz.prog 15 #[.slice oa m ca,.int .i64 n,.int .i64 3,.int .i64 8,.int .i64 9] w' fun e w''=>SmallPost rows n w' e w'')):
  Calls Tryz.prog 5 #[.slice oa m ca,.int .i64 n] w fun e w'=>e= .returned (.bool true)∧Keep NoS w w':=by
 go_enter Tryz.func5,Tryz.ntmps5;go_wp2_with fail;refine(simplexFact_any _).mono ?_;rintro e w1 ⟨rfl,hk⟩;have K1:Hid (Keep NoS w w1):=zh (Keep.both kp hk);clear hk;go_wp2_with fail;refine(CR _ K1.out).out.mono ?_;rintro e w2 ⟨rfl,hk⟩;have K2:=zh (K1.out.both hk);clear hk CR K1;go_wp2_with fail;refine(CS _ K2.out).out.mono ?_;rintro e w3 ⟨b,rfl,hb,hk⟩;have K3:=zh (K2.out.both hk);clear hk CS K2
 cases b
 case false=>
  clear hb;go_wp2;go_ret;exact⟨rfl,K3.out⟩
 case true=>exact absurd (hb rfl) hn
theorem simplexSure_walk (w:World)(v:Value)(rows:List Rw)(n:Int)(h:IsRows w v rows)(hn:I64 n):
  Calls Tryz.prog 5 #[v,.int .i64 n] w fun e w'=>e= .returned (.bool true)∧Below w.heap.size w w':=by
 suffices hk:Calls Tryz.prog 5 #[v,.int .i64 n] w fun e w'=>e= .returned (.bool true)∧Keep NoS w w' from hk.mono fun e w' ⟨h1,h2⟩=>⟨h1,h2.below (Nat.le_refl _) fun _ _ h=>h.elim⟩
 have CR:=fun w' (k:Keep NoS w w')=>zh (refRows_any w' v rows n (h.keep k) hn)
 have CS:=fun w' (k:Keep NoS w w')=>zh (refSmall_any w' v rows n (h.keep k))
 have CD:∀w',Keep NoS w w'→Hid (Calls Tryz.prog 11 #[v,.int .i64 n,.int .i64 2000] w' fun e w''=>∃u t,e= .returned (.tuple #[.int .i64 (doR rows n 2000).st,u,t,fV (doR rows n 2000).f])∧Keep NoS w' w''):=fun w' k=>zh ((spDo_any w' v rows n 2000 (h.keep k) hn (by unfold I64;omega)).mono fun e w'' ⟨u,t,h1,_,_,h4⟩=>⟨u,t,h1,h4⟩)
 have CP:=fun(N:Nat) (hN:n=(N:Int)) hok h8 hn3 w' (k:Keep NoS w w')=>zh (somePoint_any w' v rows N (h.keep k) hok h8 hn3)
 obtain⟨oa,ca,rfl,_,_⟩:=h.len;unfold fV at CR CD
 by_cases hl:(listF rows n).1=0
 ·obtain ⟨h0,h1,h2,h3,h4⟩:=list_rows hl
  rw [h0]at CR
  by_cases hs:n≤3∧rows.length≤8∧SmallR rows
  ·obtain ⟨hn3,h8,hsm⟩:=hs
   obtain⟨N,rfl⟩:∃N:Nat,n=(N:Int):=⟨n.toNat,by omega⟩
   have CP:=CP N rfl h4 h8 (by omega)
   have hf:=feas_wide h4;have hok:∀r∈rows,RowOK r (((N:Int).toNat:Nat):Int):=by rw [Int.toNat_natCast];exact h4
   rcases small_told hl hn3 h8 hsm with⟨pt,e,hy⟩ | ⟨tm,e,hy⟩
   ·rw [e]at CD
    have hy:=yes_feas hy;rw [Int.toNat_natCast]at hy;rw [hf.2 hy]at CP;exact sure_yes w oa _ ca _ rows CR CS CD CP
   ·rw [e]at CD
    have hy:=no_feas hok hy;rw [Int.toNat_natCast]at hy;rw [Bool.eq_false_iff.2 fun h=>hy (hf.1 h)]at CP
    exact sure_no w oa _ ca _ rows CR CS CD CP
  ·exact sure_far w oa _ ca n rows hs CR CS
 ·obtain ⟨c1,c2,hc⟩:∃c1 c2,listF rows n=(c1,c2):=⟨_,_,rfl⟩
  rw [hc]at CR hl;exact sure_bad w oa _ ca n c1 c2 hl CR
end Go.Proofs.YtamjmcdlddocgaaGreat
