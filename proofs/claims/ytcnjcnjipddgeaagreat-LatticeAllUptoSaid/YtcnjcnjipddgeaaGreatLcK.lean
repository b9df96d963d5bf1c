/- The law's closed fact on lattice.Do. -/
import Derived.Test.YtcnjcnjipddgeaaGreatLcJ
import Derived.Test.YtcnjcnjipddgeaaGreatLies
namespace Go.Proofs.YtcnjcnjipddgeaaGreat
set_option maxRecDepth 100000
set_option maxHeartbeats 32000000
set_option linter.unusedSimpArgs false
set_option linter.unusedVariables false
open Go.ChangeShapes Go.WideShapes Go.RowKit
def latR3:List Rw:= [⟨[2,4],3,3⟩]
def latR6:List Rw:= [⟨[2,4],3,6⟩]
theorem latR3_fact:eqF latR3 2=(0,0)∧doR latR3 2 8=some ⟨false,[],[],[⟨1,2⟩],false⟩:=⟨by decide +kernel,by kernel_rfl⟩
theorem latR6_fact:eqF latR6 2=(0,0)∧doR latR6 2 8=some ⟨true,[3,0],[[-2,1]],[],false⟩:=⟨by decide +kernel,by kernel_rfl⟩
theorem lat_ok (t:Int)(ht:fitI t):∀r∈ [(⟨[2,4],3,t⟩:Rw)],RowOK r 2:=by
 intro r hr;rw [List.mem_singleton.1 hr];refine⟨by decide,by decide,.inr (.inr rfl),Int.le_refl _,fun x hx=> ?_,ht⟩
 have hx:x=2∨x=4:=by simpa using hx
 unfold fitI;omega
theorem latticeFact_any (w:World):Calls Tryz.prog 5 #[] w fun e w'=>e= .returned (.bool true)∧Keep NoS w w':=by
 have C3:=fun w v (h:IsRows w v latR3)=>zh (ltDo_any w v latR3 2 8 _ h latR3_fact.1 (lat_ok 3 (by unfold fitI;decide)) (by decide) (by decide) (by decide) latR3_fact.2)
 have C6:=fun w v (h:IsRows w v latR6)=>zh (ltDo_any w v latR6 2 8 _ h latR6_fact.1 (lat_ok 6 (by unfold fitI;decide)) (by decide) (by decide) (by decide) latR6_fact.2)
 simp only at C3 C6;rw [show mcode false=0 from rfl]at C3 C6
 go_enter Tryz.func5,Tryz.ntmps5;go_wp2_with fail;refine(C3 _ _ (lie_rows (b:=w.heap.size+1) (xs:= [⟨.slice (some ⟨w.heap.size,0,none⟩) 2 2,⟨[2,4],3,3⟩⟩]) kc rfl rfl rfl (fun x hx=>by simp at hx;subst hx;exact lie_row (b:=w.heap.size) [2,4] 3 3 kc rfl (by decide) (by decide) (by decide) (by decide) 2 rfl) (by simp [maxLen]))).out.mono ?_
 rintro e w1 ⟨va,vw,vy,rfl,ha,hw,hy,hk⟩;obtain⟨oa,ca,rfl⟩:∃o c,va= .slice o 0 c:=ha.len;obtain⟨ow,cw,rfl⟩:∃o c,vw= .slice o 0 c:=by obtain⟨o,c,h,_⟩:=hw.len;exact⟨o,c,h⟩
 obtain⟨oy,cy,rfl⟩:∃o c,vy= .slice o 1 c:=by obtain⟨o,c,h,_⟩:=hy.len;exact⟨o,c,h⟩
 have K1:Hid (Keep NoS w w1):=zh (Keep.trans kp hk fun _ _ _ h=>h)
 clear ha hw hy hk C3;go_wp2_with fail;refine(C6 _ _ (lie_rows (b:=w1.heap.size+1+1) (xs:= [⟨.slice (some ⟨w1.heap.size+1,0,none⟩) 2 2,⟨[2,4],3,6⟩⟩]) kc rfl rfl rfl (fun x hx=>by simp at hx;subst hx;exact lie_row (b:=w1.heap.size+1) [2,4] 3 6 kc rfl (by decide) (by decide) (by decide) (by decide) 2 rfl) (by simp [maxLen]))).out.mono ?_
 rintro e w2 ⟨va,vw,vy,rfl,ha,hw,hy,hk⟩;have HB5:Hid (Blk w2 w1.heap.size #[.int .i64 0,.int .i64 0]):=zh (Blk.keep kb hk);have k2:Keep NoS w1 w2:=Keep.trans kp hk fun _ _ _ h=>h
 have K2:=zh (K1.out.both k2);obtain⟨oy',cy',rfl⟩:∃o c,vy= .slice o 0 c:=by obtain⟨o,c,h,_⟩:=hy.len;exact⟨o,c,h⟩
 obtain⟨oa',ca',rfl⟩:∃o c,va= .slice o 2 c:=ha.len;obtain⟨ba,ra,_,hae,hal,hac⟩:=(ha.ints (by unfold I64;decide)).at (k:=0) (by decide)
 obtain⟨ba',ra',_,he,_,hac'⟩:=(ha.ints (by unfold I64;decide)).at (k:=1) (by decide)
 cases hae
 cases he
 obtain⟨zs,h1,h2,h3⟩:=hw;obtain⟨z,rfl⟩:∃z,zs= [z]:=by
  rcases zs with _ | ⟨z,_ | ⟨y,t⟩⟩
  ·simp at h2
  ·exact ⟨z,rfl⟩
  ·simp at h2
 obtain⟨zv,zq⟩:=z;have hzq:zq= [-2,1]:=by simpa using h2
 subst hzq;obtain⟨g,cap,hvw,_,hgl,hgc⟩:=OwnG.cells wyC_len h1 (by simp)
 have c0:=hgc 0 _ rfl 0 _ rfl;obtain⟨hz,_⟩:=h3 _ (List.mem_singleton.2 rfl);obtain⟨oz,cz,hzv⟩:∃o c,zv= .slice o 2 c:=hz.len;subst hzv;have hz:OwnI w2 _ (.slice oz 2 cz) [-2,1]:=hz;obtain⟨bz,rz,_,hzo,hzl,hzc⟩:=(hz.ints (by unfold I64;decide)).at (k:=0) (by decide)
 cases hzo
 obtain⟨bz',rz',_,he,_,hzc'⟩:=(hz.ints (by unfold I64;decide)).at (k:=1) (by decide)
 cases he
 simp only [List.length_singleton]at hvw;subst hvw;have HF:=zh (And.intro hal (And.intro hac (And.intro hac' (And.intro hgl (And.intro c0 (And.intro hzl (And.intro hzc hzc')))))));clear ha hy hk C6 h1 h2 h3 hz k2 hal hac hac' hgl c0 hzl hzc hzc' hgc;have ka:Keep NoS w2 (w2.alloc (.cells #[.int .i64 0,.int .i64 0] 28)):=(Keep.refl _ _).alloc _;have HB10:Hid (Blk (w2.alloc (.cells #[.int .i64 0,.int .i64 0] 28)) w2.heap.size #[.int .i64 0,.int .i64 0]):=zh (blk_at _ _ rfl);have HB5:=zh (HB5.out.keep ka);have K3:=zh (K2.out.both ka);have a0:=(ka.cell HF.out.1).trans HF.out.2.1;have a1:=(ka.cell HF.out.1).trans HF.out.2.2.1;have al:=Nat.lt_of_lt_of_le HF.out.1 ka.size;have g0:=(ka.cell HF.out.2.2.2.1).trans HF.out.2.2.2.2.1;have gl:=Nat.lt_of_lt_of_le HF.out.2.2.2.1 ka.size;have z0:=(ka.cell HF.out.2.2.2.2.2.1).trans HF.out.2.2.2.2.2.2.1;have z1:=(ka.cell HF.out.2.2.2.2.2.1).trans HF.out.2.2.2.2.2.2.2;have zl:=Nat.lt_of_lt_of_le HF.out.2.2.2.2.2.1 ka.size;clear HF;go_upto_region 3 with fail
 clear ka;generalize w2.alloc (.cells #[.int .i64 0,.int .i64 0] 28)=w3 at *;generalize w2.heap.size=b10 at *;generalize w1.heap.size=b5 at *;obtain⟨p0,p1,_,_,pl⟩:=HB5.out.two;obtain⟨q0,q1,_,_,ql⟩:=HB10.out.two;simp at a0 a1 g0 z0 z1;go_upto_region 5 with fail
 refine wp_region_by (fun w'=>Keep NoS w3 w') [] [] [0,1,2,3,4,5,6,7,8,9,10,11,12,13,14,15,16,17,18,19,20,21,22,23,24] (by kernel_rfl) (by kernel_rfl) kp ?_
 intro X W hne hF hcl;have x0:=fun x=>((hF x).cell al).trans a0
 have x1:=fun x=>((hF x).cell al).trans a1
 have x2:=fun x=>((hF x).cell gl).trans g0
 have x3:=fun x=>((hF x).cell zl).trans z0
 have x4:=fun x=>((hF x).cell zl).trans z1
 clear hF hcl a0 a1 g0 z0 z1 al gl zl;simp only [wpPlan,pickOps,zl0,zl1,zl2,clsOf,Bool.false_eq_true,if_false]
 (repeat(go_big_quiet_step (fail)));refine wpQuiet_nil ?_
 refine NoPanic.normal ?_;have K9:=zh (K3.out.drew);go_wp2;go_ret;exact⟨rfl,K9.out⟩
end Go.Proofs.YtcnjcnjipddgeaaGreat
