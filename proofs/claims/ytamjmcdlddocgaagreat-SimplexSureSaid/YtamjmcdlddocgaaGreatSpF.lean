/- The closed fact of the simplex laws. -/
import Derived.Test.YtamjmcdlddocgaaGreatSpE
import Derived.Test.YtamjmcdlddocgaaGreatLies
namespace Go.Proofs.YtamjmcdlddocgaaGreat
set_option maxRecDepth 100000
set_option maxHeartbeats 16000000
set_option linter.unusedSimpArgs false
set_option linter.unusedVariables false
open Go.ChangeShapes Go.WideShapes Go.RowKit
def fRowsA:List Rw:= [⟨[1],1,3⟩,⟨[-1],2,-3⟩]
def fRowsB:List Rw:= [⟨[1],3,3⟩]
theorem doR_A:doR fRowsA 1 2000=⟨2,[],[⟨1,1⟩,⟨1,1⟩],(0,0)⟩:=by kernel_rfl
theorem doR_B:doR fRowsB 1 2000=⟨1,[⟨3,1⟩],[],(0,0)⟩:=by kernel_rfl
theorem simplexFact_any (w:World):Calls Tryz.prog 7 #[] w fun e w'=>e= .returned (.bool true)∧Keep NoS w w':=by
 have CA:=fun w' v (h:IsRows w' v fRowsA)=>zh (spDo_any w' v fRowsA 1 2000 h (by unfold I64;omega) (by unfold I64;omega))
 have CB:=fun w' v (h:IsRows w' v fRowsB)=>zh (spDo_any w' v fRowsB 1 2000 h (by unfold I64;omega) (by unfold I64;omega))
 rw [doR_A]at CA;rw [doR_B]at CB;unfold fV at CA CB;simp only at CA CB;go_enter Tryz.func7,Tryz.ntmps7;go_wp2_with fail;refine(CA _ _ (lie_rows (b:=w.heap.size+1+1) (xs:= [⟨.slice (some ⟨w.heap.size,0,none⟩) 1 1,⟨[1],1,3⟩⟩,⟨.slice (some ⟨w.heap.size+1,0,none⟩) 1 1,⟨[-1],2,-3⟩⟩]) kc rfl rfl rfl ?_ (by simp [maxLen]))).out.mono ?_
 ·intro x hx
  simp at hx
  rcases hx with rfl | rfl
  ·exact lie_row (b:=w.heap.size) [1] 1 3 kc rfl (by decide) (by decide) (by decide) (by decide) 1 rfl
  ·exact lie_row (b:=w.heap.size+1) [-1] 2 (-3) kc rfl (by decide) (by decide) (by decide) (by decide) 1 rfl
 rintro e w1 ⟨u,t,rfl,hu,ht,hk1⟩;have K1:Hid (Keep NoS w w1):=zh (Keep.both kp hk1);obtain⟨ou,cu,rfl,_,_⟩:=hu.len;obtain⟨ot,ct,rfl,_,_⟩:=ht.len;have HT:=zh ht;simp only [List.length_nil,List.length_cons]at *;clear hk1 hu CA ht;have HB4:Hid (Blk (w1.alloc (.cells #[.int .i64 0,.int .i64 0] 26)) w1.heap.size #[.int .i64 0,.int .i64 0]):=zh (blk_at _ _ rfl);have K2:=zh (K1.out.alloc (.cells #[.int .i64 0,.int .i64 0] 26));have HT:=zh (HT.out.keep ((Keep.refl _ _).alloc (.cells #[.int .i64 0,.int .i64 0] 26)));go_upto_region 2 with fail
 generalize w1.alloc (.cells #[.int .i64 0,.int .i64 0] 26)=w2 at *;generalize w1.heap.size=b4 at *;clear K1;go_wp2_with fail;refine(CB _ _ (lie_rows (b:=w2.heap.size+1) (xs:= [⟨.slice (some ⟨w2.heap.size,0,none⟩) 1 1,⟨[1],3,3⟩⟩]) kc rfl rfl rfl ?_ (by simp [maxLen]))).out.mono ?_
 ·intro x hx
  simp at hx;subst hx;exact lie_row (b:=w2.heap.size) [1] 3 3 kc rfl (by decide) (by decide) (by decide) (by decide) 1 rfl
 rintro e w3 ⟨u,t,rfl,hu,ht,hk3⟩;have K3:Hid (Keep NoS w2 w3):=zh (Keep.both kp hk3);obtain⟨ou',cu',rfl,_,_⟩:=hu.len;obtain⟨ot',ct',rfl,_,_⟩:=ht.len;have HU:=zh hu;simp only [List.length_nil,List.length_cons]at *;clear hk3 hu CB ht;have HB8:Hid (Blk (w3.alloc (.cells #[.int .i64 0,.int .i64 0] 26)) w3.heap.size #[.int .i64 0,.int .i64 0]):=zh (blk_at _ _ rfl);have k4:Keep NoS w3 (w3.alloc (.cells #[.int .i64 0,.int .i64 0] 26)):=(Keep.refl _ _).alloc _;have K4:=zh ((K2.out.both K3.out).both k4);have HB4:=zh (HB4.out.keep (K3.out.both k4));have HT:=zh (HT.out.keep (K3.out.both k4));have HU:=zh (HU.out.keep k4);go_upto_region 3 with fail
 generalize w3.alloc (.cells #[.int .i64 0,.int .i64 0] 26)=w4 at *;generalize w3.heap.size=b8 at *;obtain⟨bt,ot1,rfl,hbt,c0,c1⟩:=HT.out.at (k:=0) (by decide)
 obtain⟨bt',ot1',he,_,c2,c3⟩:=HT.out.at (k:=1) (by decide)
 cases he
 obtain⟨bu,ou1,rfl,hbu,d0,d1⟩:=HU.out.at (k:=0) (by decide)
 simp at c0 c1 c2 c3 d0 d1;obtain⟨s0,s1,_,_,sl⟩:=HB4.out.two;obtain⟨t0,t1,_,_,tl⟩:=HB8.out.two;clear k4 K2 K3;go_quiet (fail);go_wp2;go_ret;exact⟨rfl,K4.out.drewN _⟩
end Go.Proofs.YtamjmcdlddocgaaGreat
