/- Package row's small functions: slices.Clone, whole, Check. Package row's Check and the reference's Row: what is wrong with a row. The reference's Fault, Fits; package row's gcd, empty; the reference's rowNone. The reference's Row, bare, common. The reference's Row: what is wrong with a row. Package row's turned. Package row's turned: the walk. Package row's Not. Package row's Not, of rows that can be turned round. The plain law of tidied rows. Package row's Tidy. -/
import Derived.Test.YtaiffmebphhdaaaGreatBaseB
import Derived.Test.YtaiffmebphhdaaaGreatBaseA
import Derived.Lib.SliceRun
import Derived.Deep.DeepCutAuto
import Derived.OneCell
namespace Go.Proofs.YtaiffmebphhdaaaGreat
set_option maxRecDepth 100000
set_option maxHeartbeats 16000000
set_option linter.unusedSimpArgs false
set_option linter.unusedVariables false
open Go.ChangeShapes Go.WideShapes Go.RowKit
def zcT (xs:List Int)(w:World)(e:Ending)(w':World):Prop:=∃v,e= .returned v∧bD w' w.heap.size v xs∧Keep au w w'
theorem oP (w:World)(v:Value)(l:List Int)(h:aW w v l)(hl:l.length≤1000):Calls Tryz.prog 57 #[v] w (zcT l w):=by
 have H:=zh h;obtain⟨oa,cap,hv,_,_,hc⟩:=h;subst hv;have hn:=fun w=>Go.Lib.run_eql_slice_nil (P:=Tryz.prog) w 38 3 oa l.length cap 0 0 Tryz.underlying38;rcases oa with _ | a
 ·have hl0:l= []:=by
   rcases l with _ | ⟨x,l⟩
   ·rfl
   obtain⟨_,_,h,_⟩:=hc sm;cases h
  subst hl0;clear hc;simp only [List.length_nil,Option.isNone_none,Option.isNone_some]at hn ⊢;go_enter Tryz.func57,Tryz.ntmps57;go_wp2;go_ret;exact⟨_,rfl,bD.nil _ _,Keep.refl _ _⟩
 clear hc;simp only [Option.isNone_none,Option.isNone_some]at hn;have ho:bD (w.alloc (.cells #[] TI)) w.heap.size (.slice (some ⟨w.heap.size,0,none⟩) 0 0) []:=World.ownsRow_made w #[] 0 (Nat.le_refl _) (by simp [maxLen]) rfl;obtain⟨v',w',hr,ho',hg⟩:=jd ho (H.out.keep ((Keep.refl au w).alloc (.cells #[] TI))) (by simp;omega) sm;have HO:=zh ho';have HK:Hid (Keep au w w'):=zh (Keep.grown kp hg fun k hk=>by cases hk;exact Nat.le_refl _);clear ho ho' hg;go_enter Tryz.func57,Tryz.ntmps57;go_wp2_with (at_builtin;refine aY _ _ 38 _ _ rfl rfl rfl rfl hr ?_);go_ret;exact⟨_,rfl,HO.out,HK.out⟩
def bZ (x:Int):Prop:= -1000000≤x∧x≤1000000
instance (x:Int):Decidable (bZ x):=by unfold bZ;infer_instance
theorem oQ (x:Int)(w:World):Calls Tryz.prog 58 #[.int .i64 x] w fun e w'=>e= .returned (.bool (decide (bZ x)))∧w'=w:=by
 by_cases h1: -1000000≤x
 ·by_cases h2:x≤1000000
  ·have e:decide (bZ x)=true:=bL ⟨h1,h2⟩;rw [e];have e1:decide (-1000000≤x)=true:=bL h1;have e2:decide (x≤1000000)=true:=bL h2;clear e h1 h2;go_enter Tryz.func58,Tryz.ntmps58;go_wp2;go_ret;exact⟨rfl,rfl⟩
  have e:decide (bZ x)=false:=aZ fun h=>h2 h.2;rw [e];have e1:decide (-1000000≤x)=true:=bL h1;have e2:decide (x≤1000000)=false:=aZ h2;clear e h1 h2;go_enter Tryz.func58,Tryz.ntmps58;go_wp2;go_ret;exact⟨rfl,rfl⟩
 have e:decide (bZ x)=false:=aZ fun h=>h1 h.1;rw [e];have e1:decide (-1000000≤x)=false:=aZ h1;clear e h1;go_enter Tryz.func58,Tryz.ntmps58;go_wp2;go_ret;exact⟨rfl,rfl⟩
def bI:List Int→Nat→Int × Int
 | [],_=>(0,0)
 | x::l,i=>if bZ x then bI l (i+1)else(3,i)
def gG (r:Rw)(n:Int):Int × Int:=
 if n<0∨12<n then(3,-1)else if ¬(r.kind=1∨r.kind=2∨r.kind=3)then(4,0)else if n<r.of.length then(9,0)else bI (r.of++ [r.to]) 0
def fV (p:Int × Int):Value:= .agg #[.int .i64 p.1,.int .i64 p.2]
theorem eX {l:List Int}{k i:Nat}(hk:k<l.length)(h:bZ (l[k])):bI (l.drop k) i=bI (l.drop (k+1)) (i+1):=by
 rw [List.drop_eq_getElem_cons hk,bI,if_pos h]
theorem dZ {l:List Int}{k i:Nat}(hk:k<l.length)(h:¬bZ (l[k])):bI (l.drop k) i=(3,(i:Int)):=by
 rw [List.drop_eq_getElem_cons hk,bI,if_neg h]
theorem gH {l:List Int}{k i:Nat}(hk:l.length≤k):bI (l.drop k) i=(0,0):=by
 rw [List.drop_eq_nil_of_le hk,bI]
theorem RD (w:World)(v:Value)(r:Rw)(n:Int)(h:pE w v r)(hn:n<0∨12<n):
  Calls Tryz.prog 32 #[v,.int .i64 n] w fun e w'=>e= .returned (fV (3,-1))∧Keep au w w':=by
 obtain⟨sv,rfl,hi,_,_⟩:=h;obtain⟨oa,cap,rfl,_⟩:=hi.len;clear hi;by_cases h1:n<0
 ·have e1:decide (n<0)=true:=bL h1;clear hn h1;go_enter Tryz.func32,Tryz.ntmps32;go_wp2;refine bodyPost_ret (by simp [results,Tryz.results32,go_sem];rfl) rfl ?_;exact⟨rfl,kp⟩
 have e1:decide (n<0)=false:=aZ h1;have e2:decide (12<n)=true:=bL om;clear hn h1;go_enter Tryz.func32,Tryz.ntmps32;go_wp2;refine bodyPost_ret (by simp [results,Tryz.results32,go_sem];rfl) rfl ?_;exact⟨rfl,kp⟩
theorem NK (w:World)(v:Value)(r:Rw)(n:Int)(h:pE w v r)(hn:¬(n<0∨12<n))(hk:¬(r.kind=1∨r.kind=2∨r.kind=3)):
  Calls Tryz.prog 32 #[v,.int .i64 n] w fun e w'=>e= .returned (fV (4,0))∧Keep au w w':=by
 obtain⟨sv,rfl,hi,_,_⟩:=h;obtain⟨oa,cap,rfl,_⟩:=hi.len;clear hi;obtain⟨of,kind,tt⟩:=r;simp only at *;have e1:decide (n<0)=false:=aZ om;have e2:decide (12<n)=false:=aZ om;have e3:(kind==1)=false:=by rw [beq_eq_false_iff_ne];omega
 have e4:(kind==2)=false:=by rw [beq_eq_false_iff_ne];omega
 have e5:(kind==3)=false:=by rw [beq_eq_false_iff_ne];omega
 have f3:(kind != 1)=true:=by rw [bne_iff_ne];omega
 have f4:(kind != 2)=true:=by rw [bne_iff_ne];omega
 have f5:(kind != 3)=true:=by rw [bne_iff_ne];omega
 clear hn hk;go_enter Tryz.func32,Tryz.ntmps32;go_wp2;refine bodyPost_ret (by simp [results,Tryz.results32,go_sem];rfl) rfl ?_;exact⟨rfl,kp⟩
theorem NM (w:World)(v:Value)(r:Rw)(n:Int)(h:pE w v r)(hn:¬(n<0∨12<n))(hk:r.kind=1∨r.kind=2∨r.kind=3)(hl:n<r.of.length):
  Calls Tryz.prog 32 #[v,.int .i64 n] w fun e w'=>e= .returned (fV (9,0))∧Keep au w w':=by
 obtain⟨sv,rfl,hi,_,_⟩:=h;obtain⟨oa,cap,rfl,hm⟩:=hi.len;clear hi;obtain⟨of,kind,tt⟩:=r;simp only at *;have e1:decide (n<0)=false:=aZ om;have e2:decide (12<n)=false:=aZ om;have e6:decide (n<(of.length:Int))=true:=bL hl;unfold maxLen at hm;clear hn;rcases hk with rfl | rfl | rfl
 ·go_enter Tryz.func32,Tryz.ntmps32;go_wp2;refine bodyPost_ret (by simp [results,Tryz.results32,go_sem];rfl) rfl ?_;exact⟨rfl,kp⟩
 ·go_enter Tryz.func32,Tryz.ntmps32;go_wp2;refine bodyPost_ret (by simp [results,Tryz.results32,go_sem];rfl) rfl ?_;exact⟨rfl,kp⟩
 go_enter Tryz.func32,Tryz.ntmps32;go_wp2;refine bodyPost_ret (by simp [results,Tryz.results32,go_sem];rfl) rfl ?_;exact⟨rfl,kp⟩
theorem hall (of:List Int)(tt:Int)(h:∀x∈of,fT x)(h':fT tt):∀x∈of++ [tt],fT x:=by
 intro x hx;rcases List.mem_append.1 hx with hx | hx
 ·exact h x hx
 simp at hx;subst hx;exact h'
theorem RF (w:World)(sv:Value)(of:List Int)(tt n:Int)(hi:aW w sv of)(hto:fT tt)(hn:¬(n<0∨12<n))(hl:¬n<of.length):
  Calls Tryz.prog 32 #[.agg #[sv,.int .i64 1,.int .i64 tt],.int .i64 n] w fun e w'=>e= .returned (fV (bI (of++ [tt]) 0))∧Keep au w w':=by
 have HI:=zh hi;have hi0:=hi.all;obtain⟨oa,cap,hsv,hm⟩:=hi.len;have e1:decide (n<0)=false:=aZ om;have e2:decide (12<n)=false:=aZ om;have e6:decide (n<(of.length:Int))=false:=aZ hl;unfold maxLen at hm;subst hsv;have hl12:of.length≤12:=om;clear hn hl hi;go_enter Tryz.func32,Tryz.ntmps32;go_wp2;have qz:=zh (show Keep au w ((w.alloc (.cells #[.slice oa of.length cap,.int .i64 1,.int .i64 tt] 40)).alloc (.cells #[.int .i64 0,.int .i64 0] 28)) by exact kp);have B0:=(show aL ((w.alloc (.cells #[.slice oa of.length cap,.int .i64 1,.int .i64 tt] 40)).alloc (.cells #[.int .i64 0,.int .i64 0] 28)) w.heap.size #[.slice oa of.length cap,.int .i64 1,.int .i64 tt] by exact kc);have B1:=(show aL ((w.alloc (.cells #[.slice oa of.length cap,.int .i64 1,.int .i64 tt] 40)).alloc (.cells #[.int .i64 0,.int .i64 0] 28)) (w.heap.size+1) #[.int .i64 0,.int .i64 0] by exact kc);have HI0:=zh (HI.out.keep qz.out);have hs0:w.heap.size+1<((w.alloc (.cells #[.slice oa of.length cap,.int .i64 1,.int .i64 tt] 40)).alloc (.cells #[.int .i64 0,.int .i64 0] 28)).heap.size:=sm;generalize hw0:((w.alloc (.cells #[.slice oa of.length cap,.int .i64 1,.int .i64 tt] 40)).alloc (.cells #[.int .i64 0,.int .i64 0] 28))=w0 at *;clear hw0;have p0:=B0.cell 0;have p2:=B0.cell 2;simp at p0 p2;have lt0:=B0.lt;refine jB (fun w'=>Keep au w0 w') (.two [0,1,3,4,8] 2 (.one [] 5 (.one [] 6 (.fin [7]))) 5 (.one [] 2 (.one [] 6 (.fin [7])))) kr kr kp ?_;intro X W hne hF hcl;have aQ:=zh hcl;have hx0:=fun x=>((hF x).cell lt0).trans p0;have hx1:=fun x=>((hF x).cell lt0).trans p2;clear hF hcl;simp only [mQ,aJ,zl0,zl1,zl2,aR,Bool.false_eq_true,if_false]
 (repeat(quiet_step (fail)));refine wpQuiet_nil ?_
 refine⟨?_,?_⟩
 ·refine ay rfl rfl fun K hK=> ?_;go_simp;refine(oP _ _ of (HI0.out.keep kp) om).mono ?_;rintro e w1 ⟨v1,rfl,ho1,hk1⟩;have K1:=zh (show Keep au w0 w1 from(by exact kp:Keep au w0 w0.drew).both hk1);have RG:Hid (bD w1 w0.heap.size v1 of):=zh ho1;refine hK _ _ ⟨aQ.out _ K1.out,?_⟩;clear hK K hk1 ho1
  (repeat(quiet_step (fail)));refine wpQuiet_nil ?_
  refine ay rfl rfl fun K hK=> ?_;go_simp;have k2:Keep au w1 (w1.alloc (.cells #[.int .i64 tt] TI)):=(Keep.refl _ _).alloc _;refine hK _ _ ⟨aQ.out _ (K1.out.both k2),?_⟩;have K2:=zh (K1.out.both k2);have uF:=zh (RG.out.keep k2);have HS2:=zh (qC w1 tt hto);generalize hbb:w1.heap.size=b2 at HS2 ⊢;generalize w1.alloc (.cells #[.int .i64 tt] TI)=w2 at *;clear hK K hbb k2
  (repeat(quiet_step (fail)));refine wpQuiet_nil ?_
  refine ay rfl rfl fun K hK=> ?_;obtain⟨v3,w3,hr3,ho3,hg3⟩:=jd uF.out HS2.out (by simp;omega) K2.out.size;have K3:=zh (K2.out.grown hg3 fun k hk=>uF.out.block k hk);have hi3:=ho3.ints (hall of tt hi0 hto);have hlen:(of++ [tt]).length≤13:=by simp;omega
  obtain⟨l,hL⟩:∃l,of++ [tt]=l:=⟨_,rfl⟩;rw [hL]at hi3 hlen;have FI:=zh hL;have HI3:=zh hi3;clear hi3 hL;refine dM _ _ 38 _ _ rfl rfl rfl hr3 ?_;refine hK _ _ ⟨aQ.out _ K3.out,?_⟩;clear hK K hr3 ho3 hg3 uF HS2 K2;simp only [Act.put,List.setIfInBounds_toArray,List.set_cons_zero,List.set_cons_succ];obtain⟨oa3,cap3,rfl,hm3⟩:=HI3.out.len
  (repeat(quiet_step (fail)));refine wpQuiet_nil ?_
  refine NoPanic.normal ?_;obtain⟨c0,c1,g0,g1,lt1⟩:=(B1.keep K3.out).two;clear hx0 hx1 aQ;go_wp2;have HK:=zh (qz.out.both K3.out);go_loop [45] (fun s=>∃k:Nat,k≤l.length∧s= .int .i64 k∧bI l 0=bI (l.drop k) k) (fun s=>(l.length-intOf s).toNat)
  case atStart=>exact⟨0,om,rfl,rfl⟩
  obtain⟨k,hk,rfl,hf⟩:=hrel;have HF:=zh hf;clear hf;by_cases hkl:k<l.length
  ·have hlt:(k:Int)<(l.length:Int):=om;obtain⟨b,o,cp,hsl,hb,hc⟩:=HI3.out.at hkl;cases hsl;have jV:=zh (fun h=>eX (i:=k) hkl h);have jR:=zh (fun h=>dZ (i:=k) hkl h);generalize l[k]=x at *;go_wp2_with fail;refine(oQ x _).mono ?_;rintro e w4 ⟨rfl,rfl⟩;by_cases hx:bZ x
   ·rw [bL hx];have HN:=zh (HF.out.trans (jV.out hx));clear hx;go_wp2;go_round
    case rel=>exact⟨k+1,om,gn,HN.out⟩
    simp [intOf];omega
   rw [aZ hx];have HN:=zh (HF.out.trans (jR.out hx));clear hx;go_wp2;refine bodyPost_ret (by simp [results,Tryz.results32,go_sem,c0,c1,lt1];rfl) rfl ?_;exact⟨by rw [FI.out,HN.out];rfl,kp⟩
  have hlt:¬(k:Int)<(l.length:Int):=om;have HN:=zh (HF.out.trans (gH (i:=k) om));go_wp2;refine bodyPost_ret (by simp [results,Tryz.results32,go_sem,c0,c1,lt1];rfl) rfl ?_;exact⟨by rw [FI.out,HN.out];rfl,kp⟩
 refine ay rfl rfl fun K hK=> ?_;go_simp;have k1:Keep au w0 ((w0.alloc (.cells #[.int .i64 tt] TI)).drew):=kp;refine hK _ _ ⟨aQ.out _ k1,?_⟩;have K1:=zh k1;have JQ:Hid (aW (w0.alloc (.cells #[.int .i64 tt] TI)).drew (.slice (some ⟨w0.heap.size,0,none⟩) 1 1) [tt]):=zh ((qC w0 tt hto).keep (Keep.refl _ _).drew);generalize hb2:w0.heap.size=b2 at JQ ⊢;generalize (w0.alloc (.cells #[.int .i64 tt] TI)).drew=w1 at *;clear hK K k1
 (repeat(quiet_step (fail)));refine wpQuiet_nil ?_
 refine ay rfl rfl fun K hK=> ?_;go_simp;refine(oP w1 _ of (HI0.out.keep K1.out) om).mono ?_;rintro e w2 ⟨v1,rfl,ho2,hk2⟩;have K2:=zh (K1.out.both hk2);have uF:Hid (bD w2 w0.heap.size v1 of):=zh (World.ownsRow_mono ho2 K1.out.size);have HS2:=zh (JQ.out.keep hk2);refine hK _ _ ⟨aQ.out _ K2.out,?_⟩;clear hK K ho2 hk2
 (repeat(quiet_step (fail)));refine wpQuiet_nil ?_
 refine ay rfl rfl fun K hK=> ?_;obtain⟨v3,w3,hr3,ho3,hg3⟩:=jd uF.out HS2.out (by simp;omega) K2.out.size;have K3:=zh (K2.out.grown hg3 fun k hk=>uF.out.block k hk);have hi3:=ho3.ints (hall of tt hi0 hto);have hlen:(of++ [tt]).length≤13:=by simp;omega
 obtain⟨l,hL⟩:∃l,of++ [tt]=l:=⟨_,rfl⟩;rw [hL]at hi3 hlen;have FI:=zh hL;have HI3:=zh hi3;clear hi3 hL;refine dM _ _ 38 _ _ rfl rfl rfl hr3 ?_;refine hK _ _ ⟨aQ.out _ K3.out,?_⟩;clear hK K hr3 ho3 hg3 uF HS2 K2;simp only [Act.put,List.setIfInBounds_toArray,List.set_cons_zero,List.set_cons_succ];obtain⟨oa3,cap3,rfl,hm3⟩:=HI3.out.len
 (repeat(quiet_step (fail)));refine wpQuiet_nil ?_
 refine NoPanic.normal ?_;obtain⟨c0,c1,g0,g1,lt1⟩:=(B1.keep K3.out).two;clear hx0 hx1 aQ;go_wp2;have HK:=zh (qz.out.both K3.out);go_loop [45] (fun s=>∃k:Nat,k≤l.length∧s= .int .i64 k∧bI l 0=bI (l.drop k) k) (fun s=>(l.length-intOf s).toNat)
 case atStart=>exact⟨0,om,rfl,rfl⟩
 obtain⟨k,hk,rfl,hf⟩:=hrel;have HF:=zh hf;clear hf;by_cases hkl:k<l.length
 ·have hlt:(k:Int)<(l.length:Int):=om;obtain⟨b,o,cp,hsl,hb,hc⟩:=HI3.out.at hkl;cases hsl;have jV:=zh (fun h=>eX (i:=k) hkl h);have jR:=zh (fun h=>dZ (i:=k) hkl h);generalize l[k]=x at *;go_wp2_with fail;refine(oQ x _).mono ?_;rintro e w4 ⟨rfl,rfl⟩;by_cases hx:bZ x
  ·rw [bL hx];have HN:=zh (HF.out.trans (jV.out hx));clear hx;go_wp2;go_round
   case rel=>exact⟨k+1,om,gn,HN.out⟩
   simp [intOf];omega
  rw [aZ hx];have HN:=zh (HF.out.trans (jR.out hx));clear hx;go_wp2;refine bodyPost_ret (by simp [results,Tryz.results32,go_sem,c0,c1,lt1];rfl) rfl ?_;exact⟨by rw [FI.out,HN.out];rfl,kp⟩
 have hlt:¬(k:Int)<(l.length:Int):=om;have HN:=zh (HF.out.trans (gH (i:=k) om));go_wp2;refine bodyPost_ret (by simp [results,Tryz.results32,go_sem,c0,c1,lt1];rfl) rfl ?_;exact⟨by rw [FI.out,HN.out];rfl,kp⟩
theorem RH (w:World)(sv:Value)(of:List Int)(tt n:Int)(hi:aW w sv of)(hto:fT tt)(hn:¬(n<0∨12<n))(hl:¬n<of.length):
  Calls Tryz.prog 32 #[.agg #[sv,.int .i64 2,.int .i64 tt],.int .i64 n] w fun e w'=>e= .returned (fV (bI (of++ [tt]) 0))∧Keep au w w':=by
 have HI:=zh hi;have hi0:=hi.all;obtain⟨oa,cap,hsv,hm⟩:=hi.len;have e1:decide (n<0)=false:=aZ om;have e2:decide (12<n)=false:=aZ om;have e6:decide (n<(of.length:Int))=false:=aZ hl;unfold maxLen at hm;subst hsv;have hl12:of.length≤12:=om;clear hn hl hi;go_enter Tryz.func32,Tryz.ntmps32;go_wp2;have qz:=zh (show Keep au w ((w.alloc (.cells #[.slice oa of.length cap,.int .i64 2,.int .i64 tt] 40)).alloc (.cells #[.int .i64 0,.int .i64 0] 28)) by exact kp);have B0:=(show aL ((w.alloc (.cells #[.slice oa of.length cap,.int .i64 2,.int .i64 tt] 40)).alloc (.cells #[.int .i64 0,.int .i64 0] 28)) w.heap.size #[.slice oa of.length cap,.int .i64 2,.int .i64 tt] by exact kc);have B1:=(show aL ((w.alloc (.cells #[.slice oa of.length cap,.int .i64 2,.int .i64 tt] 40)).alloc (.cells #[.int .i64 0,.int .i64 0] 28)) (w.heap.size+1) #[.int .i64 0,.int .i64 0] by exact kc);have HI0:=zh (HI.out.keep qz.out);have hs0:w.heap.size+1<((w.alloc (.cells #[.slice oa of.length cap,.int .i64 2,.int .i64 tt] 40)).alloc (.cells #[.int .i64 0,.int .i64 0] 28)).heap.size:=sm;generalize hw0:((w.alloc (.cells #[.slice oa of.length cap,.int .i64 2,.int .i64 tt] 40)).alloc (.cells #[.int .i64 0,.int .i64 0] 28))=w0 at *;clear hw0;have p0:=B0.cell 0;have p2:=B0.cell 2;simp at p0 p2;have lt0:=B0.lt;refine jB (fun w'=>Keep au w0 w') (.two [0,1,3,4,8] 2 (.one [] 5 (.one [] 6 (.fin [7]))) 5 (.one [] 2 (.one [] 6 (.fin [7])))) kr kr kp ?_;intro X W hne hF hcl;have aQ:=zh hcl;have hx0:=fun x=>((hF x).cell lt0).trans p0;have hx1:=fun x=>((hF x).cell lt0).trans p2;clear hF hcl;simp only [mQ,aJ,zl0,zl1,zl2,aR,Bool.false_eq_true,if_false]
 (repeat(quiet_step (fail)));refine wpQuiet_nil ?_
 refine⟨?_,?_⟩
 ·refine ay rfl rfl fun K hK=> ?_;go_simp;refine(oP _ _ of (HI0.out.keep kp) om).mono ?_;rintro e w1 ⟨v1,rfl,ho1,hk1⟩;have K1:=zh (show Keep au w0 w1 from(by exact kp:Keep au w0 w0.drew).both hk1);have RG:Hid (bD w1 w0.heap.size v1 of):=zh ho1;refine hK _ _ ⟨aQ.out _ K1.out,?_⟩;clear hK K hk1 ho1
  (repeat(quiet_step (fail)));refine wpQuiet_nil ?_
  refine ay rfl rfl fun K hK=> ?_;go_simp;have k2:Keep au w1 (w1.alloc (.cells #[.int .i64 tt] TI)):=(Keep.refl _ _).alloc _;refine hK _ _ ⟨aQ.out _ (K1.out.both k2),?_⟩;have K2:=zh (K1.out.both k2);have uF:=zh (RG.out.keep k2);have HS2:=zh (qC w1 tt hto);generalize hbb:w1.heap.size=b2 at HS2 ⊢;generalize w1.alloc (.cells #[.int .i64 tt] TI)=w2 at *;clear hK K hbb k2
  (repeat(quiet_step (fail)));refine wpQuiet_nil ?_
  refine ay rfl rfl fun K hK=> ?_;obtain⟨v3,w3,hr3,ho3,hg3⟩:=jd uF.out HS2.out (by simp;omega) K2.out.size;have K3:=zh (K2.out.grown hg3 fun k hk=>uF.out.block k hk);have hi3:=ho3.ints (hall of tt hi0 hto);have hlen:(of++ [tt]).length≤13:=by simp;omega
  obtain⟨l,hL⟩:∃l,of++ [tt]=l:=⟨_,rfl⟩;rw [hL]at hi3 hlen;have FI:=zh hL;have HI3:=zh hi3;clear hi3 hL;refine dM _ _ 38 _ _ rfl rfl rfl hr3 ?_;refine hK _ _ ⟨aQ.out _ K3.out,?_⟩;clear hK K hr3 ho3 hg3 uF HS2 K2;simp only [Act.put,List.setIfInBounds_toArray,List.set_cons_zero,List.set_cons_succ];obtain⟨oa3,cap3,rfl,hm3⟩:=HI3.out.len
  (repeat(quiet_step (fail)));refine wpQuiet_nil ?_
  refine NoPanic.normal ?_;obtain⟨c0,c1,g0,g1,lt1⟩:=(B1.keep K3.out).two;clear hx0 hx1 aQ;go_wp2;have HK:=zh (qz.out.both K3.out);go_loop [45] (fun s=>∃k:Nat,k≤l.length∧s= .int .i64 k∧bI l 0=bI (l.drop k) k) (fun s=>(l.length-intOf s).toNat)
  case atStart=>exact⟨0,om,rfl,rfl⟩
  obtain⟨k,hk,rfl,hf⟩:=hrel;have HF:=zh hf;clear hf;by_cases hkl:k<l.length
  ·have hlt:(k:Int)<(l.length:Int):=om;obtain⟨b,o,cp,hsl,hb,hc⟩:=HI3.out.at hkl;cases hsl;have jV:=zh (fun h=>eX (i:=k) hkl h);have jR:=zh (fun h=>dZ (i:=k) hkl h);generalize l[k]=x at *;go_wp2_with fail;refine(oQ x _).mono ?_;rintro e w4 ⟨rfl,rfl⟩;by_cases hx:bZ x
   ·rw [bL hx];have HN:=zh (HF.out.trans (jV.out hx));clear hx;go_wp2;go_round
    case rel=>exact⟨k+1,om,gn,HN.out⟩
    simp [intOf];omega
   rw [aZ hx];have HN:=zh (HF.out.trans (jR.out hx));clear hx;go_wp2;refine bodyPost_ret (by simp [results,Tryz.results32,go_sem,c0,c1,lt1];rfl) rfl ?_;exact⟨by rw [FI.out,HN.out];rfl,kp⟩
  have hlt:¬(k:Int)<(l.length:Int):=om;have HN:=zh (HF.out.trans (gH (i:=k) om));go_wp2;refine bodyPost_ret (by simp [results,Tryz.results32,go_sem,c0,c1,lt1];rfl) rfl ?_;exact⟨by rw [FI.out,HN.out];rfl,kp⟩
 refine ay rfl rfl fun K hK=> ?_;go_simp;have k1:Keep au w0 ((w0.alloc (.cells #[.int .i64 tt] TI)).drew):=kp;refine hK _ _ ⟨aQ.out _ k1,?_⟩;have K1:=zh k1;have JQ:Hid (aW (w0.alloc (.cells #[.int .i64 tt] TI)).drew (.slice (some ⟨w0.heap.size,0,none⟩) 1 1) [tt]):=zh ((qC w0 tt hto).keep (Keep.refl _ _).drew);generalize hb2:w0.heap.size=b2 at JQ ⊢;generalize (w0.alloc (.cells #[.int .i64 tt] TI)).drew=w1 at *;clear hK K k1
 (repeat(quiet_step (fail)));refine wpQuiet_nil ?_
 refine ay rfl rfl fun K hK=> ?_;go_simp;refine(oP w1 _ of (HI0.out.keep K1.out) om).mono ?_;rintro e w2 ⟨v1,rfl,ho2,hk2⟩;have K2:=zh (K1.out.both hk2);have uF:Hid (bD w2 w0.heap.size v1 of):=zh (World.ownsRow_mono ho2 K1.out.size);have HS2:=zh (JQ.out.keep hk2);refine hK _ _ ⟨aQ.out _ K2.out,?_⟩;clear hK K ho2 hk2
 (repeat(quiet_step (fail)));refine wpQuiet_nil ?_
 refine ay rfl rfl fun K hK=> ?_;obtain⟨v3,w3,hr3,ho3,hg3⟩:=jd uF.out HS2.out (by simp;omega) K2.out.size;have K3:=zh (K2.out.grown hg3 fun k hk=>uF.out.block k hk);have hi3:=ho3.ints (hall of tt hi0 hto);have hlen:(of++ [tt]).length≤13:=by simp;omega
 obtain⟨l,hL⟩:∃l,of++ [tt]=l:=⟨_,rfl⟩;rw [hL]at hi3 hlen;have FI:=zh hL;have HI3:=zh hi3;clear hi3 hL;refine dM _ _ 38 _ _ rfl rfl rfl hr3 ?_;refine hK _ _ ⟨aQ.out _ K3.out,?_⟩;clear hK K hr3 ho3 hg3 uF HS2 K2;simp only [Act.put,List.setIfInBounds_toArray,List.set_cons_zero,List.set_cons_succ];obtain⟨oa3,cap3,rfl,hm3⟩:=HI3.out.len
 (repeat(quiet_step (fail)));refine wpQuiet_nil ?_
 refine NoPanic.normal ?_;obtain⟨c0,c1,g0,g1,lt1⟩:=(B1.keep K3.out).two;clear hx0 hx1 aQ;go_wp2;have HK:=zh (qz.out.both K3.out);go_loop [45] (fun s=>∃k:Nat,k≤l.length∧s= .int .i64 k∧bI l 0=bI (l.drop k) k) (fun s=>(l.length-intOf s).toNat)
 case atStart=>exact⟨0,om,rfl,rfl⟩
 obtain⟨k,hk,rfl,hf⟩:=hrel;have HF:=zh hf;clear hf;by_cases hkl:k<l.length
 ·have hlt:(k:Int)<(l.length:Int):=om;obtain⟨b,o,cp,hsl,hb,hc⟩:=HI3.out.at hkl;cases hsl;have jV:=zh (fun h=>eX (i:=k) hkl h);have jR:=zh (fun h=>dZ (i:=k) hkl h);generalize l[k]=x at *;go_wp2_with fail;refine(oQ x _).mono ?_;rintro e w4 ⟨rfl,rfl⟩;by_cases hx:bZ x
  ·rw [bL hx];have HN:=zh (HF.out.trans (jV.out hx));clear hx;go_wp2;go_round
   case rel=>exact⟨k+1,om,gn,HN.out⟩
   simp [intOf];omega
  rw [aZ hx];have HN:=zh (HF.out.trans (jR.out hx));clear hx;go_wp2;refine bodyPost_ret (by simp [results,Tryz.results32,go_sem,c0,c1,lt1];rfl) rfl ?_;exact⟨by rw [FI.out,HN.out];rfl,kp⟩
 have hlt:¬(k:Int)<(l.length:Int):=om;have HN:=zh (HF.out.trans (gH (i:=k) om));go_wp2;refine bodyPost_ret (by simp [results,Tryz.results32,go_sem,c0,c1,lt1];rfl) rfl ?_;exact⟨by rw [FI.out,HN.out];rfl,kp⟩
theorem RI (w:World)(sv:Value)(of:List Int)(tt n:Int)(hi:aW w sv of)(hto:fT tt)(hn:¬(n<0∨12<n))(hl:¬n<of.length):
  Calls Tryz.prog 32 #[.agg #[sv,.int .i64 3,.int .i64 tt],.int .i64 n] w fun e w'=>e= .returned (fV (bI (of++ [tt]) 0))∧Keep au w w':=by
 have HI:=zh hi;have hi0:=hi.all;obtain⟨oa,cap,hsv,hm⟩:=hi.len;have e1:decide (n<0)=false:=aZ om;have e2:decide (12<n)=false:=aZ om;have e6:decide (n<(of.length:Int))=false:=aZ hl;unfold maxLen at hm;subst hsv;have hl12:of.length≤12:=om;clear hn hl hi;go_enter Tryz.func32,Tryz.ntmps32;go_wp2;have qz:=zh (show Keep au w ((w.alloc (.cells #[.slice oa of.length cap,.int .i64 3,.int .i64 tt] 40)).alloc (.cells #[.int .i64 0,.int .i64 0] 28)) by exact kp);have B0:=(show aL ((w.alloc (.cells #[.slice oa of.length cap,.int .i64 3,.int .i64 tt] 40)).alloc (.cells #[.int .i64 0,.int .i64 0] 28)) w.heap.size #[.slice oa of.length cap,.int .i64 3,.int .i64 tt] by exact kc);have B1:=(show aL ((w.alloc (.cells #[.slice oa of.length cap,.int .i64 3,.int .i64 tt] 40)).alloc (.cells #[.int .i64 0,.int .i64 0] 28)) (w.heap.size+1) #[.int .i64 0,.int .i64 0] by exact kc);have HI0:=zh (HI.out.keep qz.out);have hs0:w.heap.size+1<((w.alloc (.cells #[.slice oa of.length cap,.int .i64 3,.int .i64 tt] 40)).alloc (.cells #[.int .i64 0,.int .i64 0] 28)).heap.size:=sm;generalize hw0:((w.alloc (.cells #[.slice oa of.length cap,.int .i64 3,.int .i64 tt] 40)).alloc (.cells #[.int .i64 0,.int .i64 0] 28))=w0 at *;clear hw0;have p0:=B0.cell 0;have p2:=B0.cell 2;simp at p0 p2;have lt0:=B0.lt;refine jB (fun w'=>Keep au w0 w') (.two [0,1,3,4,8] 2 (.one [] 5 (.one [] 6 (.fin [7]))) 5 (.one [] 2 (.one [] 6 (.fin [7])))) kr kr kp ?_;intro X W hne hF hcl;have aQ:=zh hcl;have hx0:=fun x=>((hF x).cell lt0).trans p0;have hx1:=fun x=>((hF x).cell lt0).trans p2;clear hF hcl;simp only [mQ,aJ,zl0,zl1,zl2,aR,Bool.false_eq_true,if_false]
 (repeat(quiet_step (fail)));refine wpQuiet_nil ?_
 refine⟨?_,?_⟩
 ·refine ay rfl rfl fun K hK=> ?_;go_simp;refine(oP _ _ of (HI0.out.keep kp) om).mono ?_;rintro e w1 ⟨v1,rfl,ho1,hk1⟩;have K1:=zh (show Keep au w0 w1 from(by exact kp:Keep au w0 w0.drew).both hk1);have RG:Hid (bD w1 w0.heap.size v1 of):=zh ho1;refine hK _ _ ⟨aQ.out _ K1.out,?_⟩;clear hK K hk1 ho1
  (repeat(quiet_step (fail)));refine wpQuiet_nil ?_
  refine ay rfl rfl fun K hK=> ?_;go_simp;have k2:Keep au w1 (w1.alloc (.cells #[.int .i64 tt] TI)):=(Keep.refl _ _).alloc _;refine hK _ _ ⟨aQ.out _ (K1.out.both k2),?_⟩;have K2:=zh (K1.out.both k2);have uF:=zh (RG.out.keep k2);have HS2:=zh (qC w1 tt hto);generalize hbb:w1.heap.size=b2 at HS2 ⊢;generalize w1.alloc (.cells #[.int .i64 tt] TI)=w2 at *;clear hK K hbb k2
  (repeat(quiet_step (fail)));refine wpQuiet_nil ?_
  refine ay rfl rfl fun K hK=> ?_;obtain⟨v3,w3,hr3,ho3,hg3⟩:=jd uF.out HS2.out (by simp;omega) K2.out.size;have K3:=zh (K2.out.grown hg3 fun k hk=>uF.out.block k hk);have hi3:=ho3.ints (hall of tt hi0 hto);have hlen:(of++ [tt]).length≤13:=by simp;omega
  obtain⟨l,hL⟩:∃l,of++ [tt]=l:=⟨_,rfl⟩;rw [hL]at hi3 hlen;have FI:=zh hL;have HI3:=zh hi3;clear hi3 hL;refine dM _ _ 38 _ _ rfl rfl rfl hr3 ?_;refine hK _ _ ⟨aQ.out _ K3.out,?_⟩;clear hK K hr3 ho3 hg3 uF HS2 K2;simp only [Act.put,List.setIfInBounds_toArray,List.set_cons_zero,List.set_cons_succ];obtain⟨oa3,cap3,rfl,hm3⟩:=HI3.out.len
  (repeat(quiet_step (fail)));refine wpQuiet_nil ?_
  refine NoPanic.normal ?_;obtain⟨c0,c1,g0,g1,lt1⟩:=(B1.keep K3.out).two;clear hx0 hx1 aQ;go_wp2;have HK:=zh (qz.out.both K3.out);go_loop [45] (fun s=>∃k:Nat,k≤l.length∧s= .int .i64 k∧bI l 0=bI (l.drop k) k) (fun s=>(l.length-intOf s).toNat)
  case atStart=>exact⟨0,om,rfl,rfl⟩
  obtain⟨k,hk,rfl,hf⟩:=hrel;have HF:=zh hf;clear hf;by_cases hkl:k<l.length
  ·have hlt:(k:Int)<(l.length:Int):=om;obtain⟨b,o,cp,hsl,hb,hc⟩:=HI3.out.at hkl;cases hsl;have jV:=zh (fun h=>eX (i:=k) hkl h);have jR:=zh (fun h=>dZ (i:=k) hkl h);generalize l[k]=x at *;go_wp2_with fail;refine(oQ x _).mono ?_;rintro e w4 ⟨rfl,rfl⟩;by_cases hx:bZ x
   ·rw [bL hx];have HN:=zh (HF.out.trans (jV.out hx));clear hx;go_wp2;go_round
    case rel=>exact⟨k+1,om,gn,HN.out⟩
    simp [intOf];omega
   rw [aZ hx];have HN:=zh (HF.out.trans (jR.out hx));clear hx;go_wp2;refine bodyPost_ret (by simp [results,Tryz.results32,go_sem,c0,c1,lt1];rfl) rfl ?_;exact⟨by rw [FI.out,HN.out];rfl,kp⟩
  have hlt:¬(k:Int)<(l.length:Int):=om;have HN:=zh (HF.out.trans (gH (i:=k) om));go_wp2;refine bodyPost_ret (by simp [results,Tryz.results32,go_sem,c0,c1,lt1];rfl) rfl ?_;exact⟨by rw [FI.out,HN.out];rfl,kp⟩
 refine ay rfl rfl fun K hK=> ?_;go_simp;have k1:Keep au w0 ((w0.alloc (.cells #[.int .i64 tt] TI)).drew):=kp;refine hK _ _ ⟨aQ.out _ k1,?_⟩;have K1:=zh k1;have JQ:Hid (aW (w0.alloc (.cells #[.int .i64 tt] TI)).drew (.slice (some ⟨w0.heap.size,0,none⟩) 1 1) [tt]):=zh ((qC w0 tt hto).keep (Keep.refl _ _).drew);generalize hb2:w0.heap.size=b2 at JQ ⊢;generalize (w0.alloc (.cells #[.int .i64 tt] TI)).drew=w1 at *;clear hK K k1
 (repeat(quiet_step (fail)));refine wpQuiet_nil ?_
 refine ay rfl rfl fun K hK=> ?_;go_simp;refine(oP w1 _ of (HI0.out.keep K1.out) om).mono ?_;rintro e w2 ⟨v1,rfl,ho2,hk2⟩;have K2:=zh (K1.out.both hk2);have uF:Hid (bD w2 w0.heap.size v1 of):=zh (World.ownsRow_mono ho2 K1.out.size);have HS2:=zh (JQ.out.keep hk2);refine hK _ _ ⟨aQ.out _ K2.out,?_⟩;clear hK K ho2 hk2
 (repeat(quiet_step (fail)));refine wpQuiet_nil ?_
 refine ay rfl rfl fun K hK=> ?_;obtain⟨v3,w3,hr3,ho3,hg3⟩:=jd uF.out HS2.out (by simp;omega) K2.out.size;have K3:=zh (K2.out.grown hg3 fun k hk=>uF.out.block k hk);have hi3:=ho3.ints (hall of tt hi0 hto);have hlen:(of++ [tt]).length≤13:=by simp;omega
 obtain⟨l,hL⟩:∃l,of++ [tt]=l:=⟨_,rfl⟩;rw [hL]at hi3 hlen;have FI:=zh hL;have HI3:=zh hi3;clear hi3 hL;refine dM _ _ 38 _ _ rfl rfl rfl hr3 ?_;refine hK _ _ ⟨aQ.out _ K3.out,?_⟩;clear hK K hr3 ho3 hg3 uF HS2 K2;simp only [Act.put,List.setIfInBounds_toArray,List.set_cons_zero,List.set_cons_succ];obtain⟨oa3,cap3,rfl,hm3⟩:=HI3.out.len
 (repeat(quiet_step (fail)));refine wpQuiet_nil ?_
 refine NoPanic.normal ?_;obtain⟨c0,c1,g0,g1,lt1⟩:=(B1.keep K3.out).two;clear hx0 hx1 aQ;go_wp2;have HK:=zh (qz.out.both K3.out);go_loop [45] (fun s=>∃k:Nat,k≤l.length∧s= .int .i64 k∧bI l 0=bI (l.drop k) k) (fun s=>(l.length-intOf s).toNat)
 case atStart=>exact⟨0,om,rfl,rfl⟩
 obtain⟨k,hk,rfl,hf⟩:=hrel;have HF:=zh hf;clear hf;by_cases hkl:k<l.length
 ·have hlt:(k:Int)<(l.length:Int):=om;obtain⟨b,o,cp,hsl,hb,hc⟩:=HI3.out.at hkl;cases hsl;have jV:=zh (fun h=>eX (i:=k) hkl h);have jR:=zh (fun h=>dZ (i:=k) hkl h);generalize l[k]=x at *;go_wp2_with fail;refine(oQ x _).mono ?_;rintro e w4 ⟨rfl,rfl⟩;by_cases hx:bZ x
  ·rw [bL hx];have HN:=zh (HF.out.trans (jV.out hx));clear hx;go_wp2;go_round
   case rel=>exact⟨k+1,om,gn,HN.out⟩
   simp [intOf];omega
  rw [aZ hx];have HN:=zh (HF.out.trans (jR.out hx));clear hx;go_wp2;refine bodyPost_ret (by simp [results,Tryz.results32,go_sem,c0,c1,lt1];rfl) rfl ?_;exact⟨by rw [FI.out,HN.out];rfl,kp⟩
 have hlt:¬(k:Int)<(l.length:Int):=om;have HN:=zh (HF.out.trans (gH (i:=k) om));go_wp2;refine bodyPost_ret (by simp [results,Tryz.results32,go_sem,c0,c1,lt1];rfl) rfl ?_;exact⟨by rw [FI.out,HN.out];rfl,kp⟩
theorem IQ (w:World)(v:Value)(r:Rw)(n:Int)(h:pE w v r):
  Calls Tryz.prog 32 #[v,.int .i64 n] w fun e w'=>e= .returned (fV (gG r n))∧Keep au w w':=by
 unfold gG;by_cases hn:n<0∨12<n
 ·rw [if_pos hn];exact RD w v r n h hn
 rw [if_neg hn];by_cases hk:r.kind=1∨r.kind=2∨r.kind=3
 ·rw [if_neg (not_not_intro hk)];by_cases hl:n<r.of.length
  ·rw [if_pos hl];exact NM w v r n h hn hk hl
  rw [if_neg hl];obtain⟨of,kind,tt⟩:=r;obtain⟨sv,rfl,hi,_,ht,_⟩:=h;simp only at*;rcases hk with rfl | rfl | rfl
  ·exact RF w sv of tt n hi ht hn hl
  ·exact RH w sv of tt n hi ht hn hl
  exact RI w sv of tt n hi ht hn hl
 rw [if_pos hk];exact NK w v r n h hn hk
theorem gN (c a:Int)(w:World):Calls Tryz.prog 11 #[.int .i64 c,.int .i64 a] w fun e w'=>e= .returned (fV (c,a))∧Keep au w w':=by
 go_enter Tryz.func11,Tryz.ntmps11;go_wp2;refine bodyPost_ret (by simp [results,Tryz.results11,go_sem];rfl) rfl ?_;exact⟨rfl,kp⟩
theorem rP (x:Int)(w:World):Calls Tryz.prog 34 #[.int .i64 x] w fun e w'=>e= .returned (.bool (decide (bZ x)))∧w'=w:=by
 by_cases h2:x≤1000000
 ·by_cases h1: -1000000≤x
  ·have e:decide (bZ x)=true:=bL ⟨h1,h2⟩;rw [e];have e1:decide (-1000000≤x)=true:=bL h1;have e2:decide (x≤1000000)=true:=bL h2;clear e h1 h2;go_enter Tryz.func34,Tryz.ntmps34;go_wp2;go_ret;exact⟨rfl,rfl⟩
  have e:decide (bZ x)=false:=aZ fun h=>h1 h.1;rw [e];have e1:decide (-1000000≤x)=false:=aZ h1;have e2:decide (x≤1000000)=true:=bL h2;clear e h1 h2;go_enter Tryz.func34,Tryz.ntmps34;go_wp2;go_ret;exact⟨rfl,rfl⟩
 have e:decide (bZ x)=false:=aZ fun h=>h2 h.2;rw [e];have e2:decide (x≤1000000)=false:=aZ h2;clear e h2;go_enter Tryz.func34,Tryz.ntmps34;go_wp2;go_ret;exact⟨rfl,rfl⟩
theorem aW.take {w:World}{oa:Option Addr}{n cap:Nat}{l:List Int}(h:aW w (.slice oa n cap) l){k:Nat}(hk:k≤l.length):aW w (.slice oa k cap) (l.take k):=by
 obtain⟨XL,cap',hv,hm,hx,hc⟩:=h;cases hv;have hl:(l.take k).length=k:=by rw [List.length_take];omega
 refine⟨oa,cap,by rw [hl],om,fun x hx'=>hx x (List.mem_of_mem_take hx'),fun hne=> ?_⟩;obtain⟨b,o,e,hb,hcell⟩:=hc (by rintro rfl;simp at hne);refine⟨b,o,e,hb,fun i x hi=>hcell i x ?_⟩;have:i<k:=by have:=(List.getElem?_eq_some_iff.1 hi).1;omega
 rwa [List.getElem?_take,if_pos this]at hi
theorem NN (w:World)(v:Value)(r:Rw)(n:Int)(h:pE w v r)(hn:n<0∨12<n):
  Calls Tryz.prog 21 #[v,.int .i64 n] w fun e w'=>e= .returned (fV (3,-1))∧Keep au w w':=by
 obtain⟨sv,rfl,hi,_,_⟩:=h;obtain⟨oa,cap,rfl,_⟩:=hi.len;clear hi;by_cases h1:n<0
 ·have e1:decide (n<0)=true:=bL h1;clear hn h1;go_enter Tryz.func21,Tryz.ntmps21;go_wp2_with fail;refine(gN 3 (-1) _).mono ?_;rintro e wf ⟨rfl,pQ⟩;have HK:Hid (Keep au w wf):=zh (Keep.both kp pQ);have vK:aL wf (w.heap.size+1) #[.int .i64 0,.int .i64 0]:=aL.keep kc pQ;obtain⟨r0,r1,r2,r3,rl⟩:=vK.two;have rn:¬wf.heap.size=w.heap.size+1:=om;clear vK pQ;unfold fV;go_wp2;refine bodyPost_ret (by simp [results,Tryz.results21,go_sem,r0,r1,rl,rn];rfl) rfl ?_;exact⟨rfl,kp⟩
 have e1:decide (n<0)=false:=aZ h1;have e2:decide (12<n)=true:=bL om;clear hn h1;go_enter Tryz.func21,Tryz.ntmps21;go_wp2_with fail;refine(gN 3 (-1) _).mono ?_;rintro e wf ⟨rfl,pQ⟩;have HK:Hid (Keep au w wf):=zh (Keep.both kp pQ);have vK:aL wf (w.heap.size+1) #[.int .i64 0,.int .i64 0]:=aL.keep kc pQ;obtain⟨r0,r1,r2,r3,rl⟩:=vK.two;have rn:¬wf.heap.size=w.heap.size+1:=om;clear vK pQ;unfold fV;go_wp2;refine bodyPost_ret (by simp [results,Tryz.results21,go_sem,r0,r1,rl,rn];rfl) rfl ?_;exact⟨rfl,kp⟩
theorem Kr (w:World)(v:Value)(r:Rw)(n:Int)(h:pE w v r)(hn:¬(n<0∨12<n))(hk:¬(r.kind=1∨r.kind=2∨r.kind=3)):
  Calls Tryz.prog 21 #[v,.int .i64 n] w fun e w'=>e= .returned (fV (4,0))∧Keep au w w':=by
 obtain⟨sv,rfl,hi,_,_⟩:=h;obtain⟨oa,cap,rfl,_⟩:=hi.len;clear hi;obtain⟨of,kind,tt⟩:=r;simp only at *;have e1:decide (n<0)=false:=aZ om;have e2:decide (12<n)=false:=aZ om;have f3:(kind != 1)=true:=by rw [bne_iff_ne];omega
 have f4:(kind != 2)=true:=by rw [bne_iff_ne];omega
 have f5:(kind != 3)=true:=by rw [bne_iff_ne];omega
 have e3:(kind==1)=false:=by rw [beq_eq_false_iff_ne];omega
 have e4:(kind==2)=false:=by rw [beq_eq_false_iff_ne];omega
 have e5:(kind==3)=false:=by rw [beq_eq_false_iff_ne];omega
 clear hn hk;go_enter Tryz.func21,Tryz.ntmps21;go_wp2_with fail;refine(gN 4 0 _).mono ?_;rintro e wf ⟨rfl,pQ⟩;have HK:Hid (Keep au w wf):=zh (Keep.both kp pQ);have vK:aL wf (w.heap.size+1) #[.int .i64 0,.int .i64 0]:=aL.keep kc pQ;obtain⟨r0,r1,r2,r3,rl⟩:=vK.two;have rn:¬wf.heap.size=w.heap.size+1:=om;clear vK pQ;unfold fV;go_wp2;refine bodyPost_ret (by simp [results,Tryz.results21,go_sem,r0,r1,rl,rn];rfl) rfl ?_;exact⟨rfl,kp⟩
theorem Kt (w:World)(v:Value)(r:Rw)(n:Int)(h:pE w v r)(hn:¬(n<0∨12<n))(hk:r.kind=1∨r.kind=2∨r.kind=3)(hl:n<r.of.length):
  Calls Tryz.prog 21 #[v,.int .i64 n] w fun e w'=>e= .returned (fV (9,0))∧Keep au w w':=by
 obtain⟨sv,rfl,hi,_,_⟩:=h;obtain⟨oa,cap,rfl,hm⟩:=hi.len;clear hi;obtain⟨of,kind,tt⟩:=r;simp only at *;have e1:decide (n<0)=false:=aZ om;have e2:decide (12<n)=false:=aZ om;have e6:decide (n<(of.length:Int))=true:=bL hl;unfold maxLen at hm;clear hn;rcases hk with rfl | rfl | rfl
 ·go_enter Tryz.func21,Tryz.ntmps21;go_wp2_with fail;refine(gN 9 0 _).mono ?_;rintro e wf ⟨rfl,pQ⟩;have HK:Hid (Keep au w wf):=zh (Keep.both kp pQ);have vK:aL wf (w.heap.size+1) #[.int .i64 0,.int .i64 0]:=aL.keep kc pQ;obtain⟨r0,r1,r2,r3,rl⟩:=vK.two;have rn:¬wf.heap.size=w.heap.size+1:=om;clear vK pQ;unfold fV;go_wp2;refine bodyPost_ret (by simp [results,Tryz.results21,go_sem,r0,r1,rl,rn];rfl) rfl ?_;exact⟨rfl,kp⟩
 ·go_enter Tryz.func21,Tryz.ntmps21;go_wp2_with fail;refine(gN 9 0 _).mono ?_;rintro e wf ⟨rfl,pQ⟩;have HK:Hid (Keep au w wf):=zh (Keep.both kp pQ);have vK:aL wf (w.heap.size+1) #[.int .i64 0,.int .i64 0]:=aL.keep kc pQ;obtain⟨r0,r1,r2,r3,rl⟩:=vK.two;have rn:¬wf.heap.size=w.heap.size+1:=om;clear vK pQ;unfold fV;go_wp2;refine bodyPost_ret (by simp [results,Tryz.results21,go_sem,r0,r1,rl,rn];rfl) rfl ?_;exact⟨rfl,kp⟩
 go_enter Tryz.func21,Tryz.ntmps21;go_wp2_with fail;refine(gN 9 0 _).mono ?_;rintro e wf ⟨rfl,pQ⟩;have HK:Hid (Keep au w wf):=zh (Keep.both kp pQ);have vK:aL wf (w.heap.size+1) #[.int .i64 0,.int .i64 0]:=aL.keep kc pQ;obtain⟨r0,r1,r2,r3,rl⟩:=vK.two;have rn:¬wf.heap.size=w.heap.size+1:=om;clear vK pQ;unfold fV;go_wp2;refine bodyPost_ret (by simp [results,Tryz.results21,go_sem,r0,r1,rl,rn];rfl) rfl ?_;exact⟨rfl,kp⟩
theorem NP (w:World)(sv:Value)(of:List Int)(tt n:Int)(hi:aW w sv of)(hto:fT tt)(hn:¬(n<0∨12<n))(hl:¬n<of.length):
  Calls Tryz.prog 21 #[.agg #[sv,.int .i64 1,.int .i64 tt],.int .i64 n] w fun e w'=>e= .returned (fV (bI (of++ [tt]) 0))∧Keep au w w':=by
 have HI:=zh hi;obtain⟨oa,cap,hsv,hm⟩:=hi.len;have e1:decide (n<0)=false:=aZ om;have e2:decide (12<n)=false:=aZ om;have e6:decide (n<(of.length:Int))=false:=aZ hl;unfold maxLen at hm;subst hsv;have hl12:of.length≤12:=om;clear hn hl hi;obtain⟨l,hL⟩:∃l,of++ [tt]=l:=⟨_,rfl⟩;have HL:=zh hL;have Cz:Hid (l.length=of.length+1):=zh (by rw [← hL];simp);rw [hL];clear hL;go_enter Tryz.func21,Tryz.ntmps21;go_wp2;have qz:=zh (show Keep au w ((w.alloc (.cells #[.slice oa of.length cap,.int .i64 1,.int .i64 tt] 40)).alloc (.cells #[.int .i64 0,.int .i64 0] 28)) by exact kp);have B0:=(show aL ((w.alloc (.cells #[.slice oa of.length cap,.int .i64 1,.int .i64 tt] 40)).alloc (.cells #[.int .i64 0,.int .i64 0] 28)) w.heap.size #[.slice oa of.length cap,.int .i64 1,.int .i64 tt] by exact kc);have B1:=(show aL ((w.alloc (.cells #[.slice oa of.length cap,.int .i64 1,.int .i64 tt] 40)).alloc (.cells #[.int .i64 0,.int .i64 0] 28)) (w.heap.size+1) #[.int .i64 0,.int .i64 0] by exact kc);have HI0:=zh (HI.out.keep qz.out);generalize hw0:((w.alloc (.cells #[.slice oa of.length cap,.int .i64 1,.int .i64 tt] 40)).alloc (.cells #[.int .i64 0,.int .i64 0] 28))=w0 at *;clear hw0;have p0:=B0.cell 0;have p2:=B0.cell 2;simp at p0 p2;have lt0:=B0.lt;obtain⟨s0,s1,s2,s3,s4⟩:=B1.two;go_loop [5] (fun s=>∃k:Nat,k≤of.length∧s= .int .i64 k∧bI l 0=bI (l.drop k) k) (fun s=>(of.length-intOf s).toNat)
 case atStart=>exact⟨0,om,rfl,rfl⟩
 obtain⟨k,hk,rfl,hf⟩:=hrel;have HF:=zh hf;clear hf;by_cases hkl:k<of.length
 ·have hlt:(k:Int)<(of.length:Int):=om;obtain⟨b,o,cp,hsl,hb,hc⟩:=HI0.out.at hkl;cases hsl;have hge:l[k]'(by rw [Cz.out];omega)=of[k]:=by
   have:=HL.out;subst this;exact List.getElem_append_left hkl
  have jV:=zh (eX (l:=l) (k:=k) (i:=k) (by rw [Cz.out];omega));have jR:=zh (dZ (l:=l) (k:=k) (i:=k) (by rw [Cz.out];omega));rw [hge]at jV jR;clear hge;generalize of[k]=x at *;go_wp2_with fail;refine(rP x _).mono ?_;rintro e w4 ⟨rfl,rfl⟩;by_cases hx:bZ x
  ·rw [bL hx];have HN:=zh (HF.out.trans (jV.out hx));clear hx;go_wp2;go_round
   case rel=>exact⟨k+1,om,gn,HN.out⟩
   simp [intOf];omega
  rw [aZ hx];have HN:=zh (HF.out.trans (jR.out hx));clear hx;go_wp2_with fail;refine(gN 3 (k:Int) _).mono ?_;rintro e wf ⟨rfl,pQ⟩;have HK:Hid (Keep au w wf):=zh (Keep.both (qz.out) pQ);have vK:aL wf (w.heap.size+1) #[.int .i64 0,.int .i64 0]:=aL.keep (B1) pQ;obtain⟨r0,r1,r2,r3,rl⟩:=vK.two;have rn:¬wf.heap.size=w.heap.size+1:=om;clear vK pQ;unfold fV;go_wp2;refine bodyPost_ret (by simp [results,Tryz.results21,go_sem,r0,r1,rl,rn];rfl) rfl ?_;exact⟨by rw [HN.out];rfl,kp⟩
 have hlt:¬(k:Int)<(of.length:Int):=om;obtain rfl:k=of.length:=om;have hge:l[of.length]'(by rw [Cz.out];omega)=tt:=by
  have:=HL.out;subst this;simp
 have jV:=zh (eX (l:=l) (k:=of.length) (i:=of.length) (by rw [Cz.out];omega));have jR:=zh (dZ (l:=l) (k:=of.length) (i:=of.length) (by rw [Cz.out];omega));rw [hge]at jV jR;clear hge;go_wp2_with fail;refine(rP tt _).mono ?_;rintro e w4 ⟨rfl,rfl⟩;by_cases hx:bZ tt
 ·rw [bL hx];have HN:=zh ((HF.out.trans (jV.out hx)).trans (gH (by rw [Cz.out];omega)));have HK:=qz;clear hx;go_wp2;refine bodyPost_ret (by simp [results,Tryz.results21,go_sem,s0,s1,s4];rfl) rfl ?_;exact⟨by rw [HN.out];rfl,kp⟩
 rw [aZ hx];have HN:=zh (HF.out.trans (jR.out hx));clear hx;go_wp2_with fail;refine(gN 3 (of.length:Int) _).mono ?_;rintro e wf ⟨rfl,pQ⟩;have HK:Hid (Keep au w wf):=zh (Keep.both (qz.out) pQ);have vK:aL wf (w.heap.size+1) #[.int .i64 0,.int .i64 0]:=aL.keep (B1) pQ;obtain⟨r0,r1,r2,r3,rl⟩:=vK.two;have rn:¬wf.heap.size=w.heap.size+1:=om;clear vK pQ;unfold fV;go_wp2;refine bodyPost_ret (by simp [results,Tryz.results21,go_sem,r0,r1,rl,rn];rfl) rfl ?_;exact⟨by rw [HN.out];rfl,kp⟩
theorem NQ (w:World)(sv:Value)(of:List Int)(tt n:Int)(hi:aW w sv of)(hto:fT tt)(hn:¬(n<0∨12<n))(hl:¬n<of.length):
  Calls Tryz.prog 21 #[.agg #[sv,.int .i64 2,.int .i64 tt],.int .i64 n] w fun e w'=>e= .returned (fV (bI (of++ [tt]) 0))∧Keep au w w':=by
 have HI:=zh hi;obtain⟨oa,cap,hsv,hm⟩:=hi.len;have e1:decide (n<0)=false:=aZ om;have e2:decide (12<n)=false:=aZ om;have e6:decide (n<(of.length:Int))=false:=aZ hl;unfold maxLen at hm;subst hsv;have hl12:of.length≤12:=om;clear hn hl hi;obtain⟨l,hL⟩:∃l,of++ [tt]=l:=⟨_,rfl⟩;have HL:=zh hL;have Cz:Hid (l.length=of.length+1):=zh (by rw [← hL];simp);rw [hL];clear hL;go_enter Tryz.func21,Tryz.ntmps21;go_wp2;have qz:=zh (show Keep au w ((w.alloc (.cells #[.slice oa of.length cap,.int .i64 2,.int .i64 tt] 40)).alloc (.cells #[.int .i64 0,.int .i64 0] 28)) by exact kp);have B0:=(show aL ((w.alloc (.cells #[.slice oa of.length cap,.int .i64 2,.int .i64 tt] 40)).alloc (.cells #[.int .i64 0,.int .i64 0] 28)) w.heap.size #[.slice oa of.length cap,.int .i64 2,.int .i64 tt] by exact kc);have B1:=(show aL ((w.alloc (.cells #[.slice oa of.length cap,.int .i64 2,.int .i64 tt] 40)).alloc (.cells #[.int .i64 0,.int .i64 0] 28)) (w.heap.size+1) #[.int .i64 0,.int .i64 0] by exact kc);have HI0:=zh (HI.out.keep qz.out);generalize hw0:((w.alloc (.cells #[.slice oa of.length cap,.int .i64 2,.int .i64 tt] 40)).alloc (.cells #[.int .i64 0,.int .i64 0] 28))=w0 at *;clear hw0;have p0:=B0.cell 0;have p2:=B0.cell 2;simp at p0 p2;have lt0:=B0.lt;obtain⟨s0,s1,s2,s3,s4⟩:=B1.two;go_loop [5] (fun s=>∃k:Nat,k≤of.length∧s= .int .i64 k∧bI l 0=bI (l.drop k) k) (fun s=>(of.length-intOf s).toNat)
 case atStart=>exact⟨0,om,rfl,rfl⟩
 obtain⟨k,hk,rfl,hf⟩:=hrel;have HF:=zh hf;clear hf;by_cases hkl:k<of.length
 ·have hlt:(k:Int)<(of.length:Int):=om;obtain⟨b,o,cp,hsl,hb,hc⟩:=HI0.out.at hkl;cases hsl;have hge:l[k]'(by rw [Cz.out];omega)=of[k]:=by
   have:=HL.out;subst this;exact List.getElem_append_left hkl
  have jV:=zh (eX (l:=l) (k:=k) (i:=k) (by rw [Cz.out];omega));have jR:=zh (dZ (l:=l) (k:=k) (i:=k) (by rw [Cz.out];omega));rw [hge]at jV jR;clear hge;generalize of[k]=x at *;go_wp2_with fail;refine(rP x _).mono ?_;rintro e w4 ⟨rfl,rfl⟩;by_cases hx:bZ x
  ·rw [bL hx];have HN:=zh (HF.out.trans (jV.out hx));clear hx;go_wp2;go_round
   case rel=>exact⟨k+1,om,gn,HN.out⟩
   simp [intOf];omega
  rw [aZ hx];have HN:=zh (HF.out.trans (jR.out hx));clear hx;go_wp2_with fail;refine(gN 3 (k:Int) _).mono ?_;rintro e wf ⟨rfl,pQ⟩;have HK:Hid (Keep au w wf):=zh (Keep.both (qz.out) pQ);have vK:aL wf (w.heap.size+1) #[.int .i64 0,.int .i64 0]:=aL.keep (B1) pQ;obtain⟨r0,r1,r2,r3,rl⟩:=vK.two;have rn:¬wf.heap.size=w.heap.size+1:=om;clear vK pQ;unfold fV;go_wp2;refine bodyPost_ret (by simp [results,Tryz.results21,go_sem,r0,r1,rl,rn];rfl) rfl ?_;exact⟨by rw [HN.out];rfl,kp⟩
 have hlt:¬(k:Int)<(of.length:Int):=om;obtain rfl:k=of.length:=om;have hge:l[of.length]'(by rw [Cz.out];omega)=tt:=by
  have:=HL.out;subst this;simp
 have jV:=zh (eX (l:=l) (k:=of.length) (i:=of.length) (by rw [Cz.out];omega));have jR:=zh (dZ (l:=l) (k:=of.length) (i:=of.length) (by rw [Cz.out];omega));rw [hge]at jV jR;clear hge;go_wp2_with fail;refine(rP tt _).mono ?_;rintro e w4 ⟨rfl,rfl⟩;by_cases hx:bZ tt
 ·rw [bL hx];have HN:=zh ((HF.out.trans (jV.out hx)).trans (gH (by rw [Cz.out];omega)));have HK:=qz;clear hx;go_wp2;refine bodyPost_ret (by simp [results,Tryz.results21,go_sem,s0,s1,s4];rfl) rfl ?_;exact⟨by rw [HN.out];rfl,kp⟩
 rw [aZ hx];have HN:=zh (HF.out.trans (jR.out hx));clear hx;go_wp2_with fail;refine(gN 3 (of.length:Int) _).mono ?_;rintro e wf ⟨rfl,pQ⟩;have HK:Hid (Keep au w wf):=zh (Keep.both (qz.out) pQ);have vK:aL wf (w.heap.size+1) #[.int .i64 0,.int .i64 0]:=aL.keep (B1) pQ;obtain⟨r0,r1,r2,r3,rl⟩:=vK.two;have rn:¬wf.heap.size=w.heap.size+1:=om;clear vK pQ;unfold fV;go_wp2;refine bodyPost_ret (by simp [results,Tryz.results21,go_sem,r0,r1,rl,rn];rfl) rfl ?_;exact⟨by rw [HN.out];rfl,kp⟩
theorem NR (w:World)(sv:Value)(of:List Int)(tt n:Int)(hi:aW w sv of)(hto:fT tt)(hn:¬(n<0∨12<n))(hl:¬n<of.length):
  Calls Tryz.prog 21 #[.agg #[sv,.int .i64 3,.int .i64 tt],.int .i64 n] w fun e w'=>e= .returned (fV (bI (of++ [tt]) 0))∧Keep au w w':=by
 have HI:=zh hi;obtain⟨oa,cap,hsv,hm⟩:=hi.len;have e1:decide (n<0)=false:=aZ om;have e2:decide (12<n)=false:=aZ om;have e6:decide (n<(of.length:Int))=false:=aZ hl;unfold maxLen at hm;subst hsv;have hl12:of.length≤12:=om;clear hn hl hi;obtain⟨l,hL⟩:∃l,of++ [tt]=l:=⟨_,rfl⟩;have HL:=zh hL;have Cz:Hid (l.length=of.length+1):=zh (by rw [← hL];simp);rw [hL];clear hL;go_enter Tryz.func21,Tryz.ntmps21;go_wp2;have qz:=zh (show Keep au w ((w.alloc (.cells #[.slice oa of.length cap,.int .i64 3,.int .i64 tt] 40)).alloc (.cells #[.int .i64 0,.int .i64 0] 28)) by exact kp);have B0:=(show aL ((w.alloc (.cells #[.slice oa of.length cap,.int .i64 3,.int .i64 tt] 40)).alloc (.cells #[.int .i64 0,.int .i64 0] 28)) w.heap.size #[.slice oa of.length cap,.int .i64 3,.int .i64 tt] by exact kc);have B1:=(show aL ((w.alloc (.cells #[.slice oa of.length cap,.int .i64 3,.int .i64 tt] 40)).alloc (.cells #[.int .i64 0,.int .i64 0] 28)) (w.heap.size+1) #[.int .i64 0,.int .i64 0] by exact kc);have HI0:=zh (HI.out.keep qz.out);generalize hw0:((w.alloc (.cells #[.slice oa of.length cap,.int .i64 3,.int .i64 tt] 40)).alloc (.cells #[.int .i64 0,.int .i64 0] 28))=w0 at *;clear hw0;have p0:=B0.cell 0;have p2:=B0.cell 2;simp at p0 p2;have lt0:=B0.lt;obtain⟨s0,s1,s2,s3,s4⟩:=B1.two;go_loop [5] (fun s=>∃k:Nat,k≤of.length∧s= .int .i64 k∧bI l 0=bI (l.drop k) k) (fun s=>(of.length-intOf s).toNat)
 case atStart=>exact⟨0,om,rfl,rfl⟩
 obtain⟨k,hk,rfl,hf⟩:=hrel;have HF:=zh hf;clear hf;by_cases hkl:k<of.length
 ·have hlt:(k:Int)<(of.length:Int):=om;obtain⟨b,o,cp,hsl,hb,hc⟩:=HI0.out.at hkl;cases hsl;have hge:l[k]'(by rw [Cz.out];omega)=of[k]:=by
   have:=HL.out;subst this;exact List.getElem_append_left hkl
  have jV:=zh (eX (l:=l) (k:=k) (i:=k) (by rw [Cz.out];omega));have jR:=zh (dZ (l:=l) (k:=k) (i:=k) (by rw [Cz.out];omega));rw [hge]at jV jR;clear hge;generalize of[k]=x at *;go_wp2_with fail;refine(rP x _).mono ?_;rintro e w4 ⟨rfl,rfl⟩;by_cases hx:bZ x
  ·rw [bL hx];have HN:=zh (HF.out.trans (jV.out hx));clear hx;go_wp2;go_round
   case rel=>exact⟨k+1,om,gn,HN.out⟩
   simp [intOf];omega
  rw [aZ hx];have HN:=zh (HF.out.trans (jR.out hx));clear hx;go_wp2_with fail;refine(gN 3 (k:Int) _).mono ?_;rintro e wf ⟨rfl,pQ⟩;have HK:Hid (Keep au w wf):=zh (Keep.both (qz.out) pQ);have vK:aL wf (w.heap.size+1) #[.int .i64 0,.int .i64 0]:=aL.keep (B1) pQ;obtain⟨r0,r1,r2,r3,rl⟩:=vK.two;have rn:¬wf.heap.size=w.heap.size+1:=om;clear vK pQ;unfold fV;go_wp2;refine bodyPost_ret (by simp [results,Tryz.results21,go_sem,r0,r1,rl,rn];rfl) rfl ?_;exact⟨by rw [HN.out];rfl,kp⟩
 have hlt:¬(k:Int)<(of.length:Int):=om;obtain rfl:k=of.length:=om;have hge:l[of.length]'(by rw [Cz.out];omega)=tt:=by
  have:=HL.out;subst this;simp
 have jV:=zh (eX (l:=l) (k:=of.length) (i:=of.length) (by rw [Cz.out];omega));have jR:=zh (dZ (l:=l) (k:=of.length) (i:=of.length) (by rw [Cz.out];omega));rw [hge]at jV jR;clear hge;go_wp2_with fail;refine(rP tt _).mono ?_;rintro e w4 ⟨rfl,rfl⟩;by_cases hx:bZ tt
 ·rw [bL hx];have HN:=zh ((HF.out.trans (jV.out hx)).trans (gH (by rw [Cz.out];omega)));have HK:=qz;clear hx;go_wp2;refine bodyPost_ret (by simp [results,Tryz.results21,go_sem,s0,s1,s4];rfl) rfl ?_;exact⟨by rw [HN.out];rfl,kp⟩
 rw [aZ hx];have HN:=zh (HF.out.trans (jR.out hx));clear hx;go_wp2_with fail;refine(gN 3 (of.length:Int) _).mono ?_;rintro e wf ⟨rfl,pQ⟩;have HK:Hid (Keep au w wf):=zh (Keep.both (qz.out) pQ);have vK:aL wf (w.heap.size+1) #[.int .i64 0,.int .i64 0]:=aL.keep (B1) pQ;obtain⟨r0,r1,r2,r3,rl⟩:=vK.two;have rn:¬wf.heap.size=w.heap.size+1:=om;clear vK pQ;unfold fV;go_wp2;refine bodyPost_ret (by simp [results,Tryz.results21,go_sem,r0,r1,rl,rn];rfl) rfl ?_;exact⟨by rw [HN.out];rfl,kp⟩
theorem Ew (w:World)(v:Value)(r:Rw)(n:Int)(h:pE w v r):
  Calls Tryz.prog 21 #[v,.int .i64 n] w fun e w'=>e= .returned (fV (gG r n))∧Keep au w w':=by
 unfold gG;by_cases hn:n<0∨12<n
 ·rw [if_pos hn];exact NN w v r n h hn
 rw [if_neg hn];by_cases hk:r.kind=1∨r.kind=2∨r.kind=3
 ·rw [if_neg (not_not_intro hk)];by_cases hl:n<r.of.length
  ·rw [if_pos hl];exact Kt w v r n h hn hk hl
  rw [if_neg hl];obtain⟨of,kind,tt⟩:=r;obtain⟨sv,rfl,hi,_,ht,_⟩:=h;simp only at*;rcases hk with rfl | rfl | rfl
  ·exact NP w sv of tt n hi ht hn hl
  ·exact NQ w sv of tt n hi ht hn hl
  exact NR w sv of tt n hi ht hn hl
 rw [if_pos hk];exact Kr w v r n h hn hk
def zbG:List Int→Int
 | []=>0
 | x::l=>if x=0 then zbG l else x.sign
def ZW (k:Int)(l:List Int):Prop:=k=3∧zbG l<0
instance (k:Int)(l:List Int):Decidable (ZW k l):=by unfold ZW;infer_instance
theorem gD.grown0 {w w':World}{g:Nat}{xs:List Int}(h:gD w g xs)(k:Keep au w w'):gD w' g xs:=h.keep k
theorem aL.three {w:World}{k:Nat}{x y z:Value}(h:aL w k #[x,y,z]):
  w.cell? ⟨k,0,none⟩=some x∧w.cell? ⟨k,1,none⟩=some y∧w.cell? ⟨k,2,none⟩=some z∧w.frozen? ⟨k,0,none⟩=false∧w.frozen? ⟨k,1,none⟩=false∧w.frozen? ⟨k,2,none⟩=false∧k<w.heap.size:=
 ⟨h.cell 0,h.cell 1,h.cell 2,h.free 0,h.free 1,h.free 2,h.lt⟩
theorem iC {w0 w:World}(h:Keep au w0 w){b i:Nat}(v:Value)(hb:w0.heap.size≤b):Keep au w0 (w.setCell ⟨b,i,none⟩ v):=h.setCell _ fun hh=>absurd hh om
def bG:Rw:=⟨[],0,0⟩
theorem World.ownsRow_other {w:World}{base:Nat}{v:Value}{xs:List Int}(h:bD w base v xs){b i:Nat}{u:Value}(hb:v.ownBlock≠some b):bD (w.setCell ⟨b,i,none⟩ u) base v xs:=ownsRow_setCell_other h hb u
theorem aL.grown {w w':World}{k:Nat}{A:Array Value}{row:Option Nat}(h:aL w k A)(hg:w.grownBy w' row)(hr:∀b,row=some b→b≠k):aL w' k A:=by
 have hl:=h.lt;obtain⟨t,h⟩:=h;exact⟨t,by rw [hg.block k hl fun e=>hr k e.symm rfl];exact h⟩
theorem bD.blk {w:World}{base:Nat}{v:Value}{xs:List Int}(h:bD w base v xs)(h0:0<xs.length):∃g cap,v= .slice (some ⟨g,0,none⟩) xs.length cap∧base≤g∧xs.length≤cap∧gD w g xs:=by
 obtain⟨hl,h | ⟨g,cap,cur,hv,hb,hg,hl',_,hs,ht⟩⟩:=h
 ·omega
 refine⟨g,cap,hv,hb,hl',cur,⟨_,hg⟩,fun i hi=> ?_⟩;have h1:(cur.toList.take (xs.length*1))[i]? =(iv xs)[i]? :=by rw [ht]
 rw [List.getElem?_take,if_pos om]at h1;have h2:cur.toList[i]? =cur[i]? :=sm;rw [← h2,h1];simp [iv,List.getD,hi]
end Go.Proofs.YtaiffmebphhdaaaGreat
