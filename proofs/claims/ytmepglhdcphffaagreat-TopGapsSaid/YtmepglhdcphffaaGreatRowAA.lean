/- Package row's small functions: slices.Clone, whole, Check. Package row's Check and the reference's Row: what is wrong with a row. The reference's Fault, Fits; package row's gcd, empty; the reference's rowNone. The reference's Row, bare, common. The reference's Row: what is wrong with a row. Package row's turned. Package row's turned: the walk. Package row's Not. Package row's Not, of rows that can be turned round. -/
import Derived.Test.YtmepglhdcphffaaGreatBaseB
import Derived.Test.YtmepglhdcphffaaGreatBaseA
import Derived.Lib.SliceRun
import Derived.Deep.DeepCutAuto
import Derived.OneCell
namespace Go.Proofs.YtmepglhdcphffaaGreat
set_option maxRecDepth 100000
set_option maxHeartbeats 16000000
set_option linter.unusedSimpArgs false
set_option linter.unusedVariables false
open Go.ChangeShapes Go.WideShapes Go.RowKit
def zfh (xs:List Int)(w:World)(e:Ending)(w':World):Prop:=∃v,e= .returned v∧bC w' w.heap.size v xs∧Keep au w w'
theorem Gq (w:World)(v:Value)(l:List Int)(h:aR w v l)(hl:l.length≤1000):Calls Tryz.prog 26 #[v] w (zfh l w):=by
 have H:=zh h;obtain⟨oa,cap,hv,_,_,hc⟩:=h;subst hv;have hn:=fun w=>Go.Lib.run_eql_slice_nil (P:=Tryz.prog) w 22 3 oa l.length cap 0 0 Tryz.underlying22;rcases oa with _ | a
 ·have hl0:l= []:=by
   rcases l with _ | ⟨x,l⟩
   ·rfl
   obtain⟨_,_,h,_⟩:=hc sm;cases h
  subst hl0;clear hc;simp only [List.length_nil,Option.isNone_none,Option.isNone_some]at hn ⊢;go_enter Tryz.func26,Tryz.ntmps26;go_wp2;go_ret;exact⟨_,rfl,bC.nil _ _,Keep.refl _ _⟩
 clear hc;simp only [Option.isNone_none,Option.isNone_some]at hn;have ho:bC (w.alloc (.cells #[] TI)) w.heap.size (.slice (some ⟨w.heap.size,0,none⟩) 0 0) []:=World.ownsRow_made w #[] 0 (Nat.le_refl _) (by simp [maxLen]) rfl;obtain⟨v',w',hr,ho',hg⟩:=yx ho (H.out.keep ((Keep.refl au w).alloc (.cells #[] TI))) (by simp;omega) sm;have HO:=zh ho';have HK:Hid (Keep au w w'):=zh (Keep.grown kp hg fun k hk=>by cases hk;exact Nat.le_refl _);clear ho ho' hg;go_enter Tryz.func26,Tryz.ntmps26;go_wp2_with (at_builtin;refine aV _ _ 22 _ _ rfl rfl rfl rfl hr ?_);go_ret;exact⟨_,rfl,HO.out,HK.out⟩
def fO (x:Int):Prop:= -1000000≤x∧x≤1000000
instance (x:Int):Decidable (fO x):=by unfold fO;infer_instance
theorem TM (x:Int)(w:World):Calls Tryz.prog 132 #[.int .i64 x] w fun e w'=>e= .returned (.bool (decide (fO x)))∧w'=w:=by
 by_cases h1: -1000000≤x
 ·by_cases h2:x≤1000000
  ·have e:decide (fO x)=true:=cZ ⟨h1,h2⟩;rw [e];have e1:decide (-1000000≤x)=true:=cZ h1;have e2:decide (x≤1000000)=true:=cZ h2;clear e h1 h2;go_enter Tryz.func132,Tryz.ntmps132;go_wp2;go_ret;exact⟨rfl,rfl⟩
  have e:decide (fO x)=false:=bQ fun h=>h2 h.2;rw [e];have e1:decide (-1000000≤x)=true:=cZ h1;have e2:decide (x≤1000000)=false:=bQ h2;clear e h1 h2;go_enter Tryz.func132,Tryz.ntmps132;go_wp2;go_ret;exact⟨rfl,rfl⟩
 have e:decide (fO x)=false:=bQ fun h=>h1 h.1;rw [e];have e1:decide (-1000000≤x)=false:=bQ h1;clear e h1;go_enter Tryz.func132,Tryz.ntmps132;go_wp2;go_ret;exact⟨rfl,rfl⟩
def eF:List Int→Nat→Int × Int
 | [],_=>(0,0)
 | x::l,i=>if fO x then eF l (i+1)else(3,i)
def ku (r:Rw)(n:Int):Int × Int:=
 if n<0∨12<n then(3,-1)else if ¬(r.kind=1∨r.kind=2∨r.kind=3)then(4,0)else if n<r.of.length then(9,0)else eF (r.of++ [r.to]) 0
def fV (p:Int × Int):Value:= .agg #[.int .i64 p.1,.int .i64 p.2]
theorem LZ {l:List Int}{k i:Nat}(hk:k<l.length)(h:fO (l[k])):eF (l.drop k) i=eF (l.drop (k+1)) (i+1):=by
 rw [List.drop_eq_getElem_cons hk,eF,if_pos h]
theorem Ja {l:List Int}{k i:Nat}(hk:k<l.length)(h:¬fO (l[k])):eF (l.drop k) i=(3,(i:Int)):=by
 rw [List.drop_eq_getElem_cons hk,eF,if_neg h]
theorem Jb {l:List Int}{k i:Nat}(hk:l.length≤k):eF (l.drop k) i=(0,0):=by
 rw [List.drop_eq_nil_of_le hk,eF]
theorem TN (w:World)(v:Value)(r:Rw)(n:Int)(h:tF w v r)(hn:n<0∨12<n):
  Calls Tryz.prog 65 #[v,.int .i64 n] w fun e w'=>e= .returned (fV (3,-1))∧Keep au w w':=by
 obtain⟨sv,rfl,hi,_,_⟩:=h;obtain⟨oa,cap,rfl,_⟩:=hi.len;clear hi;by_cases h1:n<0
 focus
  have e1:decide (n<0)=true:=cZ h1
 rotate_left
 focus
  have e1:decide (n<0)=false:=bQ h1;have e2:decide (12<n)=true:=cZ om
 rotate_left
 all_goals
  clear hn h1;go_enter Tryz.func65,Tryz.ntmps65;go_wp2;refine bodyPost_ret (by simp [results,Tryz.results65,go_sem];rfl) rfl ?_;exact⟨rfl,kp⟩
theorem O1 (w:World)(v:Value)(r:Rw)(n:Int)(h:tF w v r)(hn:¬(n<0∨12<n))(hk:¬(r.kind=1∨r.kind=2∨r.kind=3)):
  Calls Tryz.prog 65 #[v,.int .i64 n] w fun e w'=>e= .returned (fV (4,0))∧Keep au w w':=by
 obtain⟨sv,rfl,hi,_,_⟩:=h;obtain⟨oa,cap,rfl,_⟩:=hi.len;clear hi;obtain⟨of,kind,tt⟩:=r;simp only at *;have e1:decide (n<0)=false:=bQ om;have e2:decide (12<n)=false:=bQ om;have e3:(kind==1)=false:=by rw [beq_eq_false_iff_ne];omega
 have e4:(kind==2)=false:=by rw [beq_eq_false_iff_ne];omega
 have e5:(kind==3)=false:=by rw [beq_eq_false_iff_ne];omega
 have f3:(kind != 1)=true:=by rw [bne_iff_ne];omega
 have f4:(kind != 2)=true:=by rw [bne_iff_ne];omega
 have f5:(kind != 3)=true:=by rw [bne_iff_ne];omega
 clear hn hk;go_enter Tryz.func65,Tryz.ntmps65;go_wp2;refine bodyPost_ret (by simp [results,Tryz.results65,go_sem];rfl) rfl ?_;exact⟨rfl,kp⟩
theorem O3 (w:World)(v:Value)(r:Rw)(n:Int)(h:tF w v r)(hn:¬(n<0∨12<n))(hk:r.kind=1∨r.kind=2∨r.kind=3)(hl:n<r.of.length):
  Calls Tryz.prog 65 #[v,.int .i64 n] w fun e w'=>e= .returned (fV (9,0))∧Keep au w w':=by
 obtain⟨sv,rfl,hi,_,_⟩:=h;obtain⟨oa,cap,rfl,hm⟩:=hi.len;clear hi;obtain⟨of,kind,tt⟩:=r;simp only at *;have e1:decide (n<0)=false:=bQ om;have e2:decide (12<n)=false:=bQ om;have e6:decide (n<(of.length:Int))=true:=cZ hl;unfold maxLen at hm;clear hn;rcases hk with rfl | rfl | rfl
 ·go_enter Tryz.func65,Tryz.ntmps65;go_wp2;refine bodyPost_ret (by simp [results,Tryz.results65,go_sem];rfl) rfl ?_;exact⟨rfl,kp⟩
 ·go_enter Tryz.func65,Tryz.ntmps65;go_wp2;refine bodyPost_ret (by simp [results,Tryz.results65,go_sem];rfl) rfl ?_;exact⟨rfl,kp⟩
 go_enter Tryz.func65,Tryz.ntmps65;go_wp2;refine bodyPost_ret (by simp [results,Tryz.results65,go_sem];rfl) rfl ?_;exact⟨rfl,kp⟩
theorem hall (of:List Int)(tt:Int)(h:∀x∈of,dA x)(h':dA tt):∀x∈of++ [tt],dA x:=by
 intro x hx;rcases List.mem_append.1 hx with hx | hx
 ·exact h x hx
 simp at hx;subst hx;exact h'
theorem TP (kd:Int)(hkd:kd=1∨kd=2∨kd=3)(w:World)(sv:Value)(of:List Int)(tt n:Int)(hi:aR w sv of)(hto:dA tt)(hn:¬(n<0∨12<n))(hl:¬n<of.length):
  Calls Tryz.prog 65 #[.agg #[sv,.int .i64 kd,.int .i64 tt],.int .i64 n] w fun e w'=>e= .returned (fV (eF (of++ [tt]) 0))∧Keep au w w':=by
 have HI:=zh hi;have hi0:=hi.all;obtain⟨oa,cap,hsv,hm⟩:=hi.len;have e1:decide (n<0)=false:=bQ om;have e2:decide (12<n)=false:=bQ om;have e6:decide (n<(of.length:Int))=false:=bQ hl;unfold maxLen at hm;subst hsv;have hl12:of.length≤12:=om;obtain⟨w0,hw0⟩:∃w0:World,w0=((w.alloc (.cells #[.slice oa of.length cap,.int .i64 kd,.int .i64 tt] 34)).alloc (.cells #[.int .i64 0,.int .i64 0] 38)):=⟨_,rfl⟩;have Bf:Hid (Keep au w w0):=zh (by rw [hw0];exact kp);have B0:aL w0 w.heap.size #[.slice oa of.length cap,.int .i64 kd,.int .i64 tt]:=by rw [hw0];exact kc
 have B1:aL w0 (w.heap.size+1) #[.int .i64 0,.int .i64 0]:=by rw [hw0];exact kc
 have HI0:=zh (HI.out.keep Bf.out);have hs0:w.heap.size+1<w0.heap.size:=by rw [hw0];simp
 clear hn hl hi;rcases hkd with rfl | rfl | rfl
 all_goals
  go_enter Tryz.func65,Tryz.ntmps65;go_wp2;rw [← hw0];clear hw0;have p0:=B0.cell 0;have p2:=B0.cell 2;simp at p0 p2;have lt0:=B0.lt;refine DJ (fun w'=>Keep au w0 w') (.two [0,1,3,4,8] 2 (.one [] 5 (.one [] 6 (.fin [7]))) 5 (.one [] 2 (.one [] 6 (.fin [7])))) kr kr kp ?_;intro X W hne hF hcl;have aY:=zh hcl;have hx0:=fun x=>((hF x).cell lt0).trans p0;have hx1:=fun x=>((hF x).cell lt0).trans p2;clear hF hcl;simp only [vM,aJ,zl0,zl1,zl2,aX,Bool.false_eq_true,if_false]
  (repeat(quiet_step (fail)));refine wpQuiet_nil ?_
  refine⟨?_,?_⟩
  focus
   refine ay rfl rfl fun K hK=> ?_;go_simp;refine(Gq _ _ of (HI0.out.keep kp) om).mono ?_;rintro e w1 ⟨v1,rfl,ho1,hk1⟩;have K1:=zh (show Keep au w0 w1 from(by exact kp:Keep au w0 w0.drew).both hk1);have HO1:Hid (bC w1 w0.heap.size v1 of):=zh ho1;refine hK _ _ ⟨aY.out _ K1.out,?_⟩;clear hK K hk1 ho1
   (repeat(quiet_step (fail)));refine wpQuiet_nil ?_
   refine ay rfl rfl fun K hK=> ?_;go_simp;have k2:Keep au w1 (w1.alloc (.cells #[.int .i64 tt] TI)):=(Keep.refl _ _).alloc _;refine hK _ _ ⟨aY.out _ (K1.out.both k2),?_⟩;have K2:=zh (K1.out.both k2);have Im:=zh (HO1.out.keep k2);have HS2:=zh (Ho w1 tt hto);generalize hbb:w1.heap.size=b2 at HS2 ⊢;generalize w1.alloc (.cells #[.int .i64 tt] TI)=w2 at *;clear hK K hbb k2
  rotate_left
  focus
   refine ay rfl rfl fun K hK=> ?_;go_simp;have k1:Keep au w0 ((w0.alloc (.cells #[.int .i64 tt] TI)).drew):=kp;refine hK _ _ ⟨aY.out _ k1,?_⟩;have K1:=zh k1;have Jq:Hid (aR (w0.alloc (.cells #[.int .i64 tt] TI)).drew (.slice (some ⟨w0.heap.size,0,none⟩) 1 1) [tt]):=zh ((Ho w0 tt hto).keep (Keep.refl _ _).drew);generalize hb2:w0.heap.size=b2 at Jq ⊢;generalize (w0.alloc (.cells #[.int .i64 tt] TI)).drew=w1 at *;clear hK K k1
   (repeat(quiet_step (fail)));refine wpQuiet_nil ?_
   refine ay rfl rfl fun K hK=> ?_;go_simp;refine(Gq w1 _ of (HI0.out.keep K1.out) om).mono ?_;rintro e w2 ⟨v1,rfl,ho2,hk2⟩;have K2:=zh (K1.out.both hk2);have Im:Hid (bC w2 w0.heap.size v1 of):=zh (World.ownsRow_mono ho2 K1.out.size);have HS2:=zh (Jq.out.keep hk2);refine hK _ _ ⟨aY.out _ K2.out,?_⟩;clear hK K ho2 hk2
  rotate_left
 all_goals
  (repeat(quiet_step (fail)));refine wpQuiet_nil ?_
  refine ay rfl rfl fun K hK=> ?_;obtain⟨v3,w3,hr3,ho3,hg3⟩:=yx Im.out HS2.out (by simp;omega) K2.out.size;have K3:=zh (K2.out.grown hg3 fun k hk=>Im.out.block k hk);have hi3:=ho3.ints (hall of tt hi0 hto);have hlen:(of++ [tt]).length≤13:=by simp;omega
  obtain⟨l,hL⟩:∃l,of++ [tt]=l:=⟨_,rfl⟩;rw [hL]at hi3 hlen;have YI:=zh hL;have HI3:=zh hi3;clear hi3 hL;refine dn _ _ 22 _ _ rfl rfl rfl hr3 ?_;refine hK _ _ ⟨aY.out _ K3.out,?_⟩;clear hK K hr3 ho3 hg3 Im HS2 K2;simp only [Act.put,List.setIfInBounds_toArray,List.set_cons_zero,List.set_cons_succ];obtain⟨oa3,cap3,rfl,hm3⟩:=HI3.out.len
  (repeat(quiet_step (fail)));refine wpQuiet_nil ?_
  refine NoPanic.normal ?_;obtain⟨c0,c1,g0,g1,lt1⟩:=(B1.keep K3.out).two;clear hx0 hx1 aY;go_wp2;have HK:=zh (Bf.out.both K3.out);go_loop [45] (fun s=>∃k:Nat,k≤l.length∧s= .int .i64 k∧eF l 0=eF (l.drop k) k) (fun s=>(l.length-intOf s).toNat)
  case atStart=>exact⟨0,om,rfl,rfl⟩
  obtain⟨k,hk,rfl,hf⟩:=hrel;have HF:=zh hf;clear hf;by_cases hkl:k<l.length
  ·have hlt:(k:Int)<(l.length:Int):=om;obtain⟨b,o,cp,hsl,hb,hc⟩:=HI3.out.at hkl;cases hsl;have zH:=zh (fun h=>LZ (i:=k) hkl h);have U9:=zh (fun h=>Ja (i:=k) hkl h);generalize l[k]=x at *;go_wp2_with fail;refine(TM x _).mono ?_;rintro e w4 ⟨rfl,rfl⟩;by_cases hx:fO x
   ·rw [cZ hx];have HN:=zh (HF.out.trans (zH.out hx));clear hx;go_wp2;go_round
    case rel=>exact⟨k+1,om,gn,HN.out⟩
    simp [intOf];omega
   rw [bQ hx];have HN:=zh (HF.out.trans (U9.out hx));clear hx;go_wp2;refine bodyPost_ret (by simp [results,Tryz.results65,go_sem,c0,c1,lt1];rfl) rfl ?_;exact⟨by rw [YI.out,HN.out];rfl,kp⟩
  have hlt:¬(k:Int)<(l.length:Int):=om;have HN:=zh (HF.out.trans (Jb (i:=k) om));go_wp2;refine bodyPost_ret (by simp [results,Tryz.results65,go_sem,c0,c1,lt1];rfl) rfl ?_;exact⟨by rw [YI.out,HN.out];rfl,kp⟩
theorem xY (w:World)(v:Value)(r:Rw)(n:Int)(h:tF w v r):
  Calls Tryz.prog 65 #[v,.int .i64 n] w fun e w'=>e= .returned (fV (ku r n))∧Keep au w w':=by
 unfold ku;by_cases hn:n<0∨12<n
 ·rw [if_pos hn];exact TN w v r n h hn
 rw [if_neg hn];by_cases hk:r.kind=1∨r.kind=2∨r.kind=3
 ·rw [if_neg (not_not_intro hk)];by_cases hl:n<r.of.length
  ·rw [if_pos hl];exact O3 w v r n h hn hk hl
  rw [if_neg hl];obtain⟨of,kind,tt⟩:=r;obtain⟨sv,rfl,hi,_,ht,_⟩:=h;simp only at *;exact TP kind hk w sv of tt n hi ht hn hl
 rw [if_pos hk];exact O1 w v r n h hn hk
theorem aR.take {w:World}{oa:Option Addr}{n cap:Nat}{l:List Int}(h:aR w (.slice oa n cap) l){k:Nat}(hk:k≤l.length):aR w (.slice oa k cap) (l.take k):=by
 obtain⟨MP,cap',hv,hm,hx,hc⟩:=h;cases hv;have hl:(l.take k).length=k:=by rw [List.length_take];omega
 refine⟨oa,cap,by rw [hl],om,fun x hx'=>hx x (List.mem_of_mem_take hx'),fun hne=> ?_⟩;obtain⟨b,o,e,hb,hcell⟩:=hc (by rintro rfl;simp at hne);refine⟨b,o,e,hb,fun i x hi=>hcell i x ?_⟩;have:i<k:=by have:=(List.getElem?_eq_some_iff.1 hi).1;omega
 rwa [List.getElem?_take,if_pos this]at hi
def zd0:List Int→Int
 | []=>0
 | x::l=>if x=0 then zd0 l else x.sign
def zbh (k:Int)(l:List Int):Prop:=k=3∧zd0 l<0
instance (k:Int)(l:List Int):Decidable (zbh k l):=by unfold zbh;infer_instance
theorem bW.grown0 {w w':World}{g:Nat}{xs:List Int}(h:bW w g xs)(k:Keep au w w'):bW w' g xs:=h.keep k
theorem aL.three {w:World}{k:Nat}{x y z:Value}(h:aL w k #[x,y,z]):
  w.cell? ⟨k,0,none⟩=some x∧w.cell? ⟨k,1,none⟩=some y∧w.cell? ⟨k,2,none⟩=some z∧w.frozen? ⟨k,0,none⟩=false∧w.frozen? ⟨k,1,none⟩=false∧w.frozen? ⟨k,2,none⟩=false∧k<w.heap.size:=
 ⟨h.cell 0,h.cell 1,h.cell 2,h.free 0,h.free 1,h.free 2,h.lt⟩
theorem aQ {w0 w:World}(h:Keep au w0 w){b i:Nat}(v:Value)(hb:w0.heap.size≤b):Keep au w0 (w.setCell ⟨b,i,none⟩ v):=h.setCell _ fun hh=>absurd hh om
def bZ:Rw:=⟨[],0,0⟩
theorem aL.grown {w w':World}{k:Nat}{A:Array Value}{row:Option Nat}(h:aL w k A)(hg:w.grownBy w' row)(hr:∀b,row=some b→b≠k):aL w' k A:=by
 have hl:=h.lt;obtain⟨t,h⟩:=h;exact⟨t,by rw [hg.block k hl fun e=>hr k e.symm rfl];exact h⟩
end Go.Proofs.YtmepglhdcphffaaGreat
