/- The law CutMore: its walk. -/
import Derived.Test.YtaiffmebphhdaaaGreatCuDD
import Derived.Test.YtaiffmebphhdaaaGreatCuMM
import Derived.Test.YtaiffmebphhdaaaGreatCuMM
import Derived.Test.YtaiffmebphhdaaaGreatSpK
import Derived.Test.YtaiffmebphhdaaaGreatRegVV
import Derived.Test.YtaiffmebphhdaaaGreatCuDD
namespace Go.Proofs.YtaiffmebphhdaaaGreat
set_option maxRecDepth 100000
set_option maxHeartbeats 32000000
set_option linter.unusedSimpArgs false
set_option linter.unusedVariables false
open Go.ChangeShapes Go.WideShapes Go.RowKit
theorem kE {S:Nat→Bool}{e d:Nat}(h:mark S e d=false):S d=false:=by
 unfold mark at h;split at h
 ·cases h
 exact h
theorem yg (S:Nat→Bool)(e:Nat):mark S e e=true:=by unfold mark;rw [if_pos rfl]
theorem gM {S:Nat→Bool}{e d:Nat}(h:d≠e):mark S e d=S d:=by unfold mark;rw [if_neg h]
theorem jQ.lowerB {w0 w:World}{base base':Nat}{v:Value}{l:List Rw}(h:jQ w0 w base v l)(hb:base'≤base):jQ w0 w base' v l:=by
 obtain⟨xs,h1,h2,h3⟩:=h;exact⟨xs,h1,h2,World.ownsRow_mono h3 hb⟩
theorem VZ {w0 w:World}{base:Nat}{v:Value}{l:List Rw}(hown:jQ w0 w base v l){b:Nat}{sv:Value}{r:Rw}(hb:aL w b #[sv,.int .i64 r.kind,.int .i64 r.to])(hi:bC w0 sv r.of∧fK r.kind∧fK r.to∧pz sv)(hl:l.length+1≤1000)(hbase:base≤w.heap.size):
  ∃v' w',(Builtin.append_ #[22,22] 22 #[v,.slice (some ⟨b,0,none⟩) 1 1]).run Tryz.prog w= .ok v' w'∧jQ w0 w' base v' (l++ [r])∧w.grownBy w' v.ownBlock:=by
 obtain⟨i0,hi0,hz0,hz1,hz2⟩:=info_parts O0;obtain⟨zs,rfl,h2,h3⟩:=hown;rw [List.length_map]at hl;obtain⟨c0,c1,c2,_⟩:=hb.three;obtain⟨v',w',hr,ho,hg⟩:=vO (P:=Tryz.prog) (w:=w) (ty:=22) Tryz.underlying22 hi0 hz0 hz1 hz2 rfl (by decide) base v zs.length (zs.flatMap AQ) h3 (some ⟨b,0,none⟩) 1 1 (AQ ⟨sv,r⟩) rfl (fun _=>⟨_,rfl,fun j u hj=>by
  rcases j with _ | _ | _ | j
  ·simp [AQ]at hj;subst hj;exact c0
  ·simp [AQ]at hj;subst hj;exact c1
  ·simp [AQ]at hj;subst hj;exact c2
  simp [AQ]at hj⟩) (UZ (x:=⟨sv,r⟩) hi.1) (by unfold maxLen;omega) (by omega) hbase
 refine⟨v',w',hr,⟨zs++ [⟨sv,r⟩],by simp,fun x hx=> ?_,by unfold dO;rw [List.flatMap_append,List.length_append];exact(by simpa using ho)⟩,hg⟩;rcases List.mem_append.1 hx with hx | hx
 ·exact h2 x hx
 rw [List.mem_singleton]at hx;subst hx;exact hi
def RlN (S:Nat→Bool)(σ:Nat→Value):Prop:=S 4=false→S 1=true→S 12=true→∀b,σ 12= .pointer (some ⟨b,0,none⟩)→(σ 1).ownBlock≠some b
theorem Oj {S:Nat→Bool}{σ:Nat→Value}{e:Nat}{v:Value}(h1:1≠e)(h2:12≠e)(h:RlN S σ):RlN (mark S e) (upd σ e v):=by
 intro a4 a1 a12 b hb;rw [gM h1]at a1;rw [gM h2]at a12;unfold upd at hb ⊢;rw [if_neg h2]at hb;rw [if_neg h1];exact h (kE a4) a1 a12 b hb
def uz (w:World)(b:Nat)(x y:Int):Prop:=w.heap[b]? =some (.cells #[.int .i64 x,.int .i64 y] 28 (0,0))
theorem uz.keep {w w':World}{b:Nat}{x y:Int}(h:uz w b x y)(k:Keep au w w'):uz w' b x y:=(k.block b (lt_of_heap h) fun _ h=>h).trans h
theorem uz.blk {w:World}{b:Nat}{x y:Int}(h:uz w b x y):aL w b #[.int .i64 x,.int .i64 y]:=⟨_,h⟩
theorem uz.lt {w:World}{b:Nat}{x y:Int}(h:uz w b x y):b<w.heap.size:=lt_of_heap h
theorem uz.set2 {w:World}{b:Nat}{x y:Int}(h:uz w b x y)(p q:Int):uz ((w.setCell ⟨b,0,none⟩ (.int .i64 p)).setCell ⟨b,1,none⟩ (.int .i64 q)) b p q:=heap_setCell_same 1 _ (heap_setCell_same 0 _ h)
theorem Yo {w:World}{b:Nat}{x y:Int}{v:Value}{l:List Fq}(h:jl w 0 v l)(hb:uz w b x y)(p q:Value):jl ((w.setCell ⟨b,0,none⟩ p).setCell ⟨b,1,none⟩ q) 0 v l:=by
 have ne:v.ownBlock≠some b:=fun e1=>by
  obtain⟨A',e2⟩:=iy h e1;rw [hb]at e2;exact absurd (Obj.cells.inj (Option.some.inj e2)).2.1 (by decide)
 exact ownsRow_setCell_other (a:=⟨b,1,none⟩) (ownsRow_setCell_other (a:=⟨b,0,none⟩) h ne p) ne q
def yh (wr:World)(lv rv:Value)(iv5:Value)(RQ c1 c2:Int)(L:List Rw)(c:Rw)(sv:Value)(pt:List Fq)(S:Nat→Bool):Nat→Value→World→Prop
 | 0,v,_=>v=lv
 | 1,v,w=>S 4=false→jQ wr w wr.heap.size v L
 | 2,v,_=>v=rv
 | 3,v,w=>S 4=false→∃b,v= .slice (some ⟨b,0,none⟩) 1 1∧aL w b #[sv,.int .i64 c.kind,.int .i64 c.to]
 | 4,v,w=>S 6=false→bW w v (L++ [c])
 | 5,v,_=>v=iv5
 | 6,v,w=>∃u t,v= .tuple #[.int .i64 RQ,u,t,.agg #[.int .i64 c1,.int .i64 c2]]∧jl w 0 u pt
 | 7,v,w=>∃u t,v= .tuple #[.int .i64 RQ,u,t,.agg #[.int .i64 c1,.int .i64 c2]]∧jl w 0 u pt
 | 8,v,_=>v= .int .i64 RQ
 | 9,v,w=>jl w 0 v pt
 | 10,_,_=>True
 | 11,v,_=>v= .agg #[.int .i64 c1,.int .i64 c2]
 | 12,v,w=>∃b,v= .pointer (some ⟨b,0,none⟩)∧wr.heap.size≤b∧(S 16=false→uz w b 0 0)∧(S 16=true→uz w b c1 c2)
 | 13,v,_=>v= .int .i64 RQ
 | 14,v,w=>jl w 0 v pt
 | 15,_,_=>True
 | 16,_,_=>True
 | _,_,_=>True
theorem dM {wr:World}{lv rv:Value}{iv5:Value}{RQ c1 c2:Int}{L:List Rw}{c:Rw}{sv:Value}{pt:List Fq}{S:Nat→Bool}{w w':World}{e:Nat}(he:e≠16)(k:Keep au w w'):∀(d:Nat) (v:Value),yh wr lv rv iv5 RQ c1 c2 L c sv pt S d v w→yh wr lv rv iv5 RQ c1 c2 L c sv pt (mark S e) d v w'
 | 0,v,h=>h
 | 1,v,h=>fun hm=>(h (kE hm)).keep k
 | 2,v,h=>h
 | 3,v,h=>fun hm=>by
  obtain⟨b,e1,h1⟩:=h (kE hm);exact⟨b,e1,h1.keep k⟩
 | 4,v,h=>fun hm=>(h (kE hm)).keep k
 | 5,v,h=>h
 | 6,v,h=>by
  obtain⟨u,t,h1,h2⟩:=h;exact⟨u,t,h1,dO.keep h2 k⟩
 | 7,v,h=>by
  obtain⟨u,t,h1,h2⟩:=h;exact⟨u,t,h1,dO.keep h2 k⟩
 | 8,v,h=>h
 | 9,v,h=>dO.keep h k
 | 10,v,h=>h
 | 11,v,h=>h
 | 12,v,h=>by
  obtain⟨b,e1,h0,h1,h2⟩:=h;refine⟨b,e1,h0,fun hm=>(h1 (kE hm)).keep k,fun hm=>(h2 ?_).keep k⟩;rwa [gM (by omega)]at hm
 | 13,v,h=>h
 | 14,v,h=>dO.keep h k
 | 15,v,h=>h
 | 16,v,h=>h
 | n+17,v,h=>trivial
theorem Ol {wr:World}{lv rv:Value}{iv5:Value}{RQ c1 c2:Int}{L:List Rw}{c:Rw}{sv:Value}{pt:List Fq}{S:Nat→Bool}{σ:Nat→Value}{w w':World}(hg:w.grownBy w' (σ 1).ownBlock)(hr:RlN S σ)(h4:S 4=false)(h1:S 1=true)(h16:S 16=false)(h6:S 6=false)(h7:S 7=false)(h9:S 9=false)(h14:S 14=false):∀(d:Nat),d≠4→S d=true→yh wr lv rv iv5 RQ c1 c2 L c sv pt S d (σ d) w→yh wr lv rv iv5 RQ c1 c2 L c sv pt (mark S 4) d (σ d) w'
 | 0,_,_,h=>h
 | 1,_,_,h=>fun hm=>by rw [yg]at hm;cases hm
 | 2,_,_,h=>h
 | 3,_,_,h=>fun hm=>by rw [yg]at hm;cases hm
 | 4,hd,_,_=>absurd rfl hd
 | 5,_,_,h=>h
 | 6,_,hs,_=>absurd hs (by rw [h6];decide)
 | 7,_,hs,_=>absurd hs (by rw [h7];decide)
 | 8,_,_,h=>h
 | 9,_,hs,_=>absurd hs (by rw [h9];decide)
 | 10,_,_,h=>h
 | 11,_,_,h=>h
 | 12,_,hs,h=>by
  obtain⟨b,e1,h0,h2,h3⟩:=h;have hb:=h2 h16;refine⟨b,e1,h0,fun _=>(hg.block b hb.lt fun e=>hr h4 h1 hs b e1 e.symm).trans hb,fun hm=> ?_⟩;rw [gM (by omega),h16]at hm;cases hm
 | 13,_,_,h=>h
 | 14,_,hs,_=>absurd hs (by rw [h14];decide)
 | 15,_,_,h=>h
 | 16,_,_,h=>h
 | n+17,_,_,h=>trivial
theorem RU {wr:World}{lv rv:Value}{iv5:Value}{RQ c1 c2:Int}{L:List Rw}{c:Rw}{sv:Value}{pt:List Fq}{S:Nat→Bool}{σ:Nat→Value}{w w':World}{b7:Nat}(e0:σ 12= .pointer (some ⟨b7,0,none⟩))(hg:wr.heap.size≤b7)(hb:uz w' b7 c1 c2)(h4:S 4=true)(h6:S 6=true)(hO:∀v l,jl w 0 v l→jl w' 0 v l):∀(d:Nat),d≠16→S d=true→yh wr lv rv iv5 RQ c1 c2 L c sv pt S d (σ d) w→yh wr lv rv iv5 RQ c1 c2 L c sv pt (mark S 16) d (σ d) w'
 | 0,_,_,h=>h
 | 1,_,_,h=>fun hm=>by rw [gM (by omega),h4]at hm;cases hm
 | 2,_,_,h=>h
 | 3,_,_,h=>fun hm=>by rw [gM (by omega),h4]at hm;cases hm
 | 4,_,_,h=>fun hm=>by rw [gM (by omega),h6]at hm;cases hm
 | 5,_,_,h=>h
 | 6,_,_,h=>by
  obtain⟨u,t,h1,h2⟩:=h;exact⟨u,t,h1,hO _ _ h2⟩
 | 7,_,_,h=>by
  obtain⟨u,t,h1,h2⟩:=h;exact⟨u,t,h1,hO _ _ h2⟩
 | 8,_,_,h=>h
 | 9,_,_,h=>hO _ _ h
 | 10,_,_,h=>h
 | 11,_,_,h=>h
 | 12,_,_,_=>⟨b7,e0,hg,fun hm=>(by rw [yg]at hm;cases hm),fun _=>hb⟩
 | 13,_,_,h=>h
 | 14,_,_,h=>hO _ _ h
 | 15,_,_,h=>h
 | 16,hd,_,_=>absurd rfl hd
 | n+17,_,_,h=>trivial
theorem Mv (w:World)(oa:Option Addr)(ca:Nat)(oi:Option Addr)(ci:Nat)(os:Option Addr)(cs:Nat)(rows:List Rw)(ints:List Bool)(uG:List Int)(tT uo:Int)(h:bW w (.slice oa rows.length ca) rows)(hi:gI w (.slice oi ints.length ci) ints)(hr:bC w (.slice os uG.length cs) uG∧fK tT∧fK uo∧pz (.slice os uG.length cs)):
  Calls Tryz.prog 6 #[.slice oa rows.length ca,.slice oi ints.length ci,.agg #[.slice os uG.length cs,.int .i64 tT,.int .i64 uo]] w fun e w'=>e= .returned (.bool true)∧Keep au w w':=by
 have hn:fK (ints.length:Int):=by
  obtain⟨_,_,_,h1,h2⟩:=hi.len;unfold maxLen at h2;unfold fK;omega
 have CS:=fun w' (k:Keep au w w')=>zh (qR w' _ rows ints.length 3 8 9 (by decide) (h.keep k));have CS1:=fun w' v' (hv:bW w' v' [⟨uG,tT,uo⟩])=>zh (qR w' v' [⟨uG,tT,uo⟩] ints.length 3 1 9 (by decide) hv);have CD:=fun w' (k:Keep au w w')=>zh (Bf w' _ _ rows ints 300 (h.keep k) (hi.keep k) (by unfold fK;omega));have CV0:=fun w' v' (k:Keep au w w') (hv:bW w' v' (rows++ [⟨uG,tT,uo⟩]))=>zh (Bf w' v' _ (rows++ [⟨uG,tT,uo⟩]) ints 300 hv (hi.keep k) (by unfold fK;omega));have CA:=fun w' vn pt (k:Keep au w w') (hp:eT w' vn pt)=>zh (BH w' _ rows vn pt (h.keep k) hp);rw [show((9:Nat):Int)=9 from rfl]at CS CS1;obtain⟨hm1,hm2⟩:=QX rows ⟨uG,tT,uo⟩ ints 300;obtain⟨qs,hqs⟩:=VR (rows++ [⟨uG,tT,uo⟩]) ints 300;obtain⟨st1,pt1,T1,c1,c2,eR⟩:∃st pt T c1 c2,xR rows ints 300=⟨st,pt,T,(c1,c2)⟩:=⟨_,_,_,_,_,rfl⟩;obtain⟨st2,pt2,T2,d1,d2,eL⟩:∃st pt T c1 c2,xR (rows++ [⟨uG,tT,uo⟩]) ints 300=⟨st,pt,T,(c1,c2)⟩:=⟨_,_,_,_,_,rfl⟩;rw [eR]at CD hm1 hm2;rw [eL]at CV0 hm2 hqs;unfold DoQ fV at CD CV0;simp only at CD CV0 hm1 hm2 hqs;have HR:=zh h;have HSW:=zh hr;have HM1:=zh hm1;have Tk:=zh hm2;have HQS:=zh hqs;clear h hi hr eR eL hm1 hm2 hqs;go_enter Tryz.func6,Tryz.ntmps6;go_upto_region 1 with fail;have k0:Keep au w (w.alloc (.cells #[.slice os uG.length cs,.int .i64 tT,.int .i64 uo] tZ)):=(Keep.refl _ _).alloc _;have F9:Hid (aL (w.alloc (.cells #[.slice os uG.length cs,.int .i64 tT,.int .i64 uo] tZ)) w.heap.size #[.slice os uG.length cs,.int .i64 tT,.int .i64 uo]):=zh (aR _ _ rfl);have K0:=zh k0;clear k0;generalize w.alloc (.cells #[.slice os uG.length cs,.int .i64 tT,.int .i64 uo] tZ)=wa at *;generalize w.heap.size=b5 at *;go_wp2_with fail;refine(qI _).mono ?_;rintro e w1 ⟨rfl,hk⟩;have K1:=zh (K0.out.both hk);have F9:=zh (F9.out.keep hk);clear hk K0;go_wp2_with fail;refine(CS _ K1.out).out.mono ?_;rintro e w2 ⟨b,rfl,hb,hk⟩;have K2:=zh (K1.out.both hk);have F9:=zh (F9.out.keep hk);clear hk CS K1;rcases b with _ | _
 case false=>
  go_wp2;go_ret;exact⟨rfl,K2.out⟩
 obtain⟨_,hm8,_⟩:=hb rfl;have CZ:Hid (rows.length≤8):=zh (by omega);clear hb hm8;obtain⟨s0,s1,s2,_,_,_,sl⟩:=F9.out.three;have ka:Keep au w2 (w2.alloc (.cells #[.slice os uG.length cs,.int .i64 tT,.int .i64 uo] tZ)):=(Keep.refl _ _).alloc _;have C1:=CS1 (w2.alloc (.cells #[.slice os uG.length cs,.int .i64 tT,.int .i64 uo] tZ)) (.slice (some ⟨w2.heap.size,0,none⟩) 1 1) (Fu (b:=w2.heap.size) (xs:= [⟨.slice os uG.length cs,⟨uG,tT,uo⟩⟩]) (aR _ _ rfl) rfl rfl rfl (fun x hx=>by rw [List.mem_singleton.1 hx];exact⟨HSW.out.1.keep (K2.out.both ka),HSW.out.2⟩) (by simp [maxLen]));go_wp2_with fail;refine C1.out.mono ?_;rintro e w3 ⟨b,rfl,_,hk⟩;have K3:=zh ((K2.out.both ka).both hk);have F9:=zh ((F9.out.keep ka).keep hk);clear hk ka C1 CS1 s0 s1 s2 sl K2;rcases b with _ | _
 case false=>
  go_wp2;go_ret;exact⟨rfl,K3.out⟩
 go_wp2_with fail;refine(CD _ K3.out).out.mono ?_;rintro e w4 ⟨u,t,rfl,hu,ht,hk⟩;have kb:Keep au w4 (w4.alloc (.cells #[.int .i64 c1,.int .i64 c2] 28)):=(Keep.refl _ _).alloc _;have yj:Hid (aL (w4.alloc (.cells #[.int .i64 c1,.int .i64 c2] 28)) w4.heap.size #[.int .i64 c1,.int .i64 c2]):=zh (aR _ _ rfl);have F9:=zh ((F9.out.keep hk).keep kb);have K5:=zh ((K3.out.both hk).both kb);clear hk kb CD K3 hu ht;go_upto_region 8 with fail;generalize w4.alloc (.cells #[.int .i64 c1,.int .i64 c2] 28)=wr at *;generalize w4.heap.size=b12 at *;have HLS:=zh (HR.out.keep K5.out);have HSV:=zh (And.intro (HSW.out.1.keep K5.out) HSW.out.2);have CV:=zh (fun w' v' (k:Keep au wr w') hv=>CV0 w' v' (K5.out.both k) hv);clear CV0;refine jg (fun S σ w'=>Keep au wr w'∧RlN S σ) (yh wr (.slice oa rows.length ca) (.agg #[.slice os uG.length cs,.int .i64 tT,.int .i64 uo]) (.slice oi ints.length ci) st2 d1 d2 rows ⟨uG,tT,uo⟩ (.slice os uG.length cs) pt2) (by kernel_rfl) (by kernel_rfl) (by kernel_rfl) (by kernel_rfl) (fun S σ hS=>⟨by exact kp,fun _ h=>by rw [hS 1]at h;cases h⟩) _ (fun σ=>by
  show bV _ σ [0,1,2,3,4,5,6,7,8,9,10,11,12,13,14,15,16] _=_;simp only [bV,zl0,zl1,zl2,Act.put,List.setIfInBounds_toArray,List.set_cons_zero,List.set_cons_succ];rfl) ?_ ?_
 ·intro S σ w1 Ap hall e he HK;have he:e<17:=he;obtain⟨hC,hR⟩:=Ap;obtain rfl | rfl | rfl | rfl | rfl | rfl | rfl | rfl | rfl | rfl | rfl | rfl | rfl | rfl | rfl | rfl | rfl:e=0∨e=1∨e=2∨e=3∨e=4∨e=5∨e=6∨e=7∨e=8∨e=9∨e=10∨e=11∨e=12∨e=13∨e=14∨e=15∨e=16:=by omega
  ·refine ay rfl rfl fun K hK=> ?_;go_simp;exact hK _ _ ⟨_,⟨hC,Oj (by omega) (by omega) hR⟩,fun d hd hs h=>dM (by decide) (Keep.refl _ _) d _ h,rfl,rfl⟩
  ·have h0:σ 0=Value.slice oa rows.length ca:=HK.post 0 (by kernel_rfl);rw [h0];obtain⟨v1,w2,hr1,ho1,hg1⟩:=Lh (w:=w1) (base:=w1.heap.size) (jQ.nil wr w1 _) (HLS.out) hC (by have:=CZ.out;simp only [List.length_nil];omega) (Nat.le_refl _);have hk2:Keep au w1 w2:=(Keep.refl _ _).grown hg1 (fun k hk=>by cases hk);rw [List.nil_append]at ho1;refine ay rfl rfl fun K hK=> ?_;refine bZ _ _ 22 _ _ rfl rfl rfl hr1 ?_;exact hK _ _ ⟨_,⟨hC.both hk2,fun a4 a1 a12 b hb e=>by
    rw [gM (by omega)]at a12;unfold upd at hb e;rw [if_neg (by omega)]at hb;rw [if_pos rfl]at e;obtain⟨b',e1,_,h2,h3⟩:=hall 12 a12;rw [hb]at e1;cases e1;have hlt:b<w1.heap.size:=by
     rcases hx:S 16 with _ | _
     ·exact (h2 hx).lt
     exact(h3 hx).lt
    have:=ho1.block b e;omega⟩,fun d hd hs h=>dM (by decide) hk2 d _ h,rfl,fun _=>ho1.lowerB hC.size⟩
  ·obtain ⟨s0,s1,s2,_,_,_,sl⟩:=(F9.out.keep hC).three;refine ay rfl rfl fun K hK=> ?_;go_simp;exact hK _ _ ⟨_,⟨hC,Oj (by omega) (by omega) hR⟩,fun d hd hs h=>dM (by decide) (Keep.refl _ _) d _ h,rfl,rfl⟩
  ·have h2:σ 2=Value.agg #[.slice os uG.length cs,.int .i64 tT,.int .i64 uo]:=HK.post 2 (by kernel_rfl);rw [h2];refine ay rfl rfl fun K hK=> ?_;go_simp;exact hK _ _ ⟨_,⟨hC.alloc _,Oj (by omega) (by omega) hR⟩,fun d hd hs h=>dM (by decide) ((Keep.refl _ _).alloc _) d _ h,rfl,fun _=>⟨w1.heap.size,rfl,aR _ _ rfl⟩⟩
  ·have ho1:jQ wr w1 wr.heap.size (σ 1) rows:=(show S 4=false→jQ wr w1 wr.heap.size (σ 1) rows from HK.post 1 (by kernel_rfl)) HK.self;obtain⟨b3,e3,hb3⟩:=(show S 4=false→∃b,σ 3= .slice (some ⟨b,0,none⟩) 1 1∧aL w1 b #[.slice os uG.length cs,.int .i64 tT,.int .i64 uo]from HK.post 3 (by kernel_rfl)) HK.self;obtain⟨v2,w2,hr2,ho2,hg2⟩:=VZ (r:=⟨uG,tT,uo⟩) ho1 hb3 HSV.out (by have:=CZ.out;omega) hC.size;rw [e3];have hk2:Keep au wr w2:=hC.grown hg2 (fun k hk=>ho1.block k hk);refine ay rfl rfl fun K hK=> ?_;refine bZ _ _ 22 _ _ rfl rfl rfl hr2 ?_;exact hK _ _ ⟨_,⟨hk2,Oj (by omega) (by omega) hR⟩,fun d hd hs h=>Ol hg2 hR HK.self (HK.up 1 (by kernel_rfl)) (HK.down 16 (by kernel_rfl)) (HK.down 6 (by kernel_rfl)) (HK.down 7 (by kernel_rfl)) (HK.down 9 (by kernel_rfl)) (HK.down 14 (by kernel_rfl)) d hd hs h,rfl,fun _=>ho2.rows hk2⟩
  ·refine ay rfl rfl fun K hK=> ?_;go_simp;exact hK _ _ ⟨_,⟨hC,Oj (by omega) (by omega) hR⟩,fun d hd hs h=>dM (by decide) (Keep.refl _ _) d _ h,rfl,rfl⟩
  ·have ho2:bW w1 (σ 4) (rows++ [⟨uG,tT,uo⟩]):=(show S 6=false→bW w1 (σ 4) (rows++ [⟨uG,tT,uo⟩])from HK.post 4 (by kernel_rfl)) HK.self;have CDL:=CV.out w1 (σ 4) hC ho2;have h5:σ 5=Value.slice oi ints.length ci:=HK.post 5 (by kernel_rfl);rw [h5];refine ay rfl rfl fun K hK=> ?_;go_simp;refine(CDL).out.mono ?_;rintro e w2 ⟨u,t,rfl,hou,_,hk2⟩;exact hK _ _ ⟨_,⟨hC.both hk2,Oj (by omega) (by omega) hR⟩,fun d hd hs h=>dM (by decide) hk2 d _ h,rfl,⟨u,t,rfl,hou⟩⟩
  ·obtain ⟨u6,t6,h6,hq6⟩:∃u t,σ 6= .tuple #[.int .i64 st2,u,t,.agg #[.int .i64 d1,.int .i64 d2]]∧jl w1 0 u pt2:=HK.post 6 (by kernel_rfl);rw [h6];refine ay rfl rfl fun K hK=> ?_;go_simp;exact hK _ _ ⟨_,⟨hC,Oj (by omega) (by omega) hR⟩,fun d hd hs h=>dM (by decide) (Keep.refl _ _) d _ h,rfl,⟨u6,t6,rfl,hq6⟩⟩
  ·obtain ⟨u7,t7,h7,hq7⟩:∃u t,σ 7= .tuple #[.int .i64 st2,u,t,.agg #[.int .i64 d1,.int .i64 d2]]∧jl w1 0 u pt2:=HK.post 7 (by kernel_rfl);rw [h7];refine ay rfl rfl fun K hK=> ?_;go_simp;exact hK _ _ ⟨_,⟨hC,Oj (by omega) (by omega) hR⟩,fun d hd hs h=>dM (by decide) (Keep.refl _ _) d _ h,rfl,rfl⟩
  ·obtain ⟨u7,t7,h7,hq7⟩:∃u t,σ 7= .tuple #[.int .i64 st2,u,t,.agg #[.int .i64 d1,.int .i64 d2]]∧jl w1 0 u pt2:=HK.post 7 (by kernel_rfl);rw [h7];refine ay rfl rfl fun K hK=> ?_;go_simp;exact hK _ _ ⟨_,⟨hC,Oj (by omega) (by omega) hR⟩,fun d hd hs h=>dM (by decide) (Keep.refl _ _) d _ h,rfl,hq7⟩
  ·obtain ⟨u7,t7,h7,hq7⟩:∃u t,σ 7= .tuple #[.int .i64 st2,u,t,.agg #[.int .i64 d1,.int .i64 d2]]∧jl w1 0 u pt2:=HK.post 7 (by kernel_rfl);rw [h7];refine ay rfl rfl fun K hK=> ?_;go_simp;exact hK _ _ ⟨_,⟨hC,Oj (by omega) (by omega) hR⟩,fun d hd hs h=>dM (by decide) (Keep.refl _ _) d _ h,rfl,trivial⟩
  ·obtain ⟨u7,t7,h7,hq7⟩:∃u t,σ 7= .tuple #[.int .i64 st2,u,t,.agg #[.int .i64 d1,.int .i64 d2]]∧jl w1 0 u pt2:=HK.post 7 (by kernel_rfl);rw [h7];refine ay rfl rfl fun K hK=> ?_;go_simp;exact hK _ _ ⟨_,⟨hC,Oj (by omega) (by omega) hR⟩,fun d hd hs h=>dM (by decide) (Keep.refl _ _) d _ h,rfl,rfl⟩
  ·refine ay rfl rfl fun K hK=> ?_;go_simp;exact hK _ _ ⟨_,⟨hC.alloc _,fun a4 a1 a12 b hb e=>by
    rw [gM (by omega)]at a1;unfold upd at hb e;rw [if_pos rfl]at hb;rw [if_neg (by omega)]at e;cases hb;have h1:S 4=false→jQ wr w1 wr.heap.size (σ 1) rows:=hall 1 a1;have:=(h1 (kE a4)).lt _ e;omega⟩,fun d hd hs h=>dM (by decide) ((Keep.refl _ _).alloc _) d _ h,rfl,⟨w1.heap.size,rfl,hC.size,fun _=>aZ _ _ _ rfl,fun hm=>by rw [gM (by omega),HK.down 16 (by kernel_rfl)]at hm;cases hm⟩⟩
  ·have h8:σ 8=Value.int .i64 st2:=HK.post 8 (by kernel_rfl);rw [h8];refine ay rfl rfl fun K hK=> ?_;go_simp;exact hK _ _ ⟨_,⟨hC,Oj (by omega) (by omega) hR⟩,fun d hd hs h=>dM (by decide) (Keep.refl _ _) d _ h,rfl,rfl⟩
  ·have hq9:jl w1 0 (σ 9) pt2:=HK.post 9 (by kernel_rfl);refine ay rfl rfl fun K hK=> ?_;go_simp;exact hK _ _ ⟨_,⟨hC,Oj (by omega) (by omega) hR⟩,fun d hd hs h=>dM (by decide) (Keep.refl _ _) d _ h,rfl,hq9⟩
  ·refine ay rfl rfl fun K hK=> ?_;go_simp;exact hK _ _ ⟨_,⟨hC,Oj (by omega) (by omega) hR⟩,fun d hd hs h=>dM (by decide) (Keep.refl _ _) d _ h,rfl,trivial⟩
  have h11:σ 11=Value.agg #[.int .i64 d1,.int .i64 d2]:=HK.post 11 (by kernel_rfl);rw [h11];obtain⟨b7,e0,hg7,hz7,_⟩:=(show ∃b,σ 12= .pointer (some ⟨b,0,none⟩)∧wr.heap.size≤b∧(S 16=false→uz w1 b 0 0)∧(S 16=true→uz w1 b d1 d2)from HK.post 12 (by kernel_rfl));have hz7:=hz7 HK.self;rw [e0];obtain⟨s0,s1,s2,s3,sl⟩:=hz7.blk.two;refine ay rfl rfl fun K hK=> ?_;go_simp;exact hK _ _ ⟨undef,⟨aP hC hg7 _ _,Oj (by omega) (by omega) hR⟩,RU e0 hg7 (hz7.set2 _ _) (HK.up 4 (by kernel_rfl)) (HK.up 6 (by kernel_rfl)) (fun v l h=>Yo h hz7 _ _),rfl,trivial⟩
 intro S σ w9 Ap hS hP;obtain⟨hC,_⟩:=Ap;have h13:σ 13=Value.int .i64 st2:=hP 13 (by decide);have h14:jl w9 0 (σ 14) pt2:=hP 14 (by decide);obtain⟨bz,e12,_,_,hz⟩:=(show ∃b,σ 12= .pointer (some ⟨b,0,none⟩)∧wr.heap.size≤b∧(S 16=false→uz w9 b 0 0)∧(S 16=true→uz w9 b d1 d2)from hP 12 (by decide));obtain⟨q0,q1,_,_,ql⟩:=(hz (hS 16 (by decide))).blk.two;obtain⟨p0,p1,_,_,pl⟩:=(yj.out.keep hC).two;have HF:Hid (eT w9 (σ 14) pt2):=zh (by have h:=h14;rw [HQS.out]at h ⊢;exact dO.ofFq h);obtain⟨op,cp,hop⟩:=dx h14;rw [h13,e12,hop];rw [hop]at HF;refine NoPanic.normal ?_;have K9:=zh (K5.out.both hC);clear hP hS hC e12 hz h13 h14 hop;by_cases hc:c1=0
 case neg=>
  have e1:(c1 != 0)=true:=by rw [bne_iff_ne];exact hc
  have e2:(c1==0)=false:=by rw [beq_eq_false_iff_ne];exact hc
  have h0:=HM1.out hc;subst h0;clear hc HM1 Tk;go_wp2;go_ret;exact⟨rfl,K9.out⟩
 subst hc;by_cases hd:d1=0
 case neg=>
  have e1:(d1 != 0)=true:=by rw [bne_iff_ne];exact hd
  clear hd HM1 Tk;go_wp2;go_ret;exact⟨rfl,K9.out⟩
 subst hd;by_cases h1:st2=1
 case neg=>
  have e1:(st2==1)=false:=by rw [beq_eq_false_iff_ne];exact h1
  have e2:(st2 != 1)=true:=by rw [bne_iff_ne];exact h1
  clear h1 HM1 Tk;by_cases h2:st1=2
  ·subst h2;go_wp2;go_ret;exact⟨rfl,K9.out⟩
  have e3:(st1 != 2)=true:=by rw [bne_iff_ne];exact h2
  clear h2;go_wp2;go_ret;exact⟨rfl,K9.out⟩
 obtain⟨ha,hb⟩:=Tk.out rfl h1;have hb2:=hb rfl;subst h1;have CH:=CA w9 _ pt2 K9.out HF.out;rw [ha]at CH;have e3:(st1 != 2)=true:=by rw [bne_iff_ne];exact hb2
 clear ha hb hb2 HM1 Tk CA;go_wp2_with fail;refine CH.out.mono ?_;rintro e wf ⟨rfl,hk⟩;have KF:=zh (K9.out.both hk);clear hk CH;go_wp2;go_ret;exact⟨rfl,KF.out⟩
theorem IB (w:World)(v:Value)(rows:List Rw)(vi:Value)(ints:List Bool)(vr:Value)(r:Rw)(h:bW w v rows)(hi:gI w vi ints)(hr:nL w vr r):
  Calls Tryz.prog 6 #[v,vi,vr] w fun e w'=>e= .returned (.bool true)∧Below w.heap.size w w':=by
 obtain⟨oa,ca,rfl,_,_⟩:=h.len;obtain⟨oi,ci,rfl,_,_⟩:=hi.len;obtain⟨sv,rfl,h1,h2⟩:=hr;obtain⟨os,cs,rfl,_⟩:=h1.len;obtain⟨uG,tT,uo⟩:=r;exact(Mv w oa ca oi ci os cs rows ints uG tT uo h hi ⟨h1,h2⟩).mono fun e w' ⟨h1,h2⟩=>⟨h1,h2.below (Nat.le_refl _) fun _ _ h=>h.elim⟩
end Go.Proofs.YtaiffmebphhdaaaGreat
