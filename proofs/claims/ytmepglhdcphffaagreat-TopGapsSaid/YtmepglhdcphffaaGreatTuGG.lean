/- Package slices: IndexFunc and ContainsFunc, for whatever function. Package cnf. Package cnf: Check. Package cnf: List, Both. Two appends in one region whose order is drawn (as in cut's texts). Package judge: formed, step. Package judge: clauses of one's own; step. Package judge: step. Package judge: the clauses copied. Package judge: Why. -/
import Derived.Test.YtmepglhdcphffaaGreatTuAA
namespace Go.Proofs.YtmepglhdcphffaaGreat
set_option maxRecDepth 100000
set_option maxHeartbeats 8000000
set_option linter.unusedSimpArgs false
set_option linter.unusedVariables false
open Go.ChangeShapes Go.WideShapes Go.RowKit Go.Maps
def tV {α:Type}(p:α→Bool):List α→Nat→Int
 | [],_=> -1
 | q::l,i=>if p q=true then i else tV p l (i+1)
theorem Pv {α:Type}{p:α→Bool}{l:List α}{k i:Nat}(hk:k<l.length)(h:p l[k]=false):tV p (l.drop k) i=tV p (l.drop (k+1)) (i+1):=by
 rw [List.drop_eq_getElem_cons hk,tV,if_neg (by rw [h];decide)]
theorem Jz {α:Type}{p:α→Bool}{l:List α}{k i:Nat}(hk:k<l.length)(h:p l[k]=true):tV p (l.drop k) i=(i:Int):=by
 rw [List.drop_eq_getElem_cons hk,tV,if_pos h]
theorem JA {α:Type}{p:α→Bool}{l:List α}{k i:Nat}(hk:l.length≤k):tV p (l.drop k) i= -1:=by
 rw [List.drop_eq_nil_of_le hk];rfl
theorem BU {α:Type}{p:α→Bool}:∀ {l:List α} {i:Nat},decide (0≤tV p l i)=l.any p
 | [],_=>rfl
 | q::l,i=>by
  unfold tV;rw [List.any_cons];by_cases h:p q=true
  ·rw [if_pos h,h];simp
  rw [if_neg h,BU];simp [h]
theorem GJ (f:Nat)(cp:Array Value)(hcf:∀a w,Sem.run Tryz.prog (callFunc f a) w= .ok (.enter f a) w)(p:Int→Bool)(w:World)(v:Value)(l:List (Int))(h:aR w v l)(hc:∀w',Keep au w w'→∀x∈l,Calls Tryz.prog f (#[.int .i64 x]++cp) w' fun e w''=>e= .returned (.bool (p x))∧Keep au w' w''):
  Calls Tryz.prog 170 #[v,.func (.func f) #[] cp] w fun e w'=>e= .returned (.int .i64 (tV p l 0))∧Keep au w w':=by
 have HN:=zh h;have HC:=zh hc;obtain⟨oa,ca,rfl,hma⟩:∃oa cap,v= .slice oa l.length cap∧l.length≤9223372036854775807:=by
  obtain⟨oa,ca,e,hq⟩:=h.len;exact⟨oa,ca,e,by first | (unfold maxLen at hq;omega) | (obtain⟨q1,q2⟩:=hq;unfold maxLen at q2;omega)⟩
 clear h hc;go_enter Tryz.func170,Tryz.ntmps170;go_wp2;go_loopw [8] (fun s wr=>∃k:Nat,k≤l.length∧s= .int .i64 k∧tV p l 0=tV p (l.drop k) k∧Keep au w wr) (fun s _=>(l.length-intOf s).toNat)
 case atStart=>exact⟨0,om,rfl,rfl,Keep.refl _ _⟩
 obtain⟨k,hk,rfl,hf,hkr⟩:=hrel;have HF:=zh hf;have dH:=zh hkr;clear hf hkr;by_cases hkl:k<l.length
 ·have hlt:(k:Int)<(l.length:Int):=om;obtain⟨b,o,cap,hv,hbl,p0⟩:=(HN.out.keep dH.out).at hkl;injection hv with q1 q2 q3;clear q2;subst q1;subst q3;have CC:=zh (HC.out wr dH.out l[k] (List.getElem_mem hkl));have YA:=fun h=>Pv (p:=p) (i:=k) hkl h;have ER:=fun h=>Jz (p:=p) (i:=k) hkl h;generalize p l[k]=bq at *;generalize l[k]=x at*;cases bq
  ·have lY:=zh (HF.out.trans (YA rfl));clear YA ER HF;go_wp2_with fail;refine(CC.out).mono ?_;rintro e w4 ⟨rfl,hk4⟩;have K4:=zh (dH.out.both hk4);clear hk4;go_wp2;go_roundw
   case rel=>exact⟨k+1,om,gn,lY.out,K4.out⟩
   simp [intOf];omega
  have lY:=zh (HF.out.trans (ER rfl));clear YA ER HF;go_wp2_with fail;refine(CC.out).mono ?_;rintro e w4 ⟨rfl,hk4⟩;have K4:=zh (dH.out.both hk4);clear hk4;go_wp2;go_ret;exact⟨by rw [lY.out];rfl,K4.out⟩
 have hlt:¬(k:Int)<(l.length:Int):=om;have lY:=zh (HF.out.trans (JA (i:=k) om));clear HF;go_wp2;go_ret;exact⟨by rw [lY.out];rfl,dH.out⟩
theorem rE (f:Nat)(cp:Array Value)(hcf:∀a w,Sem.run Tryz.prog (callFunc f a) w= .ok (.enter f a) w)(p:Int→Bool)(w:World)(v:Value)(l:List (Int))(h:aR w v l)(hc:∀w',Keep au w w'→∀x∈l,Calls Tryz.prog f (#[.int .i64 x]++cp) w' fun e w''=>e= .returned (.bool (p x))∧Keep au w' w''):
  Calls Tryz.prog 106 #[v,.func (.func f) #[] cp] w fun e w'=>e= .returned (.bool (l.any p))∧Keep au w w':=by
 have CC:=fun w' (k:Keep au w w')=>zh (GJ f cp hcf p w' v l (h.keep k) fun w'' k'=>hc w'' (k.both k'));rw [← BU (p:=p) (l:=l) (i:=0)];obtain⟨oa,ca,rfl,_⟩:=h.len;generalize tV p l 0=z at *;clear h hc;go_enter Tryz.func106,Tryz.ntmps106;go_wp2_with fail;refine(CC _ kp).out.mono ?_;rintro e w1 ⟨rfl,hk1⟩;have K1:=Keep.both kp hk1;go_wp2;go_ret;exact⟨rfl,K1⟩
theorem GK (f:Nat)(cp:Array Value)(hcf:∀a w,Sem.run Tryz.prog (callFunc f a) w= .ok (.enter f a) w)(p:List Int→Bool)(w:World)(v:Value)(l:List (List Int))(h:fM w v l)(hc:∀w',Keep au w w'→∀x∈l,∀sv,aR w' sv x→Calls Tryz.prog f (#[sv]++cp) w' fun e w''=>e= .returned (.bool (p x))∧Keep au w' w''):
  Calls Tryz.prog 101 #[v,.func (.func f) #[] cp] w fun e w'=>e= .returned (.int .i64 (tV p l 0))∧Keep au w w':=by
 have HN:=zh h;have HC:=zh hc;obtain⟨oa,ca,rfl,hma⟩:∃oa cap,v= .slice oa l.length cap∧l.length≤9223372036854775807:=by
  obtain⟨oa,ca,e,hq⟩:=h.len;exact⟨oa,ca,e,by first | (unfold maxLen at hq;omega) | (obtain⟨q1,q2⟩:=hq;unfold maxLen at q2;omega)⟩
 clear h hc;go_enter Tryz.func101,Tryz.ntmps101;go_wp2;go_loopw [8] (fun s wr=>∃k:Nat,k≤l.length∧s= .int .i64 k∧tV p l 0=tV p (l.drop k) k∧Keep au w wr) (fun s _=>(l.length-intOf s).toNat)
 case atStart=>exact⟨0,om,rfl,rfl,Keep.refl _ _⟩
 obtain⟨k,hk,rfl,hf,hkr⟩:=hrel;have HF:=zh hf;have dH:=zh hkr;clear hf hkr;by_cases hkl:k<l.length
 ·have hlt:(k:Int)<(l.length:Int):=om;obtain⟨b,o,oc,cc,rfl,hbl,p0,hi,_⟩:=(HN.out.keep dH.out).at hkl;have CC:=zh (HC.out wr dH.out l[k] (List.getElem_mem hkl) _ hi);clear hi;have YA:=fun h=>Pv (p:=p) (i:=k) hkl h;have ER:=fun h=>Jz (p:=p) (i:=k) hkl h;generalize p l[k]=bq at *;generalize l[k]=x at*;cases bq
  ·have lY:=zh (HF.out.trans (YA rfl));clear YA ER HF;go_wp2_with fail;refine(CC.out).mono ?_;rintro e w4 ⟨rfl,hk4⟩;have K4:=zh (dH.out.both hk4);clear hk4;go_wp2;go_roundw
   case rel=>exact⟨k+1,om,gn,lY.out,K4.out⟩
   simp [intOf];omega
  have lY:=zh (HF.out.trans (ER rfl));clear YA ER HF;go_wp2_with fail;refine(CC.out).mono ?_;rintro e w4 ⟨rfl,hk4⟩;have K4:=zh (dH.out.both hk4);clear hk4;go_wp2;go_ret;exact⟨by rw [lY.out];rfl,K4.out⟩
 have hlt:¬(k:Int)<(l.length:Int):=om;have lY:=zh (HF.out.trans (JA (i:=k) om));clear HF;go_wp2;go_ret;exact⟨by rw [lY.out];rfl,dH.out⟩
theorem Ce (f:Nat)(cp:Array Value)(hcf:∀a w,Sem.run Tryz.prog (callFunc f a) w= .ok (.enter f a) w)(p:List Int→Bool)(w:World)(v:Value)(l:List (List Int))(h:fM w v l)(hc:∀w',Keep au w w'→∀x∈l,∀sv,aR w' sv x→Calls Tryz.prog f (#[sv]++cp) w' fun e w''=>e= .returned (.bool (p x))∧Keep au w' w''):
  Calls Tryz.prog 49 #[v,.func (.func f) #[] cp] w fun e w'=>e= .returned (.bool (l.any p))∧Keep au w w':=by
 have CC:=fun w' (k:Keep au w w')=>zh (GK f cp hcf p w' v l (h.keep k) fun w'' k'=>hc w'' (k.both k'));rw [← BU (p:=p) (l:=l) (i:=0)];obtain⟨oa,ca,rfl,_⟩:=h.len;generalize tV p l 0=z at *;clear h hc;go_enter Tryz.func49,Tryz.ntmps49;go_wp2_with fail;refine(CC _ kp).out.mono ?_;rintro e w1 ⟨rfl,hk1⟩;have K1:=Keep.both kp hk1;go_wp2;go_ret;exact⟨rfl,K1⟩
theorem xV (w:World)(x:Int)(h1:dA x)(h2:dA (-x)):Calls Tryz.prog 118 #[.int .i64 x] w fun e w'=>e= .returned (.int .i64 (x.natAbs:Int))∧w'=w:=by
 unfold dA at h1 h2;have e:(x.natAbs:Int)=max x (-x):=om;rw [e];clear e;go_enter Tryz.func118,Tryz.ntmps118;go_wp2;go_ret;exact⟨rfl,rfl⟩
theorem UJ (w:World)(x y:Int)(b:Nat)(hb:w.cell? ⟨b,0,none⟩=some (.int .i64 x))(hl:b<w.heap.size)(h1:dA x)(h2:dA (-x))(h3:dA y)(h4:dA (-y)):
  Calls Tryz.prog 171 #[.int .i64 y,.pointer (some ⟨b,0,none⟩)] w fun e w'=>e= .returned (.bool (decide (y.natAbs=x.natAbs)))∧Keep au w w':=by
 have CX:=fun w=>zh (xV w x h1 h2);have CY:=fun w=>zh (xV w y h3 h4);go_enter Tryz.func171,Tryz.ntmps171;go_wp2;go_quiet (first | exact(CY _).out.mono (by rintro e w1 ⟨rfl,rfl⟩;exact⟨rfl,_,rfl⟩) | exact(CX _).out.mono (by rintro e w1 ⟨rfl,rfl⟩;exact⟨rfl,_,rfl⟩));go_wp2;go_ret;exact⟨congrArg (fun b:Bool=>Ending.returned (.bool b)) (by rw [Bool.eq_iff_iff];simp;omega),kp⟩
def lZ (vars:Nat)(c:List Int):Prop:=(c.map Int.natAbs).Nodup∧∀l∈c,l≠0∧l.natAbs≤vars
theorem lZ.le {vars:Nat}{c:List Int}(h:lZ vars c):c.length≤vars:=Cd.GoodT.le (vars:=vars) h
theorem lZ.fresh {vars:Nat}{c:List Int}(h:lZ vars c){k:Nat}(hk:k<c.length):((c.take k).any fun y=>decide (y.natAbs=(c[k]).natAbs))=false:=by
 rw [List.any_eq_false];intro y hy e;obtain⟨i,hi⟩:=List.getElem?_of_mem hy;rw [List.getElem?_take]at hi;split at hi
 ·rename_i hik;have:=Cd.GoodT.inj (vars:=vars) h hi (eD hk) (of_decide_eq_true e);omega
 cases hi
theorem Y6 (a:Array Value)(w:World):Sem.run Tryz.prog (callFunc 171 a) w= .ok (.enter 171 a) w:=kr
theorem GQ (vars:Nat)(w:World)(oa:Option Addr)(ca:Nat)(c:List Int)(hc:aR w (.slice oa c.length ca) c)(hcap:c.length≤ca)(hok:lZ vars c)(hv:vars≤1000):
  Calls Tryz.prog 108 #[.slice oa c.length ca,.int .i64 (vars:Int)] w fun e w'=>e= .returned (.tuple #[.int .i64 0,.int .i64 0])∧Keep au w w':=by
 have HC:=zh hc;have mg:=zh hok;have hcl:=hok.le;clear hc hok;go_enter Tryz.func108,Tryz.ntmps108;go_wp2;go_loopw [10] (fun s wr=>∃k:Nat,k≤c.length∧s= .int .i64 k∧Keep au w wr) (fun s _=>(c.length-intOf s).toNat)
 case atStart=>exact⟨0,om,rfl,kp⟩
 obtain⟨k,hk,rfl,hkr⟩:=hrel;have KR:=zh hkr;clear hkr;by_cases hkl:k<c.length
 case neg=>
  have hlt:¬(k:Int)<(c.length:Int):=om;go_wp2;refine bodyPost_ret (by simp [results,Tryz.results108,go_sem];rfl) rfl ?_;exact⟨rfl,KR.out⟩
 have hlt:(k:Int)<(c.length:Int):=om;obtain⟨bc,fc,cap,hv',hbc,p0⟩:=HC.out.at hkl;injection hv' with q1 q2 q3;clear q2;subst q1;subst q3;have p0:=(KR.out.cell hbc).trans p0;have hbr:=bJ hbc KR.out.size;have hx0:=mg.out.2 _ (List.getElem_mem hkl);have HF:=zh (mg.out.fresh hkl);have h1:dA c[k]:=by unfold dA;omega
 have h2:dA (-c[k]):=by unfold dA;omega
 have hxm:c[k]∈c:=List.getElem_mem hkl;generalize c[k]=x at *;have hkc:k≤ca:=om;have hkI:(k:Int)≤(ca:Int):=om;have e1:(x==0)=false:=by rw [beq_eq_false_iff_ne];exact hx0.1
 have e2:¬x< -(vars:Int):=om;have e3:¬(vars:Int)<x:=om;have ka:Keep au wr (wr.alloc (.cells #[.int .i64 x] TI)):=(Keep.refl _ _).alloc _;have KA:=zh (KR.out.both ka);have HB:Hid ((wr.alloc (.cells #[.int .i64 x] TI)).heap[wr.heap.size]? =some (.cells #[.int .i64 x] TI (0,0))):=zh (aK _ _ _ rfl);go_upto_region 4 with fail;generalize wr.alloc (.cells #[.int .i64 x] TI)=w2 at *;generalize wr.heap.size=b7 at *;have m0:=cell_of_heap (o:=0) HB.out rfl;have ml:=lt_of_heap HB.out;have CC:=zh (rE 171 #[.pointer (some ⟨b7,0,none⟩)] Y6 (fun y=>decide (y.natAbs=x.natAbs)) w2 (.slice (some ⟨bc,fc,none⟩) k ca) (c.take k) ((HC.out.keep KA.out).take hk) fun w' kk y hy=>by
  have hy0:=mg.out.2 _ (List.mem_of_mem_take hy);exact UJ w' x y b7 ((kk.cell ml).trans m0) (bJ ml kk.size) h1 h2 (by unfold dA;omega) (by unfold dA;omega))
 rw [HF.out]at CC;clear ka p0 hbr hbc;go_wp2_with fail;refine CC.out.mono ?_;rintro e w3 ⟨rfl,hk3⟩;have K3:=zh (KA.out.both hk3);clear hk3 CC m0 ml;go_wp2;go_roundw
 case rel=>exact⟨k+1,om,gn,K3.out⟩
 simp [intOf];omega
abbrev iZ:TypeId:=38
structure Ar (vars:Nat)(cls:List (List Int)):Prop where
 v:vars≤120
 n:cls.length≤400
 c:∀c∈cls,lZ vars c∧c.length≤24
theorem Fj (vars:Nat)(w:World)(oc:Option Addr)(cc:Nat)(cls:List (List Int))(hc:fM w (.slice oc cls.length cc) cls)(hok:Ar vars cls):
  Calls Tryz.prog 54 #[.agg #[.int .i64 (vars:Int),.slice oc cls.length cc]] w fun e w'=>e= .returned (.agg #[.int .i64 0,.int .i64 0])∧Keep au w w':=by
 have HC:=zh hc;have mg:=zh hok;have hv:=hok.v;have hn:=hok.n;obtain⟨m,hm⟩:∃m,cls.length=m:=⟨_,rfl⟩;have HM:=zh hm;rw [hm]at HC hn ⊢;have e1:¬(vars:Int)<0:=om;have e2:¬(120:Int)<(vars:Int):=om;have e3:¬(400:Int)<(m:Int):=om;clear hc hok hm;obtain⟨w2,hw2⟩:∃w2:World,w2=(w.alloc (.cells #[.int .i64 (vars:Int),.slice oc m cc] 124)).alloc (.cells #[.int .i64 0,.int .i64 0] iZ):=⟨_,rfl⟩;obtain⟨b2,hb2⟩:∃b2,b2=w.heap.size+1:=⟨_,rfl⟩;have K2:Hid (Keep au w w2):=zh (by rw [hw2];exact((Keep.refl _ _).alloc _).alloc _);have HB1:Hid (w2.heap[w.heap.size]? =some (.cells #[.int .i64 (vars:Int),.slice oc m cc] 124 (0,0))):=zh (by rw [hw2,heap_alloc_old _ _ _ sm];exact aK _ _ _ rfl);have HB2:Hid (w2.heap[b2]? =some (.cells #[.int .i64 0,.int .i64 0] iZ (0,0))):=zh (by rw [hw2,hb2];exact aK _ _ _ sm);go_enter Tryz.func54,Tryz.ntmps54;go_upto_region 1 with fail;rw [← hw2,←hb2];have Jm:Hid (w.heap.size≤b2):=zh om;clear hw2 hb2;generalize hg1:w.heap.size=b1 at *;have mE:=zh hg1;clear hg1;have x0:=cell_of_heap (o:=0) HB1.out rfl;have x1:=cell_of_heap (o:=1) HB1.out rfl;have xl:=lt_of_heap HB1.out;have y0:=cell_of_heap (o:=0) HB2.out rfl;have yl:=lt_of_heap HB2.out;go_wp2;go_loopw [26] (fun s wr=>∃k:Nat,k≤m∧s= .int .i64 k∧Keep au w2 wr) (fun s _=>(m-intOf s).toNat)
 case atStart=>exact⟨0,om,rfl,kp⟩
 obtain⟨k,hk,rfl,hkr⟩:=hrel;have KR:=zh hkr;have z0:=(hkr.cell (i:=0) xl).trans x0;have zl:=bJ xl hkr.size;have Pw:=zh ((hkr.block b2 yl fun _ h=>h).trans HB2.out);have u0:=cell_of_heap (o:=0) Pw.out rfl;have u1:=cell_of_heap (o:=1) Pw.out rfl;have f0:=aL.free (A:=_) ⟨_,Pw.out⟩ 0;have f1:=aL.free (A:=_) ⟨_,Pw.out⟩ 1;have ul:=lt_of_heap Pw.out;clear hkr x0 x1 y0;by_cases hkl:k<m
 case neg=>
  have hlt:¬(k:Int)<(m:Int):=om;go_wp2;refine bodyPost_ret (by simp [results,Tryz.results54,go_sem,u0,u1,ul];rfl) rfl ?_;exact⟨rfl,aQ (aQ (K2.out.both KR.out) _ (by rw [mE.out];exact Jm.out)) _ (by rw [mE.out];exact Jm.out)⟩
 have hlt:(k:Int)<(m:Int):=om;have hkc:k<cls.length:=by rw [HM.out];exact hkl
 obtain⟨bc,fc,ol,cl,rfl,hbc,p0,hints,hcl,hcl2⟩:=(HC.out.keep (K2.out.both KR.out)).at hkc;have hv0:=mg.out.c _ (List.getElem_mem hkc);have h24:=hv0.2;have CB:=zh (GQ vars wr ol cl cls[k] hints hcl hv0.1 om);generalize cls[k]=c at *;have h24I:¬(24:Int)<(c.length:Int):=om;clear hints hv0;go_wp2_with fail;refine CB.out.mono ?_;rintro e w3 ⟨rfl,hk3⟩;have K3:=zh (KR.out.both hk3);clear hk3 CB;go_wp2;go_roundw
 case rel=>exact⟨k+1,om,gn,K3.out⟩
 simp [intOf];omega
theorem UL (w:World):aR w (.slice none 0 0) []:=⟨none,0,rfl,sm,sm,fun h=>absurd rfl h⟩
theorem UM (vars:Nat)(w:World)(hv:vars≤1000):
  Calls Tryz.prog 172 #[.slice none 0 0,.int .i64 (vars:Int)] w fun e w'=>e= .returned (.agg #[.int .i64 0,.int .i64 0])∧Keep au w w':=by
 have CB:=fun w'=>zh (GQ vars w' none 0 [] (UL w') (Nat.le_refl _) ⟨List.nodup_nil,fun l hl=>by cases hl⟩ hv);have KA:Hid (Keep au w (w.alloc (.cells #[.int .i64 0,.int .i64 0] iZ))):=zh ((Keep.refl _ _).alloc _);have HB2:Hid ((w.alloc (.cells #[.int .i64 0,.int .i64 0] iZ)).heap[w.heap.size]? =some (.cells #[.int .i64 0,.int .i64 0] iZ (0,0))):=zh (aK _ _ _ rfl);obtain⟨w2,hw2⟩:∃w2:World,w2=w.alloc (.cells #[.int .i64 0,.int .i64 0] iZ):=⟨_,rfl⟩;rw [← hw2]at KA HB2;go_enter Tryz.func172,Tryz.ntmps172;go_upto_region 1 with fail;rw [← hw2];clear hw2;obtain⟨b2,hb2⟩:∃b2,b2=w.heap.size:=⟨_,rfl⟩;rw [← hb2]at HB2 ⊢;have HL:=zh (Nat.le_of_eq hb2.symm);clear hb2;go_wp2_with fail;refine(CB _).out.mono ?_;rintro e w3 ⟨rfl,hk3⟩;have HB3:=zh ((hk3.block b2 (lt_of_heap HB2.out) fun _ h=>h).trans HB2.out);have u0:=cell_of_heap (o:=0) HB3.out rfl;have u1:=cell_of_heap (o:=1) HB3.out rfl;have f0:=aL.free (A:=_) ⟨_,HB3.out⟩ 0;have f1:=aL.free (A:=_) ⟨_,HB3.out⟩ 1;have ul:=lt_of_heap HB3.out;have K3:=zh (KA.out.both hk3);clear hk3 CB;go_wp2;refine bodyPost_ret (by simp [results,Tryz.results172,go_sem,u0,u1,ul];rfl) rfl ?_;exact⟨rfl,aQ (aQ K3.out _ HL.out) _ HL.out⟩
theorem UN (vars:Nat)(w:World)(oc:Option Addr)(cc:Nat)(cls:List (List Int))(hc:fM w (.slice oc cls.length cc) cls)(hok:Ar vars cls):
  Calls Tryz.prog 109 #[.agg #[.int .i64 (vars:Int),.slice oc cls.length cc],.slice none 0 0] w fun e w'=>e= .returned (.agg #[.int .i64 0,.int .i64 0])∧Keep au w w':=by
 have CC:=zh (fun w' (k:Keep au w w')=>Fj vars w' oc cc cls (hc.keep k) hok);have CL:=fun w'=>zh (UM vars w' (by have:=hok.v;omega));generalize cls.length=m at *;clear hc hok;obtain⟨w2,hw2⟩:∃w2:World,w2=(w.alloc (.cells #[.int .i64 (vars:Int),.slice oc m cc] 124)).alloc (.cells #[.int .i64 0,.int .i64 0] iZ):=⟨_,rfl⟩;obtain⟨b2,hb2⟩:∃b2,b2=w.heap.size+1:=⟨_,rfl⟩;have K2:Hid (Keep au w w2):=zh (by rw [hw2];exact((Keep.refl _ _).alloc _).alloc _);have HB1:Hid (w2.heap[w.heap.size]? =some (.cells #[.int .i64 (vars:Int),.slice oc m cc] 124 (0,0))):=zh (by rw [hw2,heap_alloc_old _ _ _ sm];exact aK _ _ _ rfl);have HB2:Hid (w2.heap[b2]? =some (.cells #[.int .i64 0,.int .i64 0] iZ (0,0))):=zh (by rw [hw2,hb2];exact aK _ _ _ sm);go_enter Tryz.func109,Tryz.ntmps109;go_upto_region 1 with fail;rw [← hw2,←hb2];have Jm:Hid (w.heap.size≤b2):=zh om;clear hw2 hb2;generalize hg1:w.heap.size=b1 at *;have mE:=zh hg1;clear hg1;have x0:=cell_of_heap (o:=0) HB1.out rfl;have x1:=cell_of_heap (o:=1) HB1.out rfl;have xl:=lt_of_heap HB1.out;have CC:=zh (CC.out w2 K2.out);go_wp2_with fail;refine CC.out.mono ?_;rintro e w3 ⟨rfl,hk3⟩;have z0:=(hk3.cell (i:=0) xl).trans x0;have zl:=bJ xl hk3.size;have HB3:=zh ((hk3.block b2 (lt_of_heap HB2.out) fun _ h=>h).trans HB2.out);have K3:=zh (K2.out.both hk3);have K4:Hid (Keep au w3 (w3.alloc (.cells #[.int .i64 0,.int .i64 0] iZ))):=zh ((Keep.refl _ _).alloc _);have y0:=(K4.out.cell (i:=0) zl).trans z0;have yl:=bJ zl K4.out.size;clear hk3 CC x0 x1 xl z0 HB2;have CL:=zh (CL (w3.alloc (.cells #[.int .i64 0,.int .i64 0] iZ))).out;go_wp2_with fail;refine CL.out.mono ?_;rintro e w5 ⟨rfl,hk5⟩;have K5:=zh (K4.out.both hk5);have dY:=zh ((K5.out.block b2 (lt_of_heap HB3.out) fun _ h=>h).trans HB3.out);have u0:=cell_of_heap (o:=0) dY.out rfl;have u1:=cell_of_heap (o:=1) dY.out rfl;have f0:=aL.free (A:=_) ⟨_,dY.out⟩ 0;have f1:=aL.free (A:=_) ⟨_,dY.out⟩ 1;have ul:=lt_of_heap dY.out;clear hk5 CL y0 yl;go_wp2;refine bodyPost_ret (by simp [results,Tryz.results109,go_sem,u0,u1,ul];rfl) rfl ?_;exact⟨rfl,aQ (aQ (K3.out.both K5.out) _ (by rw [mE.out];exact Jm.out)) _ (by rw [mE.out];exact Jm.out)⟩
theorem Y7 (holds:List Bool)(l:Int)(hl:l.natAbs-1<holds.length):Sv.litB holds l=(holds[l.natAbs-1]==decide (0<l)):=by
 unfold Sv.litB;rw [dV,eD hl];rfl
theorem UO (w:World)(v:Value)(holds:List Bool)(h:dZ w v holds)(x:Int)(h0:x≠0)(hx:x.natAbs≤holds.length)(hl:holds.length≤1000):
  Calls Tryz.prog 225 #[.int .i64 x,v] w fun e w'=>e= .returned (.bool (Sv.litB holds x))∧Keep au w w':=by
 have hk:x.natAbs-1<holds.length:=om;rw [Y7 holds x hk];obtain⟨oa,ca,rfl,hca,hcm⟩:=h.len;obtain⟨b,o,rfl,hb,p0⟩:=h.at hk;have CV:=zh (xV w x (by unfold dA;omega) (by unfold dA;omega));have e1:((x.natAbs:Nat):Int)-1=((x.natAbs-1:Nat):Int):=om;have hlt:((x.natAbs-1:Nat):Int)<(holds.length:Int):=om;have hge:0≤((x.natAbs-1:Nat):Int):=om;have hv1:(x.natAbs:Int)≤1000:=om;have hv0:0≤(x.natAbs:Int):=om;generalize x.natAbs-1=k at *;generalize holds[k]=bb at *;clear h;by_cases hp:0<x
 ·rw [decide_eq_true hp];go_enter Tryz.func225,Tryz.ntmps225;go_wp2_with fail;refine CV.out.mono ?_;rintro e w1 ⟨rfl,rfl⟩;go_wp2;go_ret;exact⟨by cases bb<;>rfl,kp⟩
 rw [decide_eq_false hp];go_enter Tryz.func225,Tryz.ntmps225;go_wp2_with fail;refine CV.out.mono ?_;rintro e w1 ⟨rfl,rfl⟩;go_wp2;go_ret;exact⟨by rw [decide_eq_false (show ¬0<x from om)];cases bb<;>rfl,kp⟩
theorem Y8 (a:Array Value)(w:World):Sem.run Tryz.prog (callFunc 224 a) w= .ok (.enter 224 a) w:=kr
theorem Y9 (a:Array Value)(w:World):Sem.run Tryz.prog (callFunc 196 a) w= .ok (.enter 196 a) w:=kr
theorem UQ (w:World)(b:Nat)(v:Value)(holds:List Bool)(h:dZ w v holds)(hb:w.cell? ⟨b,0,none⟩=some v)(hlb:b<w.heap.size)(x:Int)(h0:x≠0)(hx:x.natAbs≤holds.length)(hl:holds.length≤1000):
  Calls Tryz.prog 224 #[.int .i64 x,.pointer (some ⟨b,0,none⟩)] w fun e w'=>e= .returned (.bool (Sv.litB holds x))∧Keep au w w':=by
 have CT:=zh (UO w v holds h x h0 hx hl);obtain⟨oa,ca,rfl,_⟩:=h.len;generalize Sv.litB holds x=r at *;clear h;go_enter Tryz.func224,Tryz.ntmps224;go_wp2_with fail;refine CT.out.mono ?_;rintro e w1 ⟨rfl,hk⟩;have K1:=zh hk;clear hk;go_wp2;go_ret;exact⟨rfl,K1.out⟩
theorem Za (w:World)(v u:Value)(c:List Int)(holds:List Bool)(hc:aR w v c)(h:dZ w u holds)(hx:∀x∈c,x≠0∧x.natAbs≤holds.length)(hl:holds.length≤1000):
  Calls Tryz.prog 197 #[v,u] w fun e w'=>e= .returned (.bool (c.any (Sv.litB holds)))∧Keep au w w':=by
 obtain⟨oc,cc,rfl,_⟩:=hc.len;obtain⟨oa,ca,rfl,_⟩:=h.len;have ka:Keep au w (w.alloc (.cells #[.slice oa holds.length ca] 24)):=(Keep.refl _ _).alloc _;have hB:(w.alloc (.cells #[.slice oa holds.length ca] 24)).heap[w.heap.size]? =some (.cells #[.slice oa holds.length ca] 24 (0,0)):=aK _ _ _ rfl;have m0:=cell_of_heap (o:=0) hB rfl;have ml:=lt_of_heap hB;have CI:=zh (rE 224 #[.pointer (some ⟨w.heap.size,0,none⟩)] Y8 (Sv.litB holds) _ (.slice oc c.length cc) c (hc.keep ka) fun w' kk y hy=>UQ w' w.heap.size _ holds (h.keep (ka.both kk)) ((kk.cell ml).trans m0) (bJ ml kk.size) y (hx y hy).1 (hx y hy).2 hl);have KA:=zh ka;generalize c.any (Sv.litB holds)=r at *;clear hc h hB m0 ml ka;go_enter Tryz.func197,Tryz.ntmps197;go_wp2_with fail;refine CI.out.mono ?_;rintro e w1 ⟨rfl,hk⟩;have K1:=zh (KA.out.both hk);clear hk CI;go_wp2;go_ret;exact⟨rfl,K1.out⟩
theorem UU (w:World)(b:Nat)(v u:Value)(c:List Int)(holds:List Bool)(hc:aR w u c)(h:dZ w v holds)(hb:w.cell? ⟨b,0,none⟩=some v)(hlb:b<w.heap.size)(hx:∀x∈c,x≠0∧x.natAbs≤holds.length)(hl:holds.length≤1000):
  Calls Tryz.prog 196 #[u,.pointer (some ⟨b,0,none⟩)] w fun e w'=>e= .returned (.bool (!c.any (Sv.litB holds)))∧Keep au w w':=by
 have CT:=zh (Za w u v c holds hc h hx hl);obtain⟨oc,cc,rfl,_⟩:=hc.len;obtain⟨oa,ca,rfl,_⟩:=h.len;generalize c.any (Sv.litB holds)=r at *;clear h hc;go_enter Tryz.func196,Tryz.ntmps196;go_wp2_with fail;refine CT.out.mono ?_;rintro e w1 ⟨rfl,hk⟩;have K1:=zh hk;clear hk;go_wp2;go_ret;exact⟨rfl,K1.out⟩
theorem Zb (w:World)(v u:Value)(cls:List (List Int))(holds:List Bool)(hc:fM w v cls)(h:dZ w u holds)(hx:∀c∈cls,∀x∈c,x≠0∧x.natAbs≤holds.length)(hl:holds.length≤1000):
  Calls Tryz.prog 129 #[v,u] w fun e w'=>e= .returned (.bool (cls.all fun c=>c.any (Sv.litB holds)))∧Keep au w w':=by
 obtain⟨oc,cc,rfl,_⟩:=hc.len;obtain⟨oa,ca,rfl,_⟩:=h.len;have ka:Keep au w (w.alloc (.cells #[.slice oa holds.length ca] 24)):=(Keep.refl _ _).alloc _;have hB:(w.alloc (.cells #[.slice oa holds.length ca] 24)).heap[w.heap.size]? =some (.cells #[.slice oa holds.length ca] 24 (0,0)):=aK _ _ _ rfl;have m0:=cell_of_heap (o:=0) hB rfl;have ml:=lt_of_heap hB;have CI:=zh (Ce 196 #[.pointer (some ⟨w.heap.size,0,none⟩)] Y9 (fun c=> !c.any (Sv.litB holds)) _ (.slice oc cls.length cc) cls (hc.keep ka) fun w' kk c hcc sv hs=>UU w' w.heap.size _ sv c holds hs (h.keep (ka.both kk)) ((kk.cell ml).trans m0) (bJ ml kk.size) (hx c hcc) hl);have KA:=zh ka;have hr:(cls.all fun c=>c.any (Sv.litB holds))= !(cls.any fun c=> !c.any (Sv.litB holds)):=by rw [List.all_eq_not_any_not]
 rw [hr];generalize (cls.any fun c=> !c.any (Sv.litB holds))=r at*;clear hc h hB m0 ml ka hr;go_enter Tryz.func129,Tryz.ntmps129;go_wp2_with fail;refine CI.out.mono ?_;rintro e w1 ⟨rfl,hk⟩;have K1:=zh (KA.out.both hk);clear hk CI;go_wp2;go_ret;exact⟨rfl,K1.out⟩
open Go.ChangeShapes Go.WideShapes Go.RowKit
abbrev T2:TypeId:=207
section
variable {w0 w w':World} {eA kA nA eB kB nB:Nat} {vA vB:Value} {xA cA xB cB:List Value} {g:Nat} {TG:TypeId} {arr:Value→Value→Array Value} {gx:Nat} {ox:Obj} {bA aA bB aB s1 s2:Bool} {mP jL mQ jM:Value}
end
structure rF (w0:World)(eA kA nA eB kB nB:Nat)(vA vB:Value)(xA cA xB cB:List Value)(bA aA bB aB:Bool)(mP jL mQ jM:Value)(w:World):Prop where
 k:Keep au w0 w
 a0:aA=false→w.ownsRow w0.heap.size eA kA vA nA xA
 a1:aA=true→w.ownsRow w0.heap.size eA kA jL (nA+1) (xA++cA)
 b0:aB=false→w.ownsRow w0.heap.size eB kB vB nB xB
 b1:aB=true→w.ownsRow w0.heap.size eB kB jM (nB+1) (xB++cB)
 pa:bA=true→aA=false→∃b,mP= .slice (some ⟨b,0,none⟩) 1 1∧aL w b cA.toArray∧(aB=false→vB.ownBlock≠some b)
 pb:bB=true→aB=false→∃b,mQ= .slice (some ⟨b,0,none⟩) 1 1∧aL w b cB.toArray∧(aA=false→vA.ownBlock≠some b)
section
variable {w0 w w':World} {eA kA nA eB kB nB:Nat} {vA vB:Value} {xA cA xB cB:List Value} {bA aA bB aB:Bool} {mP jL mQ jM:Value}
theorem rF.keep (h:rF w0 eA kA nA eB kB nB vA vB xA cA xB cB bA aA bB aB mP jL mQ jM w)(k:Keep au w w'):rF w0 eA kA nA eB kB nB vA vB xA cA xB cB bA aA bB aB mP jL mQ jM w':=
 ⟨h.k.both k,fun e=>bR (h.a0 e) k,fun e=>bR (h.a1 e) k,fun e=>bR (h.b0 e) k,fun e=>bR (h.b1 e) k,
  fun e1 e2=>by obtain⟨b,h1,h2,h3⟩:=h.pa e1 e2;exact⟨b,h1,h2.keep k,h3⟩,fun e1 e2=>by obtain⟨b,h1,h2,h3⟩:=h.pb e1 e2;exact⟨b,h1,h2.keep k,h3⟩⟩
theorem rF.buildA (h:rF w0 eA kA nA eB kB nB vA vB xA cA xB cB bA aA bB aB mP jL mQ jM w)(k:Keep au w w'){b:Nat}(hb:aL w' b cA.toArray)(hn:w.heap.size≤b):rF w0 eA kA nA eB kB nB vA vB xA cA xB cB true aA bB aB (.slice (some ⟨b,0,none⟩) 1 1) jL mQ jM w':=by
 have h':=h.keep k;exact⟨h'.k,h'.a0,h'.a1,h'.b0,h'.b1,fun _ _=>⟨b,rfl,hb,fun e hh=>by have:=(rH (h.b0 e) hh).2;omega⟩,h'.pb⟩
theorem rF.buildB (h:rF w0 eA kA nA eB kB nB vA vB xA cA xB cB bA aA bB aB mP jL mQ jM w)(k:Keep au w w'){b:Nat}(hb:aL w' b cB.toArray)(hn:w.heap.size≤b):rF w0 eA kA nA eB kB nB vA vB xA cA xB cB bA aA true aB mP jL (.slice (some ⟨b,0,none⟩) 1 1) jM w':=by
 have h':=h.keep k;exact⟨h'.k,h'.a0,h'.a1,h'.b0,h'.b1,h'.pa,fun _ _=>⟨b,rfl,hb,fun e hh=>by have:=(rH (h.a0 e) hh).2;omega⟩⟩
theorem rF.appA {Zc:TypeId}(hap:Cg Zc eA kA)(UW:eA≠eB)(hl:cA.length=kA)(h1:∀u∈cA,u.oneCell'=true)(hn:nA≤100000)(h:rF w0 eA kA nA eB kB nB vA vB xA cA xB cB bA aA bB aB mP jL mQ jM w)(hb:bA=true)(ha:aA=false)(_:(0:Nat)=0):
  ∃v' w',(Builtin.append_ #[Zc,Zc] Zc #[vA,mP]).run Tryz.prog w= .ok v' w'∧rF w0 eA kA nA eB kB nB vA vB xA cA xB cB bA true bB aB mP v' mQ jM w':=by
 obtain⟨b,rfl,hbk,hbv⟩:=h.pa hb ha;obtain⟨v',w',hr,ho,hg,hv⟩:=hap.app w _ vA nA xA b cA (h.a0 ha) hbk hl h1 hn h.k.size;refine⟨v',w',hr,h.k.grown hg fun k hk=>(rH (h.a0 ha) hk).1,fun e=>(by cases e),fun _=>ho,fun e=>fT (h.b0 e) hg fun b hb'=>jw (h.b0 e) (h.a0 ha) UW.symm b hb',fun e=>fT (h.b1 e) hg fun b hb'=>jw (h.b1 e) (h.a0 ha) UW.symm b hb',fun _ e=>(by cases e),fun e1 e2=> ?_⟩;obtain⟨b2,h2,⟨t2,h3⟩,h4⟩:=h.pb e1 e2;exact⟨b2,h2,⟨t2,by rw [hg.block b2 (lt_of_heap h3) fun e=>h4 ha e.symm];exact h3⟩,fun e=>(by cases e)⟩
theorem rF.appB {Zd:TypeId}(hap:Cg Zd eB kB)(UW:eA≠eB)(hl:cB.length=kB)(h1:∀u∈cB,u.oneCell'=true)(hn:nB≤100000)(h:rF w0 eA kA nA eB kB nB vA vB xA cA xB cB bA aA bB aB mP jL mQ jM w)(hb:bB=true)(ha:aB=false)(_:(0:Nat)=0):
  ∃v' w',(Builtin.append_ #[Zd,Zd] Zd #[vB,mQ]).run Tryz.prog w= .ok v' w'∧rF w0 eA kA nA eB kB nB vA vB xA cA xB cB bA aA bB true mP jL mQ v' w':=by
 obtain⟨b,rfl,hbk,hbv⟩:=h.pb hb ha;obtain⟨v',w',hr,ho,hg,hv⟩:=hap.app w _ vB nB xB b cB (h.b0 ha) hbk hl h1 hn h.k.size;refine⟨v',w',hr,h.k.grown hg fun k hk=>(rH (h.b0 ha) hk).1,fun e=>fT (h.a0 e) hg fun b hb'=>jw (h.a0 e) (h.b0 ha) UW b hb',fun e=>fT (h.a1 e) hg fun b hb'=>jw (h.a1 e) (h.b0 ha) UW b hb',fun e=>(by cases e),fun _=>ho,fun e1 e2=> ?_,fun _ e=>(by cases e)⟩;obtain⟨b2,h2,⟨t2,h3⟩,h4⟩:=h.pa e1 e2;exact⟨b2,h2,⟨t2,by rw [hg.block b2 (lt_of_heap h3) fun e=>h4 ha e.symm];exact h3⟩,fun e=>(by cases e)⟩
theorem rF.start (hbA:bA=false)(haA:aA=false)(hbB:bB=false)(haB:aB=false)(_:(0:Nat)=0)(_:(0:Nat)=0)(h:Keep au w0 w∧w.ownsRow w0.heap.size eA kA vA nA xA∧w.ownsRow w0.heap.size eB kB vB nB xB):rF w0 eA kA nA eB kB nB vA vB xA cA xB cB bA aA bB aB mP jL mQ jM w.drew:=by
 subst hbA haA hbB haB;have k:Keep au w w.drew:=(Keep.refl _ _).drew;exact⟨h.1.both k,fun _=>bR h.2.1 k,fun e=>(by cases e),fun _=>bR h.2.2 k,fun e=>(by cases e),fun e=>(by cases e),fun e=>(by cases e)⟩
theorem rF.done (h:rF w0 eA kA nA eB kB nB vA vB xA cA xB cB bA aA bB aB mP jL mQ jM w)(_:bA=true)(ha:aA=true)(_:bB=true)(hb:aB=true):zcB w0 eA kA nA eB kB nB xA cA xB cB jL jM w:=⟨h.k,h.a1 ha,h.b1 hb⟩
end
def stT (k:Int)(o:Option Addr)(n c:Nat):Array Value:= #[.int .i64 k,.slice o n c,.slice none 0 0,.int .i64 0,.int .i64 0,.int .i64 0,.slice none 0 0,.int .i64 0,.int .i64 0]
abbrev Ch:TypeId:=22
theorem MX:(Tryz.prog.info? Ch).map (fun i=>(i.zero,i.size,i.bytes))=some (some (.slice none 0 0),1,24):=kr
def vC (v:Value):List Value:= [v]
theorem GR (v:Value):(vC v).length=1:=rfl
def je (w0 w:World)(v:Value)(cls:List (List Int)):Prop:=
 ∃vs:List Value,vs.length=cls.length∧aO Ch 1 vC w w0.heap.size v vs∧∀(i:Nat) (x:Value) (c:List Int),vs[i]? =some x→cls[i]? =some c→aR w0 x c∧GU x
theorem je.keep {w0 w w':World}{v:Value}{cls:List (List Int)}(h:je w0 w v cls)(k:Keep au w w'):je w0 w' v cls:=by
 obtain⟨vs,h1,h2,h3⟩:=h;exact⟨vs,h1,aO.keep h2 k,h3⟩
theorem je.len {w0 w:World}{v:Value}{cls:List (List Int)}(h:je w0 w v cls):∃oa cap,v= .slice oa cls.length cap∧cls.length≤cap∧cap≤maxLen:=by
 obtain⟨vs,h1,h2,h3⟩:=h;obtain⟨oa,cap,e,a,b⟩:=aO.len h2;rw [h1]at e a;exact⟨oa,cap,e,a,b⟩
theorem je.cls {w0 w:World}{v:Value}{cls:List (List Int)}(h:je w0 w v cls)(k:Keep au w0 w):fM w v cls:=by
 obtain⟨oa,cap,e,a,b⟩:=h.len;obtain⟨vs,h1,h2,h3⟩:=h;refine⟨oa,cap,e,a,b,fun hne=> ?_⟩;obtain⟨g,cap',e',hb,hl,hc⟩:=aO.cells GR h2 (by intro h;subst h;cases cls<;>simp_all);rw [e]at e';injection e' with q1 q2 q3;refine⟨g,0,q1,hl,fun i c hi=> ?_⟩;have hi':i<vs.length:=by rw [h1];exact(List.getElem?_eq_some_iff.1 hi).1
 have hx:=eD hi';obtain⟨p,q⟩:=h3 i _ c hx hi;refine⟨vs[i],?_,p.keep k,q⟩;have:=hc i _ hx 0 _ rfl;simpa using this
theorem je.block {w0 w:World}{v:Value}{cls:List (List Int)}(h:je w0 w v cls):∀k,v.ownBlock=some k→w0.heap.size≤k∧k<w.heap.size:=by
 obtain⟨vs,h1,h2,h3⟩:=h;exact fun k hk=>⟨aO.block h2 k hk,aO.lt h2 k hk⟩
theorem je.app {w0 w:World}{v:Value}{cls:List (List Int)}(h:je w0 w v cls){b:Nat}{x:Value}{c:List Int}(hbk:aL w b #[x])(hx:aR w0 x c)(hcx:GU x)(hl:cls.length≤100000)(hs:w0.heap.size≤w.heap.size):
  ∃v' w',(Builtin.append_ #[27,27] 27 #[v,.slice (some ⟨b,0,none⟩) 1 1]).run Tryz.prog w= .ok v' w'∧je w0 w' v' (cls++ [c])∧w.grownBy w' v.ownBlock∧(v'.ownBlock=v.ownBlock∨v'.ownBlock=some w.heap.size):=by
 obtain⟨i,hi,hz,hs',hb⟩:=info_parts MX;obtain⟨vs,h1,h2,h3⟩:=h;have h1c:∀u∈vC x,u.oneCell'=true:=by
  intro u hu;obtain⟨o,n,cc,rfl,_⟩:=hcx;simp [vC]at hu;subst hu;rfl
 obtain⟨v',w',hr,ho,hg,hv⟩:=aO.app (T:=Ch) (K:=1) (c:=vC) GR Tryz.underlying27 hi hz hs' hb rfl om h2 (x:=x) hbk h1c (by unfold maxLen;omega) om hs;refine⟨v',w',hr,⟨vs++ [x],by simp [h1],ho,fun j y d hy hd=> ?_⟩,hg,hv⟩;by_cases hj:j<vs.length
 ·rw [List.getElem?_append_left hj]at hy;rw [List.getElem?_append_left om]at hd;exact h3 j y d hy hd
 have hj2:j=vs.length:=by
  have:=(List.getElem?_eq_some_iff.1 hy).1;simp at this;omega
 subst hj2;rw [List.getElem?_append_right (Nat.le_refl _)]at hy;rw [h1,List.getElem?_append_right (Nat.le_refl _)]at hd;simp at hy hd;subst hy;subst hd;exact⟨hx,hcx⟩
theorem World.ownsRow_set_other {w:World}{base:Nat}{e:TypeId}{k:Nat}{v:Value}{n:Nat}{xs:List Value}{b i:Nat}{u:Value}(h:w.ownsRow base e k v n xs)(hb:∀q,v.ownBlock=some q→q≠b):(w.setCell ⟨b,i,none⟩ u).ownsRow base e k v n xs:=by
 obtain⟨hl,h | ⟨g,cap,cur,hv,hb',hg,hl',hm,hs,ht⟩⟩:=h
 ·exact ⟨hl,.inl h⟩
 exact⟨hl,.inr ⟨g,cap,cur,hv,hb',by rw [heap_setCell_other _ _ _ _ (hb g (by rw [hv];rfl))];exact hg,hl',hm,hs,ht⟩⟩
theorem Ze (w:World)(n c:Nat):Sem.run Tryz.prog (binOp BinOp.eql 27 (Value.slice none n c) (Value.slice none 0 0)) w= .ok (.bool true) w:=rfl
theorem UZ (w:World)(a:Addr)(n c:Nat):Sem.run Tryz.prog (binOp BinOp.eql 27 (Value.slice (some a) n c) (Value.slice none 0 0)) w= .ok (.bool false) w:=rfl
theorem qI {w:World}{base:Nat}{e:TypeId}{size:Nat}(hb:base≤w.heap.size):(w.alloc (.cells #[] e)).ownsRow base e size (.slice (some ⟨w.heap.size,0,none⟩) 0 0) 0 []:=⟨sm,.inr ⟨w.heap.size,0,#[],rfl,hb,aK _ _ _ rfl,Nat.le_refl _,by unfold maxLen;omega,sm,sm⟩⟩
theorem U0 {w:World}{oc:Option Addr}{n cc:Nat}{cls:List (List Int)}(h:fM w (.slice oc n cc) cls):∃vs:List Value,vs.length=cls.length∧(∀ (i:Nat) (x:Value) (c:List Int),vs[i]? =some x→cls[i]? =some c→aR w x c∧GU x)∧(cls≠ []→∃b o,oc=some ⟨b,o,none⟩∧b<w.heap.size∧∀i x,vs[i]? =some x→w.cell? ⟨b,o+i,none⟩=some x):=by
 by_cases hne:cls= []
 ·subst hne;exact⟨[],rfl,fun i x c hx=>by simp at hx,fun h=>absurd rfl h⟩
 obtain⟨oa,cap,hv,_,_,h4⟩:=h;injection hv with q1 q2 q3;subst q1;obtain⟨b,o,e,hb,hc⟩:=h4 hne;refine⟨(List.range cls.length).map fun i=>(w.cell? ⟨b,o+i,none⟩).getD (.bool false),sm,fun i x c hx hi=> ?_,fun _=>⟨b,o,e,hb,fun i x hx=> ?_⟩⟩
 ·obtain ⟨sv,h1,h2,h3⟩:=hc i c hi;have hl:=(List.getElem?_eq_some_iff.1 hi).1;rw [List.getElem?_map,List.getElem?_range hl]at hx;simp [h1]at hx;subst hx;exact⟨h2,h3⟩
 have hl:i<cls.length:=by simpa using (List.getElem?_eq_some_iff.1 hx).1
 obtain⟨sv,h1,h2,h3⟩:=hc i _ (eD hl);rw [List.getElem?_map,List.getElem?_range hl]at hx;simp [h1]at hx;subst hx;exact h1
theorem U4 (vs:List Value):vs.flatMap vC=vs:=by
 induction vs with
 | nil=>rfl
 | cons v l ih=>rw [List.flatMap_cons,ih];rfl
theorem MZ (w0 w:World)(oc:Option Addr)(cc:Nat)(cls:List (List Int))(h:fM w0 (.slice oc cls.length cc) cls)(k:Keep au w0 w)(hl:cls.length≤100000):
  Calls Tryz.prog 47 #[.slice oc cls.length cc] w fun e w'=>∃o c,e= .returned (.slice o cls.length c)∧je w0 w' (.slice o cls.length c) cls∧Keep au w w':=by
 obtain⟨vs,h1,h2,h3⟩:=U0 h;rcases oc with _ | a
 ·have hnil:=fun w=>Ze w cls.length cc;have hl0:cls= []:=by
   refine Classical.byContradiction fun hne=> ?_;obtain⟨b,o,e,_⟩:=h3 hne;cases e
  have hO:Hid (je w0 w (.slice none cls.length 0) cls):=zh (by subst hl0;exact⟨[],rfl,aO.nil _ _,fun i x c hx=>by simp at hx⟩);have hlz:cls.length=0:=by rw [hl0];rfl
  rw [hlz]at hO hnil ⊢;clear h h1 h2 h3 hlz hl0 k;go_enter Tryz.func47,Tryz.ntmps47;go_wp2;refine bodyPost_ret (by simp [results,Tryz.results47,go_sem];rfl) rfl ?_;exact⟨_,_,rfl,hO.out,kp⟩
 have hnil:=fun w=>UZ w a cls.length cc;have k1:Keep au w (w.alloc (.cells #[] Ch)):=(Keep.refl _ _).alloc _;obtain⟨i,hi,hz,hs,hb⟩:=info_parts MX;have hon:∀u∈vs,u.oneCell'=true:=by
  intro u hu;obtain⟨j,hj,rfl⟩:=List.getElem_of_mem hu;obtain⟨_,o,n,c,hq,_⟩:=h2 j _ (cls[j]' om) (eD hj) (eD om);rw [hq];rfl
 have hcell:∀j u,vs[j]? =some u→(w.alloc (.cells #[] Ch)).cell? (a.add j)=some u:=by
  intro j u hj;have hne:cls≠ []:=by rintro rfl;have:=(List.getElem?_eq_some_iff.1 hj).1;simp at h1;simp [h1]at this
  obtain⟨b,o,e,hbl,hc⟩:=h3 hne;cases e;rw [add_plain];exact((k.both k1).cell hbl).trans (hc j u hj)
 obtain⟨v2,w2,hr2,ho2,hg2,_,hv2⟩:=run_append_own_at (P:=Tryz.prog) (w.alloc (.cells #[] Ch)) w0.heap.size 27 27 Ch i (.slice none 0 0) 1 24 Tryz.underlying27 hi hz hs hb rfl om (.slice (some ⟨w.heap.size,0,none⟩) 0 0) 0 [] (qI k.size) a cls.length cc vs (by rw [h1,Nat.mul_one]) hcell hon (by unfold maxLen;omega) om (k.both k1).size;have K2:=zh (k1.grown hg2 fun q hq=>by cases hq;exact Nat.le_refl _);have HO:Hid (je w0 w2 v2 cls):=zh ⟨vs,h1,by unfold aO;rw [U4,h1];simpa using ho2,h2⟩;obtain⟨o2,c2,hq,_⟩:=HO.out.len;subst hq;clear h h1 h2 h3 ho2 hg2 k1 hv2 hcell hon k hi hz hs hb;go_enter Tryz.func47,Tryz.ntmps47;go_wp2_with (at_builtin;refine aV _ _ 27 _ _ rfl rfl rfl rfl hr2 ?_);refine bodyPost_ret (by simp [results,Tryz.results47,go_sem];rfl) rfl ?_;exact⟨_,_,rfl,HO.out,K2.out⟩
def oQ (w:World)(v:Value)(l:List Sv.Stp):Prop:=
 ∃oa cap,v= .slice oa l.length cap∧l.length≤cap∧cap≤maxLen∧(l≠ []→∃b o,oa=some ⟨b,o,none⟩∧b<w.heap.size∧∀(i:Nat) (x:Sv.Stp),l[i]? =some x→∃ol cl,aR w (.slice ol x.lits.length cl) x.lits∧x.lits.length≤cl∧cl≤maxLen∧∀(j:Nat) (u:Value),(stT x.kind ol x.lits.length cl)[j]? =some u→w.cell? ⟨b,o+i*9+j,none⟩=some u)
theorem oQ.len {w:World}{v:Value}{l:List Sv.Stp}(h:oQ w v l):∃oa cap,v= .slice oa l.length cap∧l.length≤cap∧cap≤maxLen:=by
 obtain⟨oa,cap,h1,h2,h3,_⟩:=h;exact⟨oa,cap,h1,h2,h3⟩
theorem oQ.keep {w w':World}{v:Value}{l:List Sv.Stp}(h:oQ w v l)(k:Keep au w w'):oQ w' v l:=by
 obtain⟨oa,cap,h1,h2,h3,h4⟩:=h;refine⟨oa,cap,h1,h2,h3,fun hne=> ?_⟩;obtain⟨b,o,e,hb,hc⟩:=h4 hne;refine⟨b,o,e,bJ hb k.size,fun i x hi=> ?_⟩;obtain⟨ol,cl,p,q,r,s⟩:=hc i x hi;exact⟨ol,cl,p.keep k,q,r,fun j u hj=>(k.cell hb).trans (s j u hj)⟩
theorem oQ.at {w:World}{oa:Option Addr}{n cap:Nat}{l:List Sv.Stp}(h:oQ w (.slice oa n cap) l){k:Nat}(hk:k<l.length):
  ∃b o ol cl,oa=some ⟨b,o,none⟩∧b<w.heap.size∧aR w (.slice ol l[k].lits.length cl) l[k].lits∧l[k].lits.length≤cl∧cl≤maxLen∧w.cell? ⟨b,o+k*9,none⟩=some (.int .i64 l[k].kind)∧w.cell? ⟨b,o+k*9+1,none⟩=some (.slice ol l[k].lits.length cl)∧w.cell? ⟨b,o+k*9+2,none⟩=some (.slice none 0 0)∧w.cell? ⟨b,o+k*9+3,none⟩=some (.int .i64 0)∧w.cell? ⟨b,o+k*9+4,none⟩=some (.int .i64 0)∧w.cell? ⟨b,o+k*9+5,none⟩=some (.int .i64 0)∧w.cell? ⟨b,o+k*9+6,none⟩=some (.slice none 0 0)∧w.cell? ⟨b,o+k*9+7,none⟩=some (.int .i64 0)∧w.cell? ⟨b,o+k*9+8,none⟩=some (.int .i64 0):=by
 obtain⟨MP,cap',hv,_,_,h4⟩:=h;cases hv;obtain⟨b,o,e,hb,hc⟩:=h4 (by rintro rfl;simp at hk);obtain⟨ol,cl,p,q,r,s⟩:=hc k l[k] (by simp [hk]);exact⟨b,o,ol,cl,e,hb,p,q,r,s 0 _ rfl,s 1 _ rfl,s 2 _ rfl,s 3 _ rfl,s 4 _ rfl,s 5 _ rfl,s 6 _ rfl,s 7 _ rfl,s 8 _ rfl⟩
end Go.Proofs.YtmepglhdcphffaaGreat
