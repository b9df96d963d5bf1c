/- What the walks are told of arguments that are slices of fractions. What the walks are told of arguments that are lists of rows, tables of fractions. Package row's check of a row and a point. Package row's sum of a row at a point. The reference's sum of a row at a point. Package row's Value and Holds. Package row's Holds. The reference's RowPoint and RowHolds. -/
import Derived.Test.YtmepglhdcphffaaGreatBaseB
import Derived.Test.YtmepglhdcphffaaGreatBaseA
import Derived.Test.YtmepglhdcphffaaGreatRowAA
import Derived.Test.YtmepglhdcphffaaGreatExAA
namespace Go.Proofs.YtmepglhdcphffaaGreat
set_option maxRecDepth 100000
set_option maxHeartbeats 8000000
set_option linter.unusedSimpArgs false
set_option linter.unusedVariables false
open Go.ChangeShapes Go.WideShapes Go.ChangeAt Go.RowKit Go.Joins Go.Deep
structure Fq where
 N:Int
 D:Int
instance :Inhabited Fq:=⟨⟨0,0⟩⟩
def dM (w:World)(v:Value)(l:List Fq):Prop:=
 ∃oa cap,v= .slice oa l.length cap∧l.length≤cap∧cap≤maxLen∧(∀g∈l,dA g.N∧dA g.D)∧(l≠ []→∃b o,oa=some ⟨b,o,none⟩∧b<w.heap.size∧
  ∀i g,l[i]? =some g→w.cell? ⟨b,o+i*2,none⟩=some (.int .i64 g.N)∧w.cell? ⟨b,o+i*2+1,none⟩=some (.int .i64 g.D))
theorem dM.keep {w w':World}{v:Value}{l:List Fq}(h:dM w v l)(k:Keep au w w'):dM w' v l:=by
 obtain⟨oa,cap,h1,h2,h2',h3,h4⟩:=h;refine⟨oa,cap,h1,h2,h2',h3,fun hne=> ?_⟩;obtain⟨b,o,e,hb,hc⟩:=h4 hne;exact⟨b,o,e,bJ hb k.size,fun i g hg=>by simp only [k.cell hb];exact hc i g hg⟩
theorem dM.len {w:World}{v:Value}{l:List Fq}(h:dM w v l):∃oa cap,v= .slice oa l.length cap∧l.length≤cap∧cap≤maxLen:=by
 obtain⟨oa,cap,h1,h2,h2',_⟩:=h;exact⟨oa,cap,h1,h2,h2'⟩
theorem dM.all {w:World}{v:Value}{l:List Fq}(h:dM w v l):∀g∈l,dA g.N∧dA g.D:=by obtain⟨_,_,_,_,_,h,_⟩:=h;exact h
theorem dM.at {w:World}{oa:Option Addr}{n cap:Nat}{l:List Fq}(h:dM w (.slice oa n cap) l){k:Nat}(hk:k<l.length):
  ∃b o,oa=some ⟨b,o,none⟩∧b<w.heap.size∧w.cell? ⟨b,o+k*2,none⟩=some (.int .i64 l[k].N)∧w.cell? ⟨b,o+k*2+1,none⟩=some (.int .i64 l[k].D):=by
 obtain⟨MP,cap',hv,_,_,_,h4⟩:=h;cases hv;obtain⟨b,o,e,hb,hc⟩:=h4 (by rintro rfl;simp at hk);obtain⟨h1,h2⟩:=hc k l[k] (by simp [hk]);exact⟨b,o,e,hb,h1,h2⟩
section
variable {H:Type} {enc:TypeId × Value→H} {W:World} {base:Nat} {d:DataW H} {p:List MemPlace} {v:Value}
end
instance :Inhabited Rw:=⟨⟨[],0,0⟩⟩
def JB (w:World)(b o:Nat)(r:Rw):Prop:=∃sv,w.cell? ⟨b,o,none⟩=some sv∧w.cell? ⟨b,o+1,none⟩=some (.int .i64 r.kind)∧w.cell? ⟨b,o+2,none⟩=some (.int .i64 r.to)∧aR w sv r.of∧dA r.kind∧dA r.to∧xW sv
def iH (w:World)(v:Value)(l:List Rw):Prop:=
 ∃oa cap,v= .slice oa l.length cap∧l.length≤cap∧cap≤maxLen∧(l≠ []→∃b o,oa=some ⟨b,o,none⟩∧b<w.heap.size∧∀i r,l[i]? =some r→JB w b (o+i*3) r)
def Cm (w:World)(v:Value)(l:List (List Fq)):Prop:=
 ∃oa cap,v= .slice oa l.length cap∧l.length≤cap∧cap≤maxLen∧(l≠ []→∃b o,oa=some ⟨b,o,none⟩∧b<w.heap.size∧∀i r,l[i]? =some r→∃sv,w.cell? ⟨b,o+i,none⟩=some sv∧dM w sv r)
theorem iH.keep {w w':World}{v:Value}{l:List Rw}(h:iH w v l)(k:Keep au w w'):iH w' v l:=by
 obtain⟨oa,cap,h1,h2,h3,h4⟩:=h;refine⟨oa,cap,h1,h2,h3,fun hne=> ?_⟩;obtain⟨b,o,e,hb,hc⟩:=h4 hne;refine⟨b,o,e,bJ hb k.size,fun i r hr=> ?_⟩;obtain⟨sv,c0,c1,c2,hi,h5⟩:=hc i r hr;exact⟨sv,by rw [k.cell hb];exact c0,by rw [k.cell hb];exact c1,by rw [k.cell hb];exact c2,hi.keep k,h5⟩
theorem Cm.keep {w w':World}{v:Value}{l:List (List Fq)}(h:Cm w v l)(k:Keep au w w'):Cm w' v l:=by
 obtain⟨oa,cap,h1,h2,h3,h4⟩:=h;refine⟨oa,cap,h1,h2,h3,fun hne=> ?_⟩;obtain⟨b,o,e,hb,hc⟩:=h4 hne;refine⟨b,o,e,bJ hb k.size,fun i r hr=> ?_⟩;obtain⟨sv,c0,hi⟩:=hc i r hr;exact⟨sv,by rw [k.cell hb];exact c0,hi.keep k⟩
theorem iH.len {w:World}{v:Value}{l:List Rw}(h:iH w v l):∃oa cap,v= .slice oa l.length cap∧l.length≤cap∧cap≤maxLen:=by
 obtain⟨oa,cap,h1,h2,h3,_⟩:=h;exact⟨oa,cap,h1,h2,h3⟩
theorem Cm.len {w:World}{v:Value}{l:List (List Fq)}(h:Cm w v l):∃oa cap,v= .slice oa l.length cap∧l.length≤cap∧cap≤maxLen:=by
 obtain⟨oa,cap,h1,h2,h3,_⟩:=h;exact⟨oa,cap,h1,h2,h3⟩
theorem iH.at {w:World}{oa:Option Addr}{n cap:Nat}{l:List Rw}(h:iH w (.slice oa n cap) l){k:Nat}(hk:k<l.length):
  ∃b o,oa=some ⟨b,o,none⟩∧b<w.heap.size∧JB w b (o+k*3) l[k]:=by
 obtain⟨MP,cap',hv,_,_,h4⟩:=h;cases hv;obtain⟨b,o,e,hb,hc⟩:=h4 (by rintro rfl;simp at hk);exact⟨b,o,e,hb,hc k l[k] (by simp [hk])⟩
theorem Cm.at {w:World}{oa:Option Addr}{n cap:Nat}{l:List (List Fq)}(h:Cm w (.slice oa n cap) l){k:Nat}(hk:k<l.length):
  ∃b o sv,oa=some ⟨b,o,none⟩∧b<w.heap.size∧w.cell? ⟨b,o+k,none⟩=some sv∧dM w sv l[k]:=by
 obtain⟨MP,cap',hv,_,_,h4⟩:=h;cases hv;obtain⟨b,o,e,hb,hc⟩:=h4 (by rintro rfl;simp at hk);obtain⟨sv,h1,h2⟩:=hc k l[k] (by simp [hk]);exact⟨b,o,sv,e,hb,h1,h2⟩
theorem JB.row {w:World}{b o:Nat}{r:Rw}(h:JB w b o r):∃os cs,w.cell? ⟨b,o,none⟩=some (.slice os r.of.length cs)∧w.cell? ⟨b,o+1,none⟩=some (.int .i64 r.kind)∧w.cell? ⟨b,o+2,none⟩=some (.int .i64 r.to)∧tF w (.agg #[.slice os r.of.length cs,.int .i64 r.kind,.int .i64 r.to]) r:=by
 obtain⟨sv,c0,c1,c2,hi,h5⟩:=h;obtain⟨os,cs,rfl,_⟩:=hi.len;exact⟨os,cs,c0,c1,c2,_,rfl,hi,h5⟩
section
variable {H:Type} {enc:TypeId × Value→H} {W:World} {base:Nat} {d:DataW H} {p:List MemPlace} {v:Value}
end
open Go.ChangeShapes Go.WideShapes Go.RowKit
def fP:List Fq→Nat→Int × Int
 | [],_=>(0,0)
 | g::l,i=>if bF g.N g.D then fP l (i+1)else(5,i)
theorem JD {l:List Fq}{k i:Nat}(hk:k<l.length)(h:bF l[k].N l[k].D):fP (l.drop k) i=fP (l.drop (k+1)) (i+1):=by
 rw [List.drop_eq_getElem_cons hk,fP,if_pos h]
theorem GY {l:List Fq}{k i:Nat}(hk:k<l.length)(h:¬bF l[k].N l[k].D):fP (l.drop k) i=(5,(i:Int)):=by
 rw [List.drop_eq_getElem_cons hk,fP,if_neg h]
theorem GZ {l:List Fq}{k i:Nat}(hk:l.length≤k):fP (l.drop k) i=(0,0):=by
 rw [List.drop_eq_nil_of_le hk];rfl
theorem xX:∀ {l:List Fq} {i:Nat},(fP l i).1=0→fP l i=(0,0)∧∀g∈l,bF g.N g.D
 | [],_,_=>⟨rfl,fun _ h=>by cases h⟩
 | g::l,i,h=>by
  unfold fP at h ⊢;by_cases hg:bF g.N g.D
  ·rw [if_pos hg]at h ⊢;obtain⟨h1,h2⟩:=xX h;refine⟨h1,fun x hx=> ?_⟩;rcases List.mem_cons.1 hx with rfl | hx
   ·exact hg
   exact h2 x hx
  rw [if_neg hg]at h;simp at h
def YB (r:Rw)(nums:List Fq):Int × Int:=if(ku r nums.length).1≠0 then ku r nums.length else fP nums 0
theorem Rf (w:World)(v:Value)(r:Rw)(vn:Value)(nums:List Fq)(h:tF w v r)(hn:dM w vn nums):
  Calls Tryz.prog 37 #[v,vn] w fun e w'=>e= .returned (fV (YB r nums))∧Keep au w w':=by
 have CH:=fun w' (k:Keep au w w')=>zh (xY w' v r nums.length (h.keep k));have HN:=zh hn;obtain⟨sv,rfl,hi,_⟩:=h;obtain⟨os,cs,rfl,_⟩:=hi.len;obtain⟨oa,ca,rfl,hca,hma⟩:=hn.len;unfold maxLen at hma;have HP:Hid (YB r nums=if(ku r nums.length).1≠0 then ku r nums.length else fP nums 0):=zh rfl;generalize YB r nums=pf at *;generalize ku r nums.length=c at *;obtain⟨c1,c2⟩:=c;unfold fV at CH ⊢;simp only at CH HP;clear hi hn;go_enter Tryz.func37,Tryz.ntmps37;go_wp2_with fail;refine(CH _ kp).out.mono ?_;rintro e w1 ⟨rfl,hk1⟩;have B4:aL w1 (w.heap.size+1) #[.int .i64 0,.int .i64 0]:=aL.keep kb hk1;have K1:Hid (Keep au w w1):=zh (Keep.both kp hk1);have fC:=zh B4;have EG:Hid (w.heap.size≤w.heap.size+1):=zh om;clear hk1 CH B4;generalize w.heap.size+1=b4 at*;by_cases hc:c1=0
 ·have hcc:=HP.out;rw [if_neg (by simp [hc])]at hcc;have YD:=zh hcc;clear hcc HP;subst hc;have Bf:Hid (Keep au w (w1.alloc (.cells #[.int .i64 0,.int .i64 c2] 38))):=zh (K1.out.alloc _);have HB0:Hid (aL (w1.alloc (.cells #[.int .i64 0,.int .i64 c2] 38)) b4 #[.int .i64 0,.int .i64 0]):=zh (fC.out.old _);go_wp2_with fail;go_loopw [18] (fun s wr=>∃k:Nat,k≤nums.length∧s= .int .i64 k∧fP nums 0=fP (nums.drop k) k∧Keep au w wr∧aL wr b4 #[.int .i64 0,.int .i64 0]) (fun s _=>(nums.length-intOf s).toNat)
  case atStart=>exact⟨0,om,rfl,rfl,Bf.out,HB0.out⟩
  obtain⟨k,hk,rfl,hf,hkr,hbr⟩:=hrel;have HF:=zh hf;have dH:=zh hkr;have Bg:=zh hbr;clear hf hkr hbr Bf HB0 fC K1;by_cases hkl:k<nums.length
  ·have hlt:(k:Int)<(nums.length:Int):=om;obtain⟨b,o,rfl,hbl,p0,p1⟩:=(HN.out.keep dH.out).at hkl;have YA:=fun h=>JD (i:=k) hkl h;have ER:=fun h=>GY (i:=k) hkl h;generalize nums[k].N=gn at *;generalize nums[k].D=gd at *;have zH:=zh YA;have U9:=zh ER;clear YA ER;by_cases hx:bF gn gd
   ·have CC:=fun w=>zh (mR gn gd w hx);have lY:=zh (HF.out.trans (zH.out hx));clear hx zH U9 HF;go_wp2_with fail;refine(CC _).out.mono ?_;rintro e w4 ⟨rfl,hb4⟩;have hk4:Keep au (wr.alloc (.cells #[.int .i64 gn,.int .i64 gd] 95)) w4:=Keep.of_below hb4 (Nat.le_refl _);have k4:Keep au wr w4:=Keep.trans kp hk4 fun _ _ _ h=>h;clear hb4 hk4 p0 p1;go_wp2;go_roundw
    case rel=>exact⟨k+1,om,by go_num,lY.out,dH.out.both k4,Bg.out.keep k4⟩
    simp [intOf];omega
   have CC:=fun w=>zh (xZ gn gd w hx);have lY:=zh (HF.out.trans (U9.out hx));clear hx zH U9 HF;go_wp2_with fail;refine(CC _).out.mono ?_;rintro e w4 ⟨rfl,hb4⟩;have hk4:Keep au (wr.alloc (.cells #[.int .i64 gn,.int .i64 gd] 95)) w4:=Keep.of_below hb4 (Nat.le_refl _);have k4:Keep au wr w4:=Keep.trans kp hk4 fun _ _ _ h=>h;have K4:=zh (dH.out.both k4);have fC:=zh (Bg.out.keep k4);clear hb4 hk4 p0 p1;obtain⟨r0,r1,f0,f1,rl⟩:=fC.out.two;go_wp2;refine bodyPost_ret (by simp [results,Tryz.results37,go_sem,r0,r1,rl];rfl) rfl ?_;exact⟨by rw [YD.out,lY.out],dw K4.out EG.out _ _⟩
  have hlt:¬(k:Int)<(nums.length:Int):=om;have lY:=zh (HF.out.trans (GZ (i:=k) om));obtain⟨r0,r1,f0,f1,rl⟩:=Bg.out.two;go_wp2;refine bodyPost_ret (by simp [results,Tryz.results37,go_sem,r0,r1,rl];rfl) rfl ?_;exact⟨by rw [YD.out,lY.out],dw dH.out EG.out _ _⟩
 have e1:(c1 != 0)=true:=by rw [bne_iff_ne];exact hc
 have hcc:=HP.out;rw [if_pos (by exact hc)]at hcc;subst hcc;obtain⟨r0,r1,f0,f1,rl⟩:=fC.out.two;have hn1:¬b4=w1.heap.size:=om;go_wp2;refine bodyPost_ret (by simp [results,Tryz.results37,go_sem,r0,r1,rl,hn1];rfl) rfl ?_;have HK:=K1;have hs4:=EG.out;exact⟨rfl,kp⟩
theorem tZ (q:Rat):∃b S c U,qj q= .agg #[.bool b,.string S,.bool c,.string U]:=⟨_,_,_,_,rfl⟩
theorem aL.set4 {w:World}{b:Nat}{x y z u:Value}(h:aL w b #[x,y,z,u])(p q r s:Value):aL ((((w.setCell ⟨b,0,none⟩ p).setCell ⟨b,1,none⟩ q).setCell ⟨b,2,none⟩ r).setCell ⟨b,3,none⟩ s) b #[p,q,r,s]:=by
 obtain⟨t,h⟩:=h;exact⟨t,heap_setCell_same 3 s (heap_setCell_same 2 r (heap_setCell_same 1 q (heap_setCell_same 0 p h)))⟩
theorem aL.other4 {w:World}{b b':Nat}{A:Array Value}(h:aL w b A)(hne:b≠b')(p q r s:Value):aL ((((w.setCell ⟨b',0,none⟩ p).setCell ⟨b',1,none⟩ q).setCell ⟨b',2,none⟩ r).setCell ⟨b',3,none⟩ s) b A:=by
 obtain⟨t,h⟩:=h;exact⟨t,by rw [heap_setCell_other _ _ _ _ hne,heap_setCell_other _ _ _ _ hne,heap_setCell_other _ _ _ _ hne,heap_setCell_other _ _ _ _ hne];exact h⟩
theorem Py:Bh 0 0= .agg #[.bool false,.string ⟨#[]⟩,.bool false,.string ⟨#[]⟩]:=by
 unfold Bh;rw [show bV (0:Int).natAbs= []from iR];rfl
def Fq.q (g:Fq):Rat:=Rat.divInt g.N g.D
def Bl (of:List Int)(nums:List Fq):Nat→Rat
 | 0=>0
 | k+1=>Bl of nums k+(of.getD k 0:Rat)*(nums.getD k ⟨0,0⟩).q
theorem Zh {g:Fq}(h:bF g.N g.D):NB 1 g.q:=mM (jY (by have:=h.2.2;omega)) (jY (by have:=h.1;have:=h.2.1;omega)) (by have:=h.1;omega)
theorem Na {of:List Int}{nums:List Fq}(hf:∀x∈of,fO x)(hn:∀g∈nums,bF g.N g.D)(hl:of.length≤nums.length):∀k,k≤of.length→NB (3*k+1) (Bl of nums k)
 | 0,_=>kW
 | k+1,h=>by
  have ih:=Na hf hn hl k om;have h1:NB 1 ((of.getD k 0:Int):Rat):=jg (by
   have:=hf (of.getD k 0) (by rw [dV,eD om];exact List.getElem_mem _);unfold fO at this;omega)
  have h2:NB 1 (nums.getD k ⟨0,0⟩).q:=Zh (hn _ (by rw [dV,eD om];exact List.getElem_mem _));exact(ih.add (h1.mul h2)).mono om
theorem Nb (w:World)(v:Value)(r:Rw)(vn:Value)(nums:List Fq)(h:tF w v r)(hn:dM w vn nums)(hf:∀x∈r.of,fO x)(hq:∀g∈nums,bF g.N g.D)(hl:r.of.length≤nums.length)(hl12:r.of.length≤12):
  Calls Tryz.prog 38 #[v,vn] w fun e w'=>∃u,e= .returned u∧bM u (Bl r.of nums r.of.length)∧Keep au w w':=by
 have HN:=zh hn;obtain⟨sv,rfl,hi,_⟩:=h;have HI:=zh hi;obtain⟨os,cs,rfl,_⟩:=hi.len;obtain⟨oa,ca,rfl,hca,hma⟩:=hn.len;unfold maxLen at hma;have HF:=zh hf;have HQ:=zh hq;have EI:=zh (Na hf hq hl);clear hi hn hf hq;go_enter Tryz.func38,Tryz.ntmps38;go_wp2_with fail;have W0F:∃W,W=((w.alloc (.cells #[.slice os r.of.length cs,.int .i64 r.kind,.int .i64 r.to] 34)).alloc (.cells #[.bool false,.string ⟨#[]⟩,.bool false,.string ⟨#[]⟩] 102)).alloc (.cells #[.bool false,.string ⟨#[]⟩,.bool false,.string ⟨#[]⟩] 102):=⟨_,rfl⟩;obtain⟨w0,hw0⟩:=W0F;have fC:Hid (aL w0 (w.heap.size+1) #[.bool false,.string ⟨#[]⟩,.bool false,.string ⟨#[]⟩]):=zh (by rw [hw0];exact kc);have dY:Hid (aL w0 (w.heap.size+1+1) #[.bool false,.string ⟨#[]⟩,.bool false,.string ⟨#[]⟩]):=zh (by rw [hw0];exact kc);have Bf:Hid (Keep au w w0):=zh (by rw [hw0];exact kp);have EG:Hid (w.heap.size≤w.heap.size+1):=zh om;have G5:Hid (w.heap.size≤w.heap.size+1+1):=zh om;have h45:w.heap.size+1≠w.heap.size+1+1:=om;rw [← hw0];clear hw0;generalize w.heap.size+1+1=b5 at *;generalize w.heap.size+1=b4 at *;go_loopw [11] (fun s wr=>∃k:Nat,k≤r.of.length∧s= .int .i64 k∧Keep au w wr∧aL wr b4 #[.bool false,.string ⟨#[]⟩,.bool false,.string ⟨#[]⟩]∧∃nb nS db dS,aL wr b5 #[.bool nb,.string nS,.bool db,.string dS]∧bM (.agg #[.bool nb,.string nS,.bool db,.string dS]) (Bl r.of nums k)) (fun s _=>(r.of.length-intOf s).toNat)
 case atStart=>exact⟨0,om,rfl,Bf.out,fC.out,false,⟨#[]⟩,false,⟨#[]⟩,dY.out,by have:=Px;rwa [Py]at this⟩
 obtain⟨k,hk,rfl,hkr,hb4,nb,nS,db,dS,hb5,wS⟩:=hrel;have dH:=zh hkr;have fC:=zh hb4;have dY:=zh hb5;have Rh:=zh wS;clear hkr hb4 hb5 wS Bf;by_cases hkl:k<r.of.length
 ·have hlt:(k:Int)<(r.of.length:Int):=om;have hltn:(k:Int)<(nums.length:Int):=om;have zbj:k<nums.length:=om;obtain⟨b,o,cp,hsl,hb,hc⟩:=(HI.out.keep dH.out).at hkl;simp at hsl;obtain⟨rfl,rfl⟩:=hsl;obtain⟨b',o',rfl,hb',p0,p1⟩:=(HN.out.keep dH.out).at zbj;have hqk:=HQ.out _ (List.getElem_mem zbj);have hfk:=HF.out _ (List.getElem_mem hkl);have zcC:=EI.out k om;have hnbk1:=EI.out (k+1) om;have hstep:Bl r.of nums (k+1)=Bl r.of nums k+(r.of[k]:Rat)*(nums[k]).q:=by
   simp only [Bl,dV,eD hkl,eD zbj,Option.getD_some]
  have hgq:(nums[k]).q=Rat.divInt nums[k].N nums[k].D:=rfl;generalize nums[k].N=gn at *;generalize nums[k].D=gd at *;generalize (nums[k]).q=gq at *;generalize r.of[k]=c at *;have hfc:c.natAbs<4294967296:=by unfold fO at hfk;omega
  obtain⟨xb,xS,yb,yS,lx⟩:=tZ (c:Rat);obtain⟨gb,gS,eb,eS,lg⟩:=tZ gq;obtain⟨tb,tS,ub,uS,lt'⟩:=tZ ((c:Rat)*gq);obtain⟨sb,sS,zb,zS,ls⟩:=tZ (Bl r.of nums (k+1));have C0:=fun w=>zh (iF w c (by unfold fO at hfk;omega) (by unfold fO at hfk;omega));rw [← Cn,lx]at C0;have C1:=fun w=>zh (Va w gn gd (by have:=hqk.2.2;omega) (by have:=hqk.1;have:=hqk.2.1;omega) (by have:=hqk.1;omega));rw [← hgq,lg]at C1;have nc:=(jg hfc).mono (k:=1000) om;have ng:NB 1000 gq:=by rw [hgq];exact(mM (k:=1) (jY (by have:=hqk.2.2;omega)) (jY (by have:=hqk.1;have:=hqk.2.1;omega)) (by have:=hqk.1;omega)).mono om
  have nt:=((jg hfc).mul (mM (x:=gn) (y:=gd) (k:=1) (jY (by have:=hqk.2.2;omega)) (jY (by have:=hqk.1;have:=hqk.2.1;omega)) (by have:=hqk.1;omega))).mono (k:=1000) om;rw [← hgq]at nt;have C2:=fun w=>zh (jD w _ (c:Rat) (oV _) nc _ gq (oV _) ng);rw [lx,lg,lt']at C2;have C3:=fun w=>zh (mV w _ (Bl r.of nums k) Rh.out (zcC.mono om) _ ((c:Rat)*gq) (oV _) nt);rw [← hstep,lt',ls]at C3;have Zi:Hid (bM (.agg #[.bool sb,.string sS,.bool zb,.string zS]) (Bl r.of nums (k+1))):=zh (by rw [← ls];exact oV _);clear lx lg lt' ls hfc nc ng nt hqk hfk zcC hnbk1 hstep hgq;go_wp2;obtain⟨q0,q1,q2,q3,g0,g1,g2,g3,ql⟩:=dY.out.four;refine aD (fun w'=>Keep au wr w') [10] [([0,1,3,4,5,6],2),([],7),([],8),([],9),([],10)] [] kr kr kp ?_;intro X W hne hF hcl;have aY:=zh hcl;have hx0:=fun x=>(dY.out.keep (hF x)).four;have hx1:=fun x=>((hF x).cell hb').trans p0;have hx2:=fun x=>((hF x).cell hb').trans p1;clear hF hcl;simp only [aW,aJ,zl0,zl1,zl2,aX,Bool.false_eq_true,if_false]
  (repeat(quiet_step (fail)));refine wpQuiet_nil ?_
  refine ay rfl rfl fun K hK=> ?_;go_simp;refine(C0 _).out.mono ?_;rintro e w1 ⟨rfl,hk1⟩;have k1:Keep au wr w1:=Keep.trans kp hk1 fun _ _ _ h=>h;refine hK _ _ ⟨fun _=>aY.out _ k1,?_⟩;clear hK K hk1
  (repeat(quiet_step (fail)));refine wpQuiet_nil ?_
  refine ay rfl rfl fun K hK=> ?_;go_simp;refine(C1 _).out.mono ?_;rintro e w2 ⟨rfl,hk2⟩;have k2:=k1.both hk2;refine hK _ _ ⟨fun _=>aY.out _ k2,?_⟩;clear hK K hk2
  (repeat(quiet_step (fail)));refine wpQuiet_nil ?_
  refine ay rfl rfl fun K hK=> ?_;go_simp;refine(C2 _).out.mono ?_;rintro e w3 ⟨rfl,hk3⟩;have k3:=k2.both hk3;refine hK _ _ ⟨fun _=>aY.out _ k3,?_⟩;clear hK K hk3
  (repeat(quiet_step (fail)));refine wpQuiet_nil ?_
  refine ay rfl rfl fun K hK=> ?_;go_simp;refine(C3 _).out.mono ?_;rintro e w4 ⟨rfl,hk4⟩;have k4:=k3.both hk4;refine hK _ _ ⟨fun _=>aY.out _ k4,?_⟩;have zeg:=zh (dH.out.both k4);have zeh:=zh (fC.out.keep k4);have Vb:=zh (dY.out.keep k4);clear hK K hk4 k1 k2 k3 k4 hx0 hx1 hx2 q0 q1 q2 q3 g0 g1 g2 g3 ql;obtain⟨q0,q1,q2,q3,g0,g1,g2,g3,ql⟩:=Vb.out.four
  (repeat(quiet_step (fail)));refine wpQuiet_nil ?_
  refine ay rfl rfl fun K hK=> ?_;go_simp;refine hK _ _ ⟨fun h=>(by simp at h),?_⟩;have zei:=zh (Vb.out.set4 (.bool sb) (.string sS) (.bool zb) (.string zS));have zej:=zh (zeh.out.other4 h45 (.bool sb) (.string sS) (.bool zb) (.string zS));have zek:=zh (fF zeg.out G5.out (.bool sb) (.string sS) (.bool zb) (.string zS));clear hK K q0 q1 q2 q3 g0 g1 g2 g3 ql;generalize (((w4.setCell ⟨b5,0,none⟩ (.bool sb)).setCell ⟨b5,1,none⟩ (.string sS)).setCell ⟨b5,2,none⟩ (.bool zb)).setCell ⟨b5,3,none⟩ (.string zS)=w5 at*
  (repeat(quiet_step (fail)));refine wpQuiet_nil ?_
  refine NoPanic.normal ?_;go_wp2;go_roundw
  case rel=>exact⟨k+1,om,by go_num,zek.out,zej.out,sb,sS,zb,zS,zei.out,Zi.out⟩
  simp [intOf];omega
 have hlt:¬(k:Int)<(r.of.length:Int):=om;obtain rfl:k=r.of.length:=om;obtain⟨q0,q1,q2,q3,_,_,_,_,ql⟩:=dY.out.four;obtain⟨r0,r1,r2,r3,f0,f1,f2,f3,rl⟩:=fC.out.four;go_wp2;refine bodyPost_ret (by simp [results,Tryz.results38,go_sem,r0,r1,r2,r3,rl];rfl) rfl ?_;exact⟨_,rfl,Rh.out,fF dH.out EG.out _ _ _ _⟩
theorem yg:∀ {l:List Int} {i:Nat},(eF l i).1=0→eF l i=(0,0)∧∀x∈l,fO x
 | [],_,_=>⟨rfl,fun _ h=>by cases h⟩
 | x::l,i,h=>by
  unfold eF at h ⊢;by_cases hx:fO x
  ·rw [if_pos hx]at h ⊢;obtain⟨h1,h2⟩:=yg h;refine⟨h1,fun y hy=> ?_⟩;rcases List.mem_cons.1 hy with rfl | hy
   ·exact hx
   exact h2 y hy
  rw [if_neg hx]at h;simp at h
structure iA (r:Rw)(n:Int):Prop where
 n0:0≤n
 n12:n≤12
 kind:r.kind=1∨r.kind=2∨r.kind=3
 len:(r.of.length:Int)≤n
 fit:∀x∈r.of,fO x
 fto:fO r.to
theorem Ri {r:Rw}{n:Int}(h:(ku r n).1=0):ku r n=(0,0)∧iA r n:=by
 unfold ku at h ⊢;by_cases h1:n<0∨12<n
 ·rw [if_pos h1]at h;simp at h
 rw [if_neg h1]at h ⊢;by_cases h2:r.kind=1∨r.kind=2∨r.kind=3
 ·rw [if_neg (not_not_intro h2)]at h ⊢;by_cases h3:n<r.of.length
  ·rw [if_pos h3]at h;simp at h
  rw [if_neg h3]at h ⊢;obtain⟨h4,h5⟩:=yg h;exact⟨h4,om,om,h2,om,fun x hx=>h5 x (by simp [hx]),h5 _ sm⟩
 rw [if_pos h2]at h;simp at h
theorem zbk {r:Rw}{nums:List Fq}(h:(YB r nums).1=0):YB r nums=(0,0)∧iA r nums.length∧∀g∈nums,bF g.N g.D:=by
 unfold YB at h ⊢;by_cases h1:(ku r nums.length).1=0
 ·rw [if_neg (not_not_intro h1)]at h ⊢;obtain⟨h2,h3⟩:=xX h;exact⟨h2,(Ri h1).2,h3⟩
 rw [if_pos h1]at h;exact absurd h h1
theorem Ve (a b:Rat):(a.num*b.den-b.num*a.den).sign=(a-b).num.sign:=by
 rw [← Zj];have hp:(0:Int)<(a.den:Int)*b.den:=Int.mul_pos (by have:=a.den_pos;omega) (by have:=b.den_pos;omega);generalize (a.den:Int)*b.den=d at *;generalize a.num*b.den-b.num*a.den=n at *;have hn:(Rat.divInt n d).num=n.tdiv (Nat.gcd n.natAbs d.natAbs:Nat):=(Bu n d hp).1;have hg:0<Nat.gcd n.natAbs d.natAbs:=Nat.gcd_pos_of_pos_right _ om;have hd:((Nat.gcd n.natAbs d.natAbs:Nat):Int)∣n:=Int.ofNat_dvd_left.2 (Nat.gcd_dvd_left n.natAbs d.natAbs);rw [hn];generalize Nat.gcd n.natAbs d.natAbs=g at *;obtain⟨c,rfl⟩:=hd;rw [Int.mul_tdiv_cancel_left _ om,Int.sign_mul,Int.sign_eq_one_of_pos om,Int.one_mul]
def wT (kind c:Int):Bool:=if kind=1 then decide (c≤0)else if kind=2 then decide (c<0)else decide (c=0)
def Vf (r:Rw)(nums:List Fq):Bool:=wT r.kind (Bl r.of nums r.of.length-(r.to:Rat)).num.sign
def holdsV (r:Rw)(nums:List Fq):Value:=if(YB r nums).1≠0 then .tuple #[.bool false,fV (YB r nums)]else .tuple #[.bool (Vf r nums),fV (0,0)]
theorem holds1 {c:Int}:wT 1 c=decide (c≤0):=by unfold wT;rw [if_pos rfl]
theorem holds2 {c:Int}:wT 2 c=decide (c<0):=by unfold wT;rw [if_neg om,if_pos rfl]
theorem holds3 {c:Int}:wT 3 c=decide (c=0):=by unfold wT;rw [if_neg om,if_neg om]
theorem G6 (w:World)(v:Value)(r:Rw)(vn:Value)(nums:List Fq)(h:tF w v r)(hn:dM w vn nums):
  Calls Tryz.prog 16 #[v,vn] w fun e w'=>e= .returned (holdsV r nums)∧Keep au w w':=by
 have CH:=fun w' (k:Keep au w w')=>zh (Rf w' v r vn nums (h.keep k) (hn.keep k));unfold holdsV;by_cases hc:(YB r nums).1=0
 ·obtain ⟨hc0,hok,hq⟩:=zbk hc;rw [if_neg (not_not_intro hc)];rw [hc0]at CH;have hl:=hok.len;have hb:=Na hok.fit hq om r.of.length (Nat.le_refl _);have hn12:=hok.n12;have CS:=fun w' (k:Keep au w w')=>zh (Nb w' v r vn nums (h.keep k) (hn.keep k) hok.fit hq om om);have EI:=zh (hb.mono (k:=1000) om);have hkd:=hok.kind;have hto:=hok.fto;unfold fO at hto;unfold Vf;obtain⟨sv,rfl,hi,_⟩:=h;obtain⟨os,cs,rfl,_⟩:=hi.len;obtain⟨oa,ca,rfl,_,_⟩:=hn.len;obtain⟨of,kind,tt⟩:=r;simp only at *;generalize Bl of nums of.length=s at *;obtain⟨xb,xS,yb,yS,lx⟩:=tZ (tt:Rat);have CI:=fun w=>zh (iF w tt om om);rw [← Cn,lx]at CI;have nto:=(jg (x:=tt) om).mono (k:=1000) om;have CC:=fun w u (hu:bM u s)=>zh (vF w u s hu EI.out _ (tt:Rat) (oV _) nto);rw [lx]at CC;have Nc:=zh (Ve s (tt:Rat));rw [Nc.out]at CC;generalize (s-(tt:Rat)).num.sign=sg at *;unfold fV at CH ⊢;clear hc hc0 hok hq hl hb hn12 hi hn hto nto Nc lx;go_enter Tryz.func16,Tryz.ntmps16;go_wp2_with fail;refine(CH _ kp).out.mono ?_;rintro e w1 ⟨rfl,hk1⟩;have B2:aL w1 w.heap.size #[.slice os of.length cs,.int .i64 kind,.int .i64 tt]:=aL.keep kb hk1;have B5:aL w1 (w.heap.size+1) #[.int .i64 0,.int .i64 0]:=aL.keep kb hk1;have K1:Hid (Keep au w w1):=zh (Keep.both kp hk1);have G5:Hid (w.heap.size≤w.heap.size+1):=zh om;have HB2:=zh (B2.old (.cells #[.int .i64 0,.int .i64 0] 38));have dY:=zh (B5.old (.cells #[.int .i64 0,.int .i64 0] 38));have Bf:Hid (Keep au w (w1.alloc (.cells #[.int .i64 0,.int .i64 0] 38))):=zh (K1.out.alloc _);clear hk1 CH B2 B5 K1;generalize w.heap.size+1=b5 at *;generalize hb2:w.heap.size=b2 at HB2 ⊢;have G5:Hid (w.heap.size≤b5):=zh (by have:=G5.out;omega);clear hb2;go_wp2;generalize w1.alloc (.cells #[.int .i64 0,.int .i64 0] 38)=w0 at *;refine aD (fun w'=>Keep au w0 w') [] [([0,1,3,4],2),([],5),([],6)] [7] kr kr kp ?_;intro X W hne hF hcl;have aY:=zh hcl;have hx0:=fun x=>(HB2.out.keep (hF x)).three;clear hF hcl;simp only [aW,aJ,zl0,zl1,zl2,aX,Bool.false_eq_true,if_false]
  (repeat(quiet_step (fail)));refine wpQuiet_nil ?_
  refine ay rfl rfl fun K hK=> ?_;go_simp;refine(CS _ (Bf.out.both kp)).out.mono ?_;rintro e w2 ⟨u,rfl,hu,hk2⟩;have k2:Keep au w0 w2:=Keep.trans kp hk2 fun _ _ _ h=>h;refine hK _ _ ⟨fun _=>aY.out _ k2,?_⟩;clear hK K hk2
  (repeat(quiet_step (fail)));refine wpQuiet_nil ?_
  refine ay rfl rfl fun K hK=> ?_;go_simp;refine(CI _).out.mono ?_;rintro e w3 ⟨rfl,hk3⟩;have k3:=k2.both hk3;refine hK _ _ ⟨fun _=>aY.out _ k3,?_⟩;clear hK K hk3
  (repeat(quiet_step (fail)));refine wpQuiet_nil ?_
  refine ay rfl rfl fun K hK=> ?_;go_simp;refine(CC _ u hu).out.mono ?_;rintro e w4 ⟨rfl,hk4⟩;have k4:=k3.both hk4;refine hK _ _ ⟨fun _=>aY.out _ k4,?_⟩;have HB2:=zh (HB2.out.keep k4);have dY:=zh (dY.out.keep k4);have K4:=zh (Bf.out.both k4);clear hK K hk4 k2 k3 k4 hu hx0 CS CI CC EI Bf
  (repeat(quiet_step (fail)));refine wpQuiet_nil ?_
  refine NoPanic.normal ?_;obtain⟨p0,p1,p2,_,_,_,pl⟩:=HB2.out.three;obtain⟨s0,s1,t0,t1,sl⟩:=dY.out.two;rcases hkd with rfl | rfl | rfl
  ·go_wp2;refine bodyPost_ret (by simp [results,Tryz.results16,go_sem,s0,s1,sl];rfl) rfl ?_;exact⟨by rw [holds1],dw K4.out G5.out _ _⟩
  ·go_wp2;refine bodyPost_ret (by simp [results,Tryz.results16,go_sem,s0,s1,sl];rfl) rfl ?_;exact⟨by rw [holds2],dw K4.out G5.out _ _⟩
  go_wp2;refine bodyPost_ret (by simp [results,Tryz.results16,go_sem,s0,s1,sl];rfl) rfl ?_;exact⟨by rw [holds3];rfl,dw K4.out G5.out _ _⟩
 rw [if_pos hc];generalize YB r nums=c at *;obtain⟨c1,c2⟩:=c;simp only at hc;unfold fV at CH ⊢;simp only at CH ⊢;have e1:(c1 != 0)=true:=by rw [bne_iff_ne];exact hc
 obtain⟨sv,rfl,hi,_⟩:=h;obtain⟨os,cs,rfl,_⟩:=hi.len;obtain⟨oa,ca,rfl,_,_⟩:=hn.len;clear hc hi hn;go_enter Tryz.func16,Tryz.ntmps16;go_wp2_with fail;refine(CH _ kp).out.mono ?_;rintro e w1 ⟨rfl,hk1⟩;have B5:aL w1 (w.heap.size+1) #[.int .i64 0,.int .i64 0]:=aL.keep kb hk1;have K1:Hid (Keep au w w1):=zh (Keep.both kp hk1);have dY:=zh B5;have G5:Hid (w.heap.size≤w.heap.size+1):=zh om;clear hk1 CH B5;generalize w.heap.size+1=b5 at *;go_upto_region 3 with fail;have Bf:Hid (Keep au w (w1.alloc (.cells #[.int .i64 c1,.int .i64 c2] 38))):=zh (K1.out.alloc _);have vW:Hid (aL (w1.alloc (.cells #[.int .i64 c1,.int .i64 c2] 38)) w1.heap.size #[.int .i64 c1,.int .i64 c2]):=zh (aN _ _ rfl);have dY:=zh (dY.out.old (.cells #[.int .i64 c1,.int .i64 c2] 38));generalize w1.alloc (.cells #[.int .i64 c1,.int .i64 c2] 38)=w3 at *;generalize w1.heap.size=b6 at *;obtain⟨s0,s1,t0,t1,sl⟩:=dY.out.two;refine aD (fun w'=>Keep au w3 w') [2] [([0,1],2)] [] kr kr kp ?_;intro X W hne hF hcl;have hx0:=fun x=>(vW.out.keep (hF x)).two;clear hF hcl;simp only [aW,aJ,zl0,zl1,zl2,aX,Bool.false_eq_true,if_false]
 (repeat(quiet_step (fail)));refine wpQuiet_nil ?_
 refine ay rfl rfl fun K hK=> ?_;go_simp;refine hK _ _ ⟨fun h=>(by simp at h),?_⟩;have Rj:Hid (aL ((w3.setCell ⟨b5,0,none⟩ (.int .i64 c1)).setCell ⟨b5,1,none⟩ (.int .i64 c2)).drew b5 #[.int .i64 c1,.int .i64 c2]):=zh ((dY.out.set2 (.int .i64 c1) (.int .i64 c2)).keep (Keep.refl au _).drew);have K14:Hid (Keep au w ((w3.setCell ⟨b5,0,none⟩ (.int .i64 c1)).setCell ⟨b5,1,none⟩ (.int .i64 c2)).drew):=zh (dw Bf.out G5.out (.int .i64 c1) (.int .i64 c2)).drew;clear hK K s0 s1 t0 t1 sl;generalize ((w3.setCell ⟨b5,0,none⟩ (.int .i64 c1)).setCell ⟨b5,1,none⟩ (.int .i64 c2)).drew=w5 at*
 (repeat(quiet_step (fail)));refine wpQuiet_nil ?_
 refine NoPanic.normal ?_;obtain⟨s0,s1,t0,t1,sl⟩:=Rj.out.two;go_wp2;refine bodyPost_ret (by simp [results,Tryz.results16,go_sem,s0,s1,sl];rfl) rfl ?_;exact⟨rfl,K14.out⟩
end Go.Proofs.YtmepglhdcphffaaGreat
