/- What the walks are told of arguments that are slices of fractions. What the walks are told of arguments that are lists of rows, tables of fractions. Package row's check of a row and a point. Package row's sum of a row at a point. The reference's sum of a row at a point. Package row's Value and Holds. Package row's Holds. The reference's RowPoint and RowHolds. -/
import Derived.Test.YtaiffmebphhdaaaGreatBaseB
import Derived.Test.YtaiffmebphhdaaaGreatBaseA
import Derived.Test.YtaiffmebphhdaaaGreatRowAA
import Derived.Test.YtaiffmebphhdaaaGreatExAA
namespace Go.Proofs.YtaiffmebphhdaaaGreat
set_option maxRecDepth 100000
set_option maxHeartbeats 8000000
set_option linter.unusedSimpArgs false
set_option linter.unusedVariables false
open Go.ChangeShapes Go.WideShapes Go.ChangeAt Go.RowKit Go.Joins Go.Deep
structure Fq where
 N:Int
 D:Int
instance :Inhabited Fq:=⟨⟨0,0⟩⟩
def dh (w:World)(v:Value)(l:List Fq):Prop:=
 ∃oa cap,v= .slice oa l.length cap∧l.length≤cap∧cap≤maxLen∧(∀g∈l,fT g.N∧fT g.D)∧(l≠ []→∃b o,oa=some ⟨b,o,none⟩∧b<w.heap.size∧
  ∀i g,l[i]? =some g→w.cell? ⟨b,o+i*2,none⟩=some (.int .i64 g.N)∧w.cell? ⟨b,o+i*2+1,none⟩=some (.int .i64 g.D))
theorem dh.keep {w w':World}{v:Value}{l:List Fq}(h:dh w v l)(k:Keep au w w'):dh w' v l:=by
 obtain⟨oa,cap,h1,h2,h2',h3,h4⟩:=h;refine⟨oa,cap,h1,h2,h2',h3,fun hne=> ?_⟩;obtain⟨b,o,e,hb,hc⟩:=h4 hne;exact⟨b,o,e,dJ hb k.size,fun i g hg=>by simp only [k.cell hb];exact hc i g hg⟩
theorem dh.len {w:World}{v:Value}{l:List Fq}(h:dh w v l):∃oa cap,v= .slice oa l.length cap∧l.length≤cap∧cap≤maxLen:=by
 obtain⟨oa,cap,h1,h2,h2',_⟩:=h;exact⟨oa,cap,h1,h2,h2'⟩
theorem dh.all {w:World}{v:Value}{l:List Fq}(h:dh w v l):∀g∈l,fT g.N∧fT g.D:=by obtain⟨_,_,_,_,_,h,_⟩:=h;exact h
theorem dh.at {w:World}{oa:Option Addr}{n cap:Nat}{l:List Fq}(h:dh w (.slice oa n cap) l){k:Nat}(hk:k<l.length):
  ∃b o,oa=some ⟨b,o,none⟩∧b<w.heap.size∧w.cell? ⟨b,o+k*2,none⟩=some (.int .i64 l[k].N)∧w.cell? ⟨b,o+k*2+1,none⟩=some (.int .i64 l[k].D):=by
 obtain⟨XL,cap',hv,_,_,_,h4⟩:=h;cases hv;obtain⟨b,o,e,hb,hc⟩:=h4 (by rintro rfl;simp at hk);obtain⟨h1,h2⟩:=hc k l[k] (by simp [hk]);exact⟨b,o,e,hb,h1,h2⟩
section
variable {H:Type} {enc:TypeId × Value→H} {W:World} {base:Nat} {d:DataW H} {p:List MemPlace} {v:Value}
end
instance :Inhabited Rw:=⟨⟨[],0,0⟩⟩
def MH (w:World)(b o:Nat)(r:Rw):Prop:=∃sv,w.cell? ⟨b,o,none⟩=some sv∧w.cell? ⟨b,o+1,none⟩=some (.int .i64 r.kind)∧w.cell? ⟨b,o+2,none⟩=some (.int .i64 r.to)∧aW w sv r.of∧fT r.kind∧fT r.to∧pz sv
def dD (w:World)(v:Value)(l:List Rw):Prop:=
 ∃oa cap,v= .slice oa l.length cap∧l.length≤cap∧cap≤maxLen∧(l≠ []→∃b o,oa=some ⟨b,o,none⟩∧b<w.heap.size∧∀i r,l[i]? =some r→MH w b (o+i*3) r)
def FB (w:World)(v:Value)(l:List (List Fq)):Prop:=
 ∃oa cap,v= .slice oa l.length cap∧l.length≤cap∧cap≤maxLen∧(l≠ []→∃b o,oa=some ⟨b,o,none⟩∧b<w.heap.size∧∀i r,l[i]? =some r→∃sv,w.cell? ⟨b,o+i,none⟩=some sv∧dh w sv r)
theorem dD.keep {w w':World}{v:Value}{l:List Rw}(h:dD w v l)(k:Keep au w w'):dD w' v l:=by
 obtain⟨oa,cap,h1,h2,h3,h4⟩:=h;refine⟨oa,cap,h1,h2,h3,fun hne=> ?_⟩;obtain⟨b,o,e,hb,hc⟩:=h4 hne;refine⟨b,o,e,dJ hb k.size,fun i r hr=> ?_⟩;obtain⟨sv,c0,c1,c2,hi,h5⟩:=hc i r hr;exact⟨sv,by rw [k.cell hb];exact c0,by rw [k.cell hb];exact c1,by rw [k.cell hb];exact c2,hi.keep k,h5⟩
theorem FB.keep {w w':World}{v:Value}{l:List (List Fq)}(h:FB w v l)(k:Keep au w w'):FB w' v l:=by
 obtain⟨oa,cap,h1,h2,h3,h4⟩:=h;refine⟨oa,cap,h1,h2,h3,fun hne=> ?_⟩;obtain⟨b,o,e,hb,hc⟩:=h4 hne;refine⟨b,o,e,dJ hb k.size,fun i r hr=> ?_⟩;obtain⟨sv,c0,hi⟩:=hc i r hr;exact⟨sv,by rw [k.cell hb];exact c0,hi.keep k⟩
theorem dD.len {w:World}{v:Value}{l:List Rw}(h:dD w v l):∃oa cap,v= .slice oa l.length cap∧l.length≤cap∧cap≤maxLen:=by
 obtain⟨oa,cap,h1,h2,h3,_⟩:=h;exact⟨oa,cap,h1,h2,h3⟩
theorem FB.len {w:World}{v:Value}{l:List (List Fq)}(h:FB w v l):∃oa cap,v= .slice oa l.length cap∧l.length≤cap∧cap≤maxLen:=by
 obtain⟨oa,cap,h1,h2,h3,_⟩:=h;exact⟨oa,cap,h1,h2,h3⟩
theorem dD.at {w:World}{oa:Option Addr}{n cap:Nat}{l:List Rw}(h:dD w (.slice oa n cap) l){k:Nat}(hk:k<l.length):
  ∃b o,oa=some ⟨b,o,none⟩∧b<w.heap.size∧MH w b (o+k*3) l[k]:=by
 obtain⟨XL,cap',hv,_,_,h4⟩:=h;cases hv;obtain⟨b,o,e,hb,hc⟩:=h4 (by rintro rfl;simp at hk);exact⟨b,o,e,hb,hc k l[k] (by simp [hk])⟩
theorem FB.at {w:World}{oa:Option Addr}{n cap:Nat}{l:List (List Fq)}(h:FB w (.slice oa n cap) l){k:Nat}(hk:k<l.length):
  ∃b o sv,oa=some ⟨b,o,none⟩∧b<w.heap.size∧w.cell? ⟨b,o+k,none⟩=some sv∧dh w sv l[k]:=by
 obtain⟨XL,cap',hv,_,_,h4⟩:=h;cases hv;obtain⟨b,o,e,hb,hc⟩:=h4 (by rintro rfl;simp at hk);obtain⟨sv,h1,h2⟩:=hc k l[k] (by simp [hk]);exact⟨b,o,sv,e,hb,h1,h2⟩
theorem MH.row {w:World}{b o:Nat}{r:Rw}(h:MH w b o r):∃os cs,w.cell? ⟨b,o,none⟩=some (.slice os r.of.length cs)∧w.cell? ⟨b,o+1,none⟩=some (.int .i64 r.kind)∧w.cell? ⟨b,o+2,none⟩=some (.int .i64 r.to)∧pE w (.agg #[.slice os r.of.length cs,.int .i64 r.kind,.int .i64 r.to]) r:=by
 obtain⟨sv,c0,c1,c2,hi,h5⟩:=h;obtain⟨os,cs,rfl,_⟩:=hi.len;exact⟨os,cs,c0,c1,c2,_,rfl,hi,h5⟩
section
variable {H:Type} {enc:TypeId × Value→H} {W:World} {base:Nat} {d:DataW H} {p:List MemPlace} {v:Value}
theorem TU {n:Nat}{cs:List Value}{y:DataW H × List MemPlace}(h:DataW.trod enc Tryz.prog W 0 (fun _=>true) true n 40 cs=some y):
  ∃(r:Rw) (sv:Value),cs= [sv,.int .i64 r.kind,.int .i64 r.to]∧aW W sv r.of∧fT r.kind∧fT r.to∧pz sv:=by
 obtain⟨xs,n',_,_,hlen,hxl,hf⟩:=DataW.trod_struct Tryz.underlying40 h;have hc:Tryz.prog.cellsOf 40=3:=kr;have hi:Tryz.prog.cellsOf 3=1:=kr;have hs:Tryz.prog.cellsOf 38=1:=kr;rw [hc]at hlen
 match cs,hlen,xs,hxl with
 | [c0,c1,c2],_,[x0,x1,x2],_=>
  have h0:=hf 0 _ rfl;have h1:=hf 1 _ rfl;have h2:=hf 2 _ rfl;simp [hi,hs]at h0 h1 h2;obtain⟨a,e1,_,wa⟩:=DataW.trod_int Tryz.underlying3 h1;obtain⟨b,e2,_,wb⟩:=DataW.trod_int Tryz.underlying3 h2;simp at e1 e2;subst e1 e2;obtain⟨l,hl,hcap⟩:=Q5 h0;exact⟨⟨l,a,b⟩,c0,rfl,hl,wD wa,wD wb,hcap⟩
theorem Yx (hv:Value.okWide Tryz.prog W .any base 22 v)(h:DataW.Trod enc Tryz.prog W 0 (fun _=>true) true 22 v d p):∃l,dD W v l:=by
 obtain⟨a0,len,cap,rfl⟩:=okWide_slice Tryz.underlying22 hv;obtain⟨fuel,hf⟩:=h;have hc:Tryz.prog.cellsOf 40=3:=kr;rcases open_slice Tryz.underlying22 hf with⟨hcs,_⟩ | ⟨a,len',cap',m,n,D,Pl,hcs,_,hl,hm,hmm,_,hi⟩
 ·simp [Value.cells]at hcs;obtain⟨rfl,rfl,rfl⟩:=hcs;exact⟨[],none,0,rfl,sm,sm,fun h=>absurd rfl h⟩
 simp [Value.cells]at hcs;obtain⟨rfl,rfl,rfl⟩:=hcs;have hmm':m=cap:=by simp at hmm;exact hmm
 subst hmm';have hq:∀i,i<len→∃r:Rw,∃sv,W.cell? (a.add (i*3))=some sv∧W.cell? ((a.add (i*3)).add 1)=some (.int .i64 r.kind)∧W.cell? ((a.add (i*3)).add 2)=some (.int .i64 r.to)∧aW W sv r.of∧fT r.kind∧fT r.to∧pz sv:=by
  intro i hil;obtain⟨cs',h1,h2⟩:=hi i om;obtain⟨r,sv,rfl,hr⟩:=TU h2;rw [hc]at h1;obtain⟨_,_,hat⟩:=World.cells?_some h1;exact⟨r,sv,by simpa [Addr.add]using hat 0 om,hat 1 om,hat 2 om,hr⟩
 obtain⟨f,hf⟩:=choose_lt hq;refine⟨(List.range len).map f,some a,m,sm,by simp;omega,om,fun hne=> ?_⟩;have hp:0<len:=by
  rcases len with _ | n
  ·simp at hne
  omega
 obtain⟨b,off,spot⟩:=a;obtain⟨sv0,h0,_⟩:=hf 0 hp;have hspot:spot=none:=by simpa [Addr.add]using World.cell?_spot h0
 subst hspot;refine⟨b,off,rfl,Iz (s:=none) (by simpa [Addr.add]using h0),fun i g hg=> ?_⟩;obtain⟨hi,rfl⟩:=List.getElem?_eq_some_iff.1 hg;simp at hi;obtain⟨sv,c0,c1,c2,hh⟩:=hf i hi;simp only [add_add,add_plain]at c0 c1 c2;refine⟨sv,by simpa using c0,by simpa using c1,by simpa using c2,by simpa using hh⟩
end
open Go.ChangeShapes Go.WideShapes Go.RowKit
def gW:List Fq→Nat→Int × Int
 | [],_=>(0,0)
 | g::l,i=>if dW g.N g.D then gW l (i+1)else(5,i)
theorem Nf {l:List Fq}{k i:Nat}(hk:k<l.length)(h:dW l[k].N l[k].D):gW (l.drop k) i=gW (l.drop (k+1)) (i+1):=by
 rw [List.drop_eq_getElem_cons hk,gW,if_pos h]
theorem JG {l:List Fq}{k i:Nat}(hk:k<l.length)(h:¬dW l[k].N l[k].D):gW (l.drop k) i=(5,(i:Int)):=by
 rw [List.drop_eq_getElem_cons hk,gW,if_neg h]
theorem JH {l:List Fq}{k i:Nat}(hk:l.length≤k):gW (l.drop k) i=(0,0):=by
 rw [List.drop_eq_nil_of_le hk];rfl
theorem zX:∀ {l:List Fq} {i:Nat},(gW l i).1=0→gW l i=(0,0)∧∀g∈l,dW g.N g.D
 | [],_,_=>⟨rfl,fun _ h=>by cases h⟩
 | g::l,i,h=>by
  unfold gW at h ⊢;by_cases hg:dW g.N g.D
  ·rw [if_pos hg]at h ⊢;obtain⟨h1,h2⟩:=zX h;refine⟨h1,fun x hx=> ?_⟩;rcases List.mem_cons.1 hx with rfl | hx
   ·exact hg
   exact h2 x hx
  rw [if_neg hg]at h;simp at h
def R4 (r:Rw)(nums:List Fq):Int × Int:=if(gG r nums.length).1≠0 then gG r nums.length else gW nums 0
theorem aL.set4 {w:World}{b:Nat}{x y z u:Value}(h:aL w b #[x,y,z,u])(p q r s:Value):aL ((((w.setCell ⟨b,0,none⟩ p).setCell ⟨b,1,none⟩ q).setCell ⟨b,2,none⟩ r).setCell ⟨b,3,none⟩ s) b #[p,q,r,s]:=by
 obtain⟨t,h⟩:=h;exact⟨t,heap_setCell_same 3 s (heap_setCell_same 2 r (heap_setCell_same 1 q (heap_setCell_same 0 p h)))⟩
theorem aL.other4 {w:World}{b b':Nat}{A:Array Value}(h:aL w b A)(hne:b≠b')(p q r s:Value):aL ((((w.setCell ⟨b',0,none⟩ p).setCell ⟨b',1,none⟩ q).setCell ⟨b',2,none⟩ r).setCell ⟨b',3,none⟩ s) b A:=by
 obtain⟨t,h⟩:=h;exact⟨t,by rw [heap_setCell_other _ _ _ _ hne,heap_setCell_other _ _ _ _ hne,heap_setCell_other _ _ _ _ hne,heap_setCell_other _ _ _ _ hne];exact h⟩
theorem Zj:Aq 0 0= .agg #[.bool false,.string ⟨#[]⟩,.bool false,.string ⟨#[]⟩]:=by
 unfold Aq;rw [show dw (0:Int).natAbs= []from jL];rfl
def Fq.q (g:Fq):Rat:=Rat.divInt g.N g.D
def Bl (of:List Int)(nums:List Fq):Nat→Rat
 | 0=>0
 | k+1=>Bl of nums k+(of.getD k 0:Rat)*(nums.getD k ⟨0,0⟩).q
theorem zV {g:Fq}(h:dW g.N g.D):NB 1 g.q:=wR (rO (by have:=h.2.2;omega)) (rO (by have:=h.1;have:=h.2.1;omega)) (by have:=h.1;omega)
theorem O4 {of:List Int}{nums:List Fq}(hf:∀x∈of,bZ x)(hn:∀g∈nums,dW g.N g.D)(hl:of.length≤nums.length):∀k,k≤of.length→NB (3*k+1) (Bl of nums k)
 | 0,_=>jJ
 | k+1,h=>by
  have ih:=O4 hf hn hl k om;have h1:NB 1 ((of.getD k 0:Int):Rat):=jv (by
   have:=hf (of.getD k 0) (by rw [dX,fG om];exact List.getElem_mem _);unfold bZ at this;omega)
  have h2:NB 1 (nums.getD k ⟨0,0⟩).q:=zV (hn _ (by rw [dX,fG om];exact List.getElem_mem _));exact(ih.add (h1.mul h2)).mono om
theorem jG (c:Int):Rat.divInt c 1=(c:Rat):=by
 rw [← Rat.num_divInt_den (c:Rat),Rat.num_intCast,Rat.den_intCast];rfl
theorem O5 (w:World)(sv:Value)(of:List Int)(vn:Value)(nums:List Fq)(hi:aW w sv of)(hn:dh w vn nums)(hf:∀x∈of,bZ x)(hq:∀g∈nums,dW g.N g.D)(hl:of.length≤nums.length)(hl12:of.length≤12):
  Calls Tryz.prog 36 #[sv,vn] w (Yh (Bl of nums of.length) w):=by
 have HN:=zh hn;have HI:=zh hi;obtain⟨os,cs,rfl,_⟩:=hi.len;obtain⟨oa,ca,rfl,hca,hma⟩:=hn.len;unfold maxLen at hma;have HF:=zh hf;have HQ:=zh hq;have zdz:=zh (O4 hf hq hl);clear hi hn hf hq;go_enter Tryz.func36,Tryz.ntmps36;go_wp2_with fail;refine(iE w 0 1 om om om om om).mono ?_;rintro e w1 ⟨b1,hb1,rfl,hk1,hi1⟩;have K1:=zh hk1;have HI1:Hid (eZ w1 b1 0 (Bl of nums 0)):=zh (by rw [jG]at hi1;exact hi1);clear hk1 hi1;go_wp2_with fail;go_loopw [5,6] (fun s t wr=>∃k b:Nat,k≤of.length∧t= .int .i64 k∧s= .pointer (some ⟨b,0,none⟩)∧w.heap.size≤b∧Keep au w wr∧eZ wr b 0 (Bl of nums k)) (fun _ t _=>(of.length-intOf t).toNat)
 case atStart=>exact⟨0,b1,om,rfl,rfl,hb1,K1.out,HI1.out⟩
 obtain⟨k,b,hk,rfl,rfl,hbg,hkr,hs⟩:=hrel;have HBG:=zh hbg;have cK:=zh hkr;have HS:=zh hs;clear hkr hs K1 HI1;by_cases hkl:k<of.length
 ·have hlt:(k:Int)<(of.length:Int):=om;have hltn:(k:Int)<(nums.length:Int):=om;have zbn:k<nums.length:=om;obtain⟨bs,o,cp,hsl,hbs,hc⟩:=(HI.out.keep cK.out).at hkl;simp at hsl;obtain⟨rfl,rfl⟩:=hsl;obtain⟨b',o',rfl,hb',p0,p1⟩:=(HN.out.keep cK.out).at zbn;have hqk:=HQ.out _ (List.getElem_mem zbn);have hfk:=HF.out _ (List.getElem_mem hkl);have DY:=zh ((zdz.out k om).mono (k:=2000) om);have HST:Hid (Bl of nums (k+1)=Bl of nums k+Rat.divInt (nums[k]).N (nums[k]).D*Rat.divInt of[k] 1):=zh (by
   rw [jG,Rat.mul_comm];simp only [Bl,dX,fG hkl,fG zbn,Option.getD_some,Fq.q])
  have hng:=zV (g:=nums[k]) hqk;unfold Fq.q at hng;generalize nums[k].N=gn at *;generalize nums[k].D=gd at *;generalize of[k]=c at *;have hnc:=jv (x:=c) (by unfold bZ at hfk;omega);rw [← jG]at hnc;have HNG:=zh (hng.mono (k:=2000) om);have XZ:=zh (hnc.mono (k:=2000) om);have Qn:=zh ((hng.mul hnc).mono (k:=2000) om);obtain⟨d1,d2,d3,d4,_⟩:=hqk;unfold bZ at hfk;clear hng hnc;go_wp2;refine jB (fun w'=>Keep au wr w') (.two [1,2,3,4,6,7,8,9] 0 (.one [] 5 (.one [] 10 (.one [] 11 (.fin [12])))) 5 (.two [] 0 (.one [] 10 (.one [] 11 (.fin [12]))) 10 (.one [] 0 (.one [] 11 (.fin [12]))))) kr kr kp ?_;intro X W hne hF hcl;have aQ:=zh hcl;have hx1:=fun x=>((hF x).cell hb').trans p0;have hx2:=fun x=>((hF x).cell hb').trans p1;have hx3:=fun x=>((hF x).cell hbs).trans hc;clear hF hcl;simp only [mQ,aJ,zl0,zl1,zl2,aR,Bool.false_eq_true,if_false]
  (repeat(quiet_step (fail)));refine wpQuiet_nil ?_
  refine⟨?_,?_⟩
  ·refine ay rfl rfl fun K hK=> ?_;go_simp;have k1:Keep au wr ((wr.alloc (.cells bK 130)).drew):=kp;refine hK _ _ ⟨aQ.out _ k1,?_⟩;have HH:Hid (iK ((wr.alloc (.cells bK 130)).drew) wr.heap.size 0):=zh ((gT wr).ofNewer (Keep.refl au _).drew);have K1:=zh k1;clear hK K k1;obtain⟨bA,FJ⟩:∃b,b=wr.heap.size:=⟨_,rfl⟩;have HGA:Hid (wr.heap.size≤bA):=zh (by rw [FJ];exact Nat.le_refl _);rw [← FJ]at HH ⊢;clear FJ;generalize (wr.alloc (.cells bK 130)).drew=v1 at*
   (repeat(quiet_step (fail)));refine wpQuiet_nil ?_
   refine ay rfl rfl fun K hK=> ?_;go_simp;refine(pJ gn gd _ om om om om om).mono ?_;rintro e v2 ⟨b1,hb1,rfl,hk,hi⟩;have K2:=zh ((show Keep au wr _ from K1.out).both hk);have HI1:=zh hi;have HH:=zh (HH.out.ofNewer hk);refine hK _ _ ⟨aQ.out _ K2.out,?_⟩;clear hK K hk hi hb1
   (repeat(quiet_step (fail)));refine wpQuiet_nil ?_
   refine ay rfl rfl fun K hK=> ?_;go_simp;refine(iE _ c 1 om om om om om).mono ?_;rintro e v3 ⟨b2,hb2,rfl,hk,hi⟩;have K3:=zh ((show Keep au wr _ from K2.out).both hk);have HI2:=zh hi;have HH:=zh (HH.out.ofNewer hk);have HI1:=zh (HI1.out.ofNewer hk);refine hK _ _ ⟨aQ.out _ K3.out,?_⟩;clear hK K hk hi hb2
   (repeat(quiet_step (fail)));refine wpQuiet_nil ?_
   refine ay rfl rfl fun K hK=> ?_;go_simp;refine(rZ v3 bA 0 b1 0 b2 0 _ _ HH.out HI1.out HI2.out HNG.out XZ.out).mono ?_;rintro e v4 ⟨rfl,hk,hi⟩;have K4:=zh (K3.out.trans hk fun n o hn h=>by rcases h with h | h<;>(have:=h.1;have:=HGA.out;omega));have HM:=zh hi;refine hK _ _ ⟨aQ.out _ K4.out,?_⟩;clear hK K hk hi
   (repeat(quiet_step (fail)));refine wpQuiet_nil ?_
   refine NoPanic.normal ?_;go_wp2_with fail;refine(su (v4.alloc (.cells bK 130)) v4.heap.size 0 b 0 bA 0 _ _ (gT v4) ((HS.out.ofNewer K4.out).ofNewer ((Keep.refl au v4).alloc _)) (HM.out.ofNewer ((Keep.refl au v4).alloc _)) DY.out Qn.out).mono ?_;rintro e w9 ⟨rfl,hk9,hi9⟩;have K9:Hid (Keep au wr w9):=zh ((K4.out.alloc _).newerR hk9 K4.out.size);have XK:=zh hi9;clear hk9 hi9;go_wp2;go_roundw
   case rel=>exact⟨k+1,_,om,by go_num,rfl,Nat.le_trans cK.out.size K4.out.size,cK.out.both K9.out,by rw [HST.out];exact XK.out⟩
   simp [intOf];omega
  refine ay rfl rfl fun K hK=> ?_;go_simp;refine(pJ gn gd _ om om om om om).mono ?_;rintro e v1 ⟨b1,hb1,rfl,hk,hi⟩;have K1:=zh ((show Keep au wr _ from kp).both hk);have HI1:=zh hi;refine hK _ _ ⟨aQ.out _ K1.out,?_⟩;clear hK K hk hi hb1
  (repeat(quiet_step (fail)));refine wpQuiet_nil ?_
  refine⟨?_,?_⟩
  ·refine ay rfl rfl fun K hK=> ?_;go_simp;have k2:Keep au wr (v1.alloc (.cells bK 130)):=K1.out.alloc _;refine hK _ _ ⟨aQ.out _ k2,?_⟩;have HH:Hid (iK (v1.alloc (.cells bK 130)) v1.heap.size 0):=zh (gT v1);have K2:=zh k2;have HI1:=zh (HI1.out.ofNewer ((Keep.refl au v1).alloc (.cells bK 130)));clear hK K k2;obtain⟨bA,FJ⟩:∃b,b=v1.heap.size:=⟨_,rfl⟩;have HGA:Hid (wr.heap.size≤bA):=zh (by rw [FJ];exact K1.out.size);rw [← FJ]at HH ⊢;clear FJ;generalize v1.alloc (.cells bK 130)=v2 at*
   (repeat(quiet_step (fail)));refine wpQuiet_nil ?_
   refine ay rfl rfl fun K hK=> ?_;go_simp;refine(iE _ c 1 om om om om om).mono ?_;rintro e v3 ⟨b2,hb2,rfl,hk,hi⟩;have K3:=zh ((show Keep au wr _ from K2.out).both hk);have HI2:=zh hi;have HH:=zh (HH.out.ofNewer hk);have HI1:=zh (HI1.out.ofNewer hk);refine hK _ _ ⟨aQ.out _ K3.out,?_⟩;clear hK K hk hi hb2
   (repeat(quiet_step (fail)));refine wpQuiet_nil ?_
   refine ay rfl rfl fun K hK=> ?_;go_simp;refine(rZ v3 bA 0 b1 0 b2 0 _ _ HH.out HI1.out HI2.out HNG.out XZ.out).mono ?_;rintro e v4 ⟨rfl,hk,hi⟩;have K4:=zh (K3.out.trans hk fun n o hn h=>by rcases h with h | h<;>(have:=h.1;have:=HGA.out;omega));have HM:=zh hi;refine hK _ _ ⟨aQ.out _ K4.out,?_⟩;clear hK K hk hi
   (repeat(quiet_step (fail)));refine wpQuiet_nil ?_
   refine NoPanic.normal ?_;go_wp2_with fail;refine(su (v4.alloc (.cells bK 130)) v4.heap.size 0 b 0 bA 0 _ _ (gT v4) ((HS.out.ofNewer K4.out).ofNewer ((Keep.refl au v4).alloc _)) (HM.out.ofNewer ((Keep.refl au v4).alloc _)) DY.out Qn.out).mono ?_;rintro e w9 ⟨rfl,hk9,hi9⟩;have K9:Hid (Keep au wr w9):=zh ((K4.out.alloc _).newerR hk9 K4.out.size);have XK:=zh hi9;clear hk9 hi9;go_wp2;go_roundw
   case rel=>exact⟨k+1,_,om,by go_num,rfl,Nat.le_trans cK.out.size K4.out.size,cK.out.both K9.out,by rw [HST.out];exact XK.out⟩
   simp [intOf];omega
  refine ay rfl rfl fun K hK=> ?_;go_simp;refine(iE _ c 1 om om om om om).mono ?_;rintro e v2 ⟨b2,hb2,rfl,hk,hi⟩;have K2:=zh ((show Keep au wr _ from K1.out).both hk);have HI2:=zh hi;have HI1:=zh (HI1.out.ofNewer hk);refine hK _ _ ⟨aQ.out _ K2.out,?_⟩;clear hK K hk hi hb2
  (repeat(quiet_step (fail)));refine wpQuiet_nil ?_
  refine ay rfl rfl fun K hK=> ?_;go_simp;have k3:Keep au wr (v2.alloc (.cells bK 130)):=K2.out.alloc _;refine hK _ _ ⟨aQ.out _ k3,?_⟩;have HH:Hid (iK (v2.alloc (.cells bK 130)) v2.heap.size 0):=zh (gT v2);have K3:=zh k3;have HI1:=zh (HI1.out.ofNewer ((Keep.refl au v2).alloc (.cells bK 130)));have HI2:=zh (HI2.out.ofNewer ((Keep.refl au v2).alloc (.cells bK 130)));clear hK K k3;obtain⟨bA,FJ⟩:∃b,b=v2.heap.size:=⟨_,rfl⟩;have HGA:Hid (wr.heap.size≤bA):=zh (by rw [FJ];exact K2.out.size);rw [← FJ]at HH ⊢;clear FJ;generalize v2.alloc (.cells bK 130)=v3 at*
  (repeat(quiet_step (fail)));refine wpQuiet_nil ?_
  refine ay rfl rfl fun K hK=> ?_;go_simp;refine(rZ v3 bA 0 b1 0 b2 0 _ _ HH.out HI1.out HI2.out HNG.out XZ.out).mono ?_;rintro e v4 ⟨rfl,hk,hi⟩;have K4:=zh (K3.out.trans hk fun n o hn h=>by rcases h with h | h<;>(have:=h.1;have:=HGA.out;omega));have HM:=zh hi;refine hK _ _ ⟨aQ.out _ K4.out,?_⟩;clear hK K hk hi
  (repeat(quiet_step (fail)));refine wpQuiet_nil ?_
  refine NoPanic.normal ?_;go_wp2_with fail;refine(su (v4.alloc (.cells bK 130)) v4.heap.size 0 b 0 bA 0 _ _ (gT v4) ((HS.out.ofNewer K4.out).ofNewer ((Keep.refl au v4).alloc _)) (HM.out.ofNewer ((Keep.refl au v4).alloc _)) DY.out Qn.out).mono ?_;rintro e w9 ⟨rfl,hk9,hi9⟩;have K9:Hid (Keep au wr w9):=zh ((K4.out.alloc _).newerR hk9 K4.out.size);have XK:=zh hi9;clear hk9 hi9;go_wp2;go_roundw
  case rel=>exact⟨k+1,_,om,by go_num,rfl,Nat.le_trans cK.out.size K4.out.size,cK.out.both K9.out,by rw [HST.out];exact XK.out⟩
  simp [intOf];omega
 have hlt:¬(k:Int)<(of.length:Int):=om;obtain rfl:k=of.length:=om;go_wp2;go_returns;have hb:=HS.out;exact⟨b,HBG.out,rfl,cK.out,HS.out⟩
theorem zY:∀ {l:List Int} {i:Nat},(bI l i).1=0→bI l i=(0,0)∧∀x∈l,bZ x
 | [],_,_=>⟨rfl,fun _ h=>by cases h⟩
 | x::l,i,h=>by
  unfold bI at h ⊢;by_cases hx:bZ x
  ·rw [if_pos hx]at h ⊢;obtain⟨h1,h2⟩:=zY h;refine⟨h1,fun y hy=> ?_⟩;rcases List.mem_cons.1 hy with rfl | hy
   ·exact hx
   exact h2 y hy
  rw [if_neg hx]at h;simp at h
structure eD (r:Rw)(n:Int):Prop where
 n0:0≤n
 n12:n≤12
 kind:r.kind=1∨r.kind=2∨r.kind=3
 len:(r.of.length:Int)≤n
 fit:∀x∈r.of,bZ x
 fto:bZ r.to
theorem Bc {r:Rw}{n:Int}(h:(gG r n).1=0):gG r n=(0,0)∧eD r n:=by
 unfold gG at h ⊢;by_cases h1:n<0∨12<n
 ·rw [if_pos h1]at h;simp at h
 rw [if_neg h1]at h ⊢;by_cases h2:r.kind=1∨r.kind=2∨r.kind=3
 ·rw [if_neg (not_not_intro h2)]at h ⊢;by_cases h3:n<r.of.length
  ·rw [if_pos h3]at h;simp at h
  rw [if_neg h3]at h ⊢;obtain⟨h4,h5⟩:=zY h;exact⟨h4,om,om,h2,om,fun x hx=>h5 x (by simp [hx]),h5 _ sm⟩
 rw [if_pos h2]at h;simp at h
theorem zbd {r:Rw}{nums:List Fq}(h:(R4 r nums).1=0):R4 r nums=(0,0)∧eD r nums.length∧∀g∈nums,dW g.N g.D:=by
 unfold R4 at h ⊢;by_cases h1:(gG r nums.length).1=0
 ·rw [if_neg (not_not_intro h1)]at h ⊢;obtain⟨h2,h3⟩:=zX h;exact⟨h2,(Bc h1).2,h3⟩
 rw [if_pos h1]at h;exact absurd h h1
def lH (kind c:Int):Bool:=if kind=1 then decide (c≤0)else if kind=2 then decide (c<0)else decide (c=0)
def vX (r:Rw)(nums:List Fq):Bool:=lH r.kind (Bl r.of nums r.of.length-(r.to:Rat)).num.sign
theorem holds1 {c:Int}:lH 1 c=decide (c≤0):=by unfold lH;rw [if_pos rfl]
theorem holds2 {c:Int}:lH 2 c=decide (c<0):=by unfold lH;rw [if_neg om,if_pos rfl]
theorem holds3 {c:Int}:lH 3 c=decide (c=0):=by unfold lH;rw [if_neg om,if_neg om]
theorem Jt (w:World)(v:Value)(r:Rw)(vn:Value)(nums:List Fq)(h:pE w v r)(hn:dh w vn nums):
  Calls Tryz.prog 22 #[v,vn] w fun e w'=>e= .returned (fV (R4 r nums))∧Keep au w w':=by
 have CH:=fun w' (k:Keep au w w')=>zh (Ew w' v r nums.length (h.keep k));have HN:=zh hn;obtain⟨sv,rfl,hi,_⟩:=h;obtain⟨os,cs,rfl,_⟩:=hi.len;obtain⟨oa,ca,rfl,hca,hma⟩:=hn.len;unfold maxLen at hma;have HP:Hid ((gG r nums.length).1≠0∧R4 r nums=gG r nums.length∨gG r nums.length=(0,0)∧R4 r nums=gW (nums.drop 0) 0):=zh (by
  unfold R4;by_cases hc:(gG r nums.length).1=0
  ·right;rw [if_neg (not_not_intro hc)];exact⟨(Bc hc).1,rfl⟩
  left;rw [if_pos hc];exact⟨hc,rfl⟩)
 obtain⟨pf,hpf⟩:∃p,R4 r nums=p:=⟨_,rfl⟩;rw [hpf]at HP ⊢;have HPF:=zh hpf;clear hpf;obtain⟨c,hcc⟩:∃c,gG r nums.length=c:=⟨_,rfl⟩;rw [hcc]at HP CH;clear hcc;obtain⟨c1,c2⟩:=c;unfold fV at CH ⊢;simp only at CH HP;clear hi hn;go_enter Tryz.func22,Tryz.ntmps22;go_wp2_with fail;refine(CH _ kp).out.mono ?_;rintro e w1 ⟨rfl,hk1⟩;have B4:aL w1 (w.heap.size+1) #[.int .i64 0,.int .i64 0]:=aL.keep kb hk1;have K1:Hid (Keep au w w1):=zh (Keep.both kp hk1);have fH:=zh (B4.old (.cells #[.int .i64 c1,.int .i64 c2] 28));have Cx:Hid (w.heap.size≤w.heap.size+1):=zh om;have HS5:Hid (w.heap.size≤w1.heap.size):=zh K1.out.size;have fM:Hid (aL (w1.alloc (.cells #[.int .i64 c1,.int .i64 c2] 28)) w1.heap.size #[.int .i64 c1,.int .i64 c2]):=zh (aP _ _ rfl);have h45:w.heap.size+1≠w1.heap.size:=by have:=B4.lt;omega
 have qz:Hid (Keep au w (w1.alloc (.cells #[.int .i64 c1,.int .i64 c2] 28))):=zh (K1.out.alloc _);clear hk1 CH B4 K1;go_wp2_with fail;generalize w1.alloc (.cells #[.int .i64 c1,.int .i64 c2] 28)=w2 at *;generalize w1.heap.size=b5 at *;generalize w.heap.size+1=b4 at *;go_loopw [6] (fun s wr=>∃k:Nat,∃f1 f2:Int,k≤nums.length∧s= .int .i64 k∧Keep au w wr∧aL wr b4 #[.int .i64 0,.int .i64 0]∧aL wr b5 #[.int .i64 f1,.int .i64 f2]∧(f1≠0∧pf=(f1,f2)∨(f1,f2)=(0,0)∧pf=gW (nums.drop k) k)) (fun s _=>(nums.length-intOf s).toNat)
 case atStart=>exact⟨0,c1,c2,om,rfl,qz.out,fH.out,fM.out,HP.out⟩
 obtain⟨k,f1,f2,hk,rfl,hkr,hb4,hb5,hp⟩:=hrel;have cK:=zh hkr;have fH:=zh hb4;have fM:=zh hb5;clear hkr hb4 hb5 qz HP;have hfin:∀(g1 g2:Int) (wx:World),pf=(g1,g2)→wx=wr→True:=fun _ _ _ _ _=>trivial;clear hfin;by_cases hend:k<nums.length∧f1=0
 ·obtain ⟨hkl,rfl⟩:=hend;rcases hp with⟨h0,_⟩ | ⟨hf,hp⟩
  ·exact absurd rfl h0
  have HPK:=zh hp;obtain rfl:f2=0:=congrArg Prod.snd hf;clear hf hp;have hlt:(k:Int)<(nums.length:Int):=om;obtain⟨b,o,rfl,hbl,p0,p1⟩:=(HN.out.keep cK.out).at hkl;obtain⟨s0,s1,t0,t1,sl⟩:=fM.out.two;have jV:=zh (fun h=>Nf (i:=k) hkl h);have jR:=zh (fun h=>JG (i:=k) hkl h);generalize nums[k].N=gn at *;generalize nums[k].D=gd at*;by_cases hx:dW gn gd
  ·have CC:=fun w=>zh (sO gn gd w);rw [decide_eq_true hx]at CC;have mM:=zh (HPK.out.trans (jV.out hx));clear hx jV jR HPK;go_wp2_with fail;refine(CC _).out.mono ?_;rintro e w4 ⟨rfl,hk4⟩;have fH:=zh (fH.out.keep hk4);have fM:=zh (fM.out.keep hk4);have K4:=zh (cK.out.both hk4);clear hk4 p0 p1 CC s0 s1 t0 t1 sl;go_wp2;go_roundw
   case rel=>exact⟨k+1,0,0,om,by go_num,K4.out,fH.out,fM.out,.inr ⟨rfl,mM.out⟩⟩
   simp [intOf];omega
  have CC:=fun w=>zh (sO gn gd w);rw [decide_eq_false hx]at CC;have mM:=zh (HPK.out.trans (jR.out hx));clear hx jV jR HPK;go_wp2_with fail;refine(CC _).out.mono ?_;rintro e w4 ⟨rfl,hk4⟩;have fH:=zh (fH.out.keep hk4);have fM:=zh (fM.out.keep hk4);have K4:=zh (cK.out.both hk4);clear hk4 p0 p1 CC s0 s1 t0 t1 sl;go_wp2_with fail;refine(gN 5 k w4).mono ?_;rintro e w5 ⟨rfl,hk5⟩;have fH:=zh (fH.out.keep hk5);have fM:=zh (fM.out.keep hk5);have K5:=zh (K4.out.both hk5);clear hk5;obtain⟨s0,s1,t0,t1,sl⟩:=fM.out.two;unfold fV;go_wp2;go_roundw
  case rel=>exact⟨k+1,5,k,om,by go_num,aV K5.out HS5.out _ _,fH.out.other2 h45 _ _,fM.out.set2 _ _,.inl ⟨om,mM.out⟩⟩
  simp [intOf];omega
 have hpf2:pf=(f1,f2):=by
  rcases hp with⟨_,h⟩ | ⟨hf,h⟩
  ·exact h
  have h1:f1=0:=congrArg Prod.fst hf;rw [h,hf];exact JH om
 have HPE:=zh hpf2;clear hp hpf2;obtain⟨s0,s1,t0,t1,sl⟩:=fM.out.two;obtain⟨r0,r1,q0,q1,rl⟩:=fH.out.two;by_cases hkl:k<nums.length
 ·have hlt:(k:Int)<(nums.length:Int):=om;have e1:(f1==0)=false:=by rw [beq_eq_false_iff_ne];intro h;exact hend ⟨hkl,h⟩
  go_wp2;refine bodyPost_ret (by simp [results,Tryz.results22,go_sem,r0,r1,rl];rfl) rfl ?_;exact⟨by rw [HPE.out],aV cK.out Cx.out _ _⟩
 have hlt:¬(k:Int)<(nums.length:Int):=om;go_wp2;refine bodyPost_ret (by simp [results,Tryz.results22,go_sem,r0,r1,rl];rfl) rfl ?_;exact⟨by rw [HPE.out],aV cK.out Cx.out _ _⟩
theorem Ju (w:World)(v:Value)(r:Rw)(vn:Value)(nums:List Fq)(h:pE w v r)(hn:dh w vn nums)(hok:eD r nums.length)(hq:∀g∈nums,dW g.N g.D):
  Calls Tryz.prog 23 #[v,vn] w fun e w'=>e= .returned (.bool (vX r nums))∧Keep au w w':=by
 have hl:=hok.len;have hn12:=hok.n12;have hb:=O4 hok.fit hq om r.of.length (Nat.le_refl _);have hkd:=hok.kind;have hto:=hok.fto;unfold bZ at hto;unfold vX;obtain⟨sv,rfl,hi,_⟩:=h;have CS:=fun w' (k:Keep au w w')=>zh (O5 w' sv r.of vn nums (hi.keep k) (hn.keep k) hok.fit hq om om);obtain⟨os,cs,rfl,_⟩:=hi.len;obtain⟨oa,ca,rfl,_,_⟩:=hn.len;obtain⟨of,kind,tt⟩:=r;simp only at *;generalize Bl of nums of.length=s at *;have CI:=fun w=>zh (iE w tt 1 om om om om om);rw [jG]at CI;have nto:=(jv (x:=tt) om).mono (k:=2000) om;have DY:=zh (hb.mono (k:=2000) om);have CC:=fun w b1 b2 (h1:eZ w b1 0 s) (h2:eZ w b2 0 (tt:Rat))=>zh (XE w b1 0 b2 0 s (tt:Rat) h1 h2 DY.out nto);generalize (s-(tt:Rat)).num.sign=sg at *;clear hb hok hq hl hn12 hi hn hto nto;go_enter Tryz.func23,Tryz.ntmps23;go_wp2;have B2:aL (w.alloc (.cells #[.slice os of.length cs,.int .i64 kind,.int .i64 tt] 40)) w.heap.size #[.slice os of.length cs,.int .i64 kind,.int .i64 tt]:=kc;have qz:Hid (Keep au w (w.alloc (.cells #[.slice os of.length cs,.int .i64 kind,.int .i64 tt] 40))):=zh kp;have HB2:=zh B2;clear B2;generalize w.alloc (.cells #[.slice os of.length cs,.int .i64 kind,.int .i64 tt] 40)=w0 at *;refine aD (fun w'=>Keep au w0 w') [] [([0,1,2,4,5],3),([],6),([],7)] [8] kr kr kp ?_;intro X W hne hF hcl;have aQ:=zh hcl;have hx0:=fun x=>(HB2.out.keep (hF x)).three;clear hF hcl;simp only [aO,aJ,zl0,zl1,zl2,aR,Bool.false_eq_true,if_false]
 (repeat(quiet_step (fail)));refine wpQuiet_nil ?_
 refine ay rfl rfl fun K hK=> ?_;go_simp;refine(CS _ (qz.out.both kp)).out.mono ?_;rintro e w2 ⟨b1,hb1,rfl,hk2,hi2⟩;have k2:Keep au w0 w2:=Keep.trans kp hk2 fun _ _ _ h=>h;refine hK _ _ ⟨fun _=>aQ.out _ k2,?_⟩;clear hK K hk2 hb1
 (repeat(quiet_step (fail)));refine wpQuiet_nil ?_
 refine ay rfl rfl fun K hK=> ?_;go_simp;refine(CI _).out.mono ?_;rintro e w3 ⟨b2,hb2,rfl,hk3,hi3⟩;have k3:=k2.both hk3;refine hK _ _ ⟨fun _=>aQ.out _ k3,?_⟩;have hi2:=hi2.ofNewer hk3;clear hK K hk3 hb2
 (repeat(quiet_step (fail)));refine wpQuiet_nil ?_
 refine ay rfl rfl fun K hK=> ?_;go_simp;refine(CC _ b1 b2 hi2 hi3).out.mono ?_;rintro e w4 ⟨rfl,hk4⟩;have k4:=k3.both hk4;refine hK _ _ ⟨fun _=>aQ.out _ k4,?_⟩;have HB2:=zh (HB2.out.keep k4);have K4:=zh (qz.out.both k4);clear hK K hk4 k2 k3 k4 hi2 hi3 hx0 CS CI CC DY qz
 (repeat(quiet_step (fail)));refine wpQuiet_nil ?_
 refine NoPanic.normal ?_;obtain⟨p0,p1,p2,_,_,_,pl⟩:=HB2.out.three;by_cases h1:sg<0
 ·have e1:decide (sg<0)=true:=decide_eq_true h1;have h2:¬sg=0:=om;have h3:sg≤0:=om;rcases hkd with rfl | rfl | rfl
  ·have HV:Hid (lH 1 sg=true):=zh (by rw [holds1];exact decide_eq_true h3);go_wp2;go_ret;exact⟨by rw [HV.out];rfl,K4.out⟩
  ·have HV:Hid (lH 2 sg=true):=zh (by rw [holds2];exact decide_eq_true h1);go_wp2;go_ret;exact⟨by rw [HV.out];rfl,K4.out⟩
  have e2:(sg==0)=false:=by rw [beq_eq_false_iff_ne];exact h2
  have HV:Hid (lH 3 sg=false):=zh (by rw [holds3];exact decide_eq_false h2);go_wp2;go_ret;exact⟨by rw [HV.out];rfl,K4.out⟩
 have e1:decide (sg<0)=false:=decide_eq_false h1;by_cases h2:sg=0
 ·subst h2;rcases hkd with rfl | rfl | rfl
  ·go_wp2;go_ret;exact⟨rfl,K4.out⟩
  ·go_wp2;go_ret;exact⟨rfl,K4.out⟩
  go_wp2;go_ret;exact⟨rfl,K4.out⟩
 have e2:(sg==0)=false:=by rw [beq_eq_false_iff_ne];exact h2
 have h3:¬sg≤0:=om;rcases hkd with rfl | rfl | rfl
 ·have HV:Hid (lH 1 sg=false):=zh (by rw [holds1];exact decide_eq_false h3);go_wp2;go_ret;exact⟨by rw [HV.out];rfl,K4.out⟩
 ·have HV:Hid (lH 2 sg=false):=zh (by rw [holds2];exact decide_eq_false h1);go_wp2;go_ret;exact⟨by rw [HV.out];rfl,K4.out⟩
 have HV:Hid (lH 3 sg=false):=zh (by rw [holds3];exact decide_eq_false h2);go_wp2;go_ret;exact⟨by rw [HV.out];rfl,K4.out⟩
end Go.Proofs.YtaiffmebphhdaaaGreat
