/- What the walks are told of arguments that are slices of fractions. What the walks are told of arguments that are lists of rows, tables of fractions. Package row's check of a row and a point. Package row's sum of a row at a point. The reference's sum of a row at a point. Package row's Value and Holds. Package row's Holds. The reference's RowPoint and RowHolds. -/
import Derived.Test.YtaiffmebphhdaaaGreatBaseB
import Derived.Test.YtaiffmebphhdaaaGreatBaseA
import Derived.Test.YtaiffmebphhdaaaGreatRowAA
import Derived.Test.YtaiffmebphhdaaaGreatExAA
namespace Go.Proofs.YtaiffmebphhdaaaGreat
set_option maxRecDepth 100000
set_option maxHeartbeats 8000000
set_option linter.unusedSimpArgs false
set_option linter.unusedVariables false
open Go.ChangeShapes Go.WideShapes Go.ChangeAt Go.RowKit Go.Joins Go.Deep
structure Fq where
 N:Int
 D:Int
instance :Inhabited Fq:=⟨⟨0,0⟩⟩
def eT (w:World)(v:Value)(l:List Fq):Prop:=
 ∃oa cap,v= .slice oa l.length cap∧l.length≤cap∧cap≤maxLen∧(∀g∈l,fK g.N∧fK g.D)∧(l≠ []→∃b o,oa=some ⟨b,o,none⟩∧b<w.heap.size∧
  ∀i g,l[i]? =some g→w.cell? ⟨b,o+i*2,none⟩=some (.int .i64 g.N)∧w.cell? ⟨b,o+i*2+1,none⟩=some (.int .i64 g.D))
theorem eT.keep {w w':World}{v:Value}{l:List Fq}(h:eT w v l)(k:Keep au w w'):eT w' v l:=by
 obtain⟨oa,cap,h1,h2,h2',h3,h4⟩:=h;refine⟨oa,cap,h1,h2,h2',h3,fun hne=> ?_⟩
 obtain⟨b,o,e,hb,hc⟩:=h4 hne;exact⟨b,o,e,dY hb k.size,fun i g hg=>by simp only [k.cell hb];exact hc i g hg⟩
theorem eT.len {w:World}{v:Value}{l:List Fq}(h:eT w v l):∃oa cap,v= .slice oa l.length cap∧l.length≤cap∧cap≤maxLen:=by
 obtain⟨oa,cap,h1,h2,h2',_⟩:=h;exact⟨oa,cap,h1,h2,h2'⟩
theorem eT.all {w:World}{v:Value}{l:List Fq}(h:eT w v l):∀g∈l,fK g.N∧fK g.D:=by obtain⟨_,_,_,_,_,h,_⟩:=h;exact h
theorem eT.at {w:World}{oa:Option Addr}{n cap:Nat}{l:List Fq}(h:eT w (.slice oa n cap) l){k:Nat}(hk:k<l.length):
  ∃b o,oa=some ⟨b,o,none⟩∧b<w.heap.size∧w.cell? ⟨b,o+k*2,none⟩=some (.int .i64 l[k].N)∧w.cell? ⟨b,o+k*2+1,none⟩=some (.int .i64 l[k].D):=by
 obtain⟨WS,cap',hv,_,_,_,h4⟩:=h
 cases hv
 obtain⟨b,o,e,hb,hc⟩:=h4 (by rintro rfl;simp at hk)
 obtain⟨h1,h2⟩:=hc k l[k] (by simp [hk])
 exact⟨b,o,e,hb,h1,h2⟩
section
variable {H:Type} {enc:TypeId × Value→H} {W:World} {base:Nat} {d:DataW H} {p:List MemPlace} {v:Value}
end
instance :Inhabited Rw:=⟨⟨[],0,0⟩⟩
def Lg (w:World)(b o:Nat)(r:Rw):Prop:=∃sv,w.cell? ⟨b,o,none⟩=some sv∧w.cell? ⟨b,o+1,none⟩=some (.int .i64 r.kind)∧w.cell? ⟨b,o+2,none⟩=some (.int .i64 r.to)∧bC w sv r.of∧fK r.kind∧fK r.to∧pz sv
def bW (w:World)(v:Value)(l:List Rw):Prop:=
 ∃oa cap,v= .slice oa l.length cap∧l.length≤cap∧cap≤maxLen∧(l≠ []→∃b o,oa=some ⟨b,o,none⟩∧b<w.heap.size∧∀i r,l[i]? =some r→Lg w b (o+i*3) r)
def Fx (w:World)(v:Value)(l:List (List Fq)):Prop:=
 ∃oa cap,v= .slice oa l.length cap∧l.length≤cap∧cap≤maxLen∧(l≠ []→∃b o,oa=some ⟨b,o,none⟩∧b<w.heap.size∧∀i r,l[i]? =some r→∃sv,w.cell? ⟨b,o+i,none⟩=some sv∧eT w sv r)
theorem bW.keep {w w':World}{v:Value}{l:List Rw}(h:bW w v l)(k:Keep au w w'):bW w' v l:=by
 obtain⟨oa,cap,h1,h2,h3,h4⟩:=h;refine⟨oa,cap,h1,h2,h3,fun hne=> ?_⟩
 obtain⟨b,o,e,hb,hc⟩:=h4 hne;refine⟨b,o,e,dY hb k.size,fun i r hr=> ?_⟩
 obtain⟨sv,c0,c1,c2,hi,h5⟩:=hc i r hr;exact⟨sv,by rw [k.cell hb];exact c0,by rw [k.cell hb];exact c1,by rw [k.cell hb];exact c2,hi.keep k,h5⟩
theorem Fx.keep {w w':World}{v:Value}{l:List (List Fq)}(h:Fx w v l)(k:Keep au w w'):Fx w' v l:=by
 obtain⟨oa,cap,h1,h2,h3,h4⟩:=h;refine⟨oa,cap,h1,h2,h3,fun hne=> ?_⟩
 obtain⟨b,o,e,hb,hc⟩:=h4 hne;refine⟨b,o,e,dY hb k.size,fun i r hr=> ?_⟩
 obtain⟨sv,c0,hi⟩:=hc i r hr;exact⟨sv,by rw [k.cell hb];exact c0,hi.keep k⟩
theorem bW.len {w:World}{v:Value}{l:List Rw}(h:bW w v l):∃oa cap,v= .slice oa l.length cap∧l.length≤cap∧cap≤maxLen:=by
 obtain⟨oa,cap,h1,h2,h3,_⟩:=h;exact⟨oa,cap,h1,h2,h3⟩
theorem Fx.len {w:World}{v:Value}{l:List (List Fq)}(h:Fx w v l):∃oa cap,v= .slice oa l.length cap∧l.length≤cap∧cap≤maxLen:=by
 obtain⟨oa,cap,h1,h2,h3,_⟩:=h;exact⟨oa,cap,h1,h2,h3⟩
theorem bW.at {w:World}{oa:Option Addr}{n cap:Nat}{l:List Rw}(h:bW w (.slice oa n cap) l){k:Nat}(hk:k<l.length):
  ∃b o,oa=some ⟨b,o,none⟩∧b<w.heap.size∧Lg w b (o+k*3) l[k]:=by
 obtain⟨WS,cap',hv,_,_,h4⟩:=h
 cases hv
 obtain⟨b,o,e,hb,hc⟩:=h4 (by rintro rfl;simp at hk)
 exact⟨b,o,e,hb,hc k l[k] (by simp [hk])⟩
theorem Fx.at {w:World}{oa:Option Addr}{n cap:Nat}{l:List (List Fq)}(h:Fx w (.slice oa n cap) l){k:Nat}(hk:k<l.length):
  ∃b o sv,oa=some ⟨b,o,none⟩∧b<w.heap.size∧w.cell? ⟨b,o+k,none⟩=some sv∧eT w sv l[k]:=by
 obtain⟨WS,cap',hv,_,_,h4⟩:=h
 cases hv
 obtain⟨b,o,e,hb,hc⟩:=h4 (by rintro rfl;simp at hk)
 obtain⟨sv,h1,h2⟩:=hc k l[k] (by simp [hk])
 exact⟨b,o,sv,e,hb,h1,h2⟩
theorem Lg.row {w:World}{b o:Nat}{r:Rw}(h:Lg w b o r):∃os cs,w.cell? ⟨b,o,none⟩=some (.slice os r.of.length cs)∧w.cell? ⟨b,o+1,none⟩=some (.int .i64 r.kind)∧w.cell? ⟨b,o+2,none⟩=some (.int .i64 r.to)∧nL w (.agg #[.slice os r.of.length cs,.int .i64 r.kind,.int .i64 r.to]) r:=by
 obtain⟨sv,c0,c1,c2,hi,h5⟩:=h;obtain⟨os,cs,rfl,_⟩:=hi.len;exact⟨os,cs,c0,c1,c2,_,rfl,hi,h5⟩
section
variable {H:Type} {enc:TypeId × Value→H} {W:World} {base:Nat} {d:DataW H} {p:List MemPlace} {v:Value}
theorem RL {n:Nat}{cs:List Value}{y:DataW H × List MemPlace}(h:DataW.trod enc Tryz.prog W 0 (fun _=>true) true n 40 cs=some y):
  ∃(r:Rw) (sv:Value),cs= [sv,.int .i64 r.kind,.int .i64 r.to]∧bC W sv r.of∧fK r.kind∧fK r.to∧pz sv:=by
 obtain⟨xs,n',_,_,hlen,hxl,hf⟩:=DataW.trod_struct Tryz.underlying40 h;have hc:Tryz.prog.cellsOf 40=3:=by kernel_rfl
 have hi:Tryz.prog.cellsOf 3=1:=by kernel_rfl
 have hs:Tryz.prog.cellsOf 38=1:=by kernel_rfl
 rw [hc]at hlen
 match cs,hlen,xs,hxl with
 | [c0,c1,c2],_,[x0,x1,x2],_=>
  have h0:=hf 0 _ rfl;have h1:=hf 1 _ rfl;have h2:=hf 2 _ rfl;simp [hi,hs]at h0 h1 h2;obtain⟨a,e1,_,wa⟩:=DataW.trod_int Tryz.underlying3 h1;obtain⟨b,e2,_,wb⟩:=DataW.trod_int Tryz.underlying3 h2;simp at e1 e2;subst e1 e2;obtain⟨l,hl,hcap⟩:=Gl h0;exact⟨⟨l,a,b⟩,c0,rfl,hl,oJ wa,oJ wb,hcap⟩
theorem Oz (hv:Value.okWide Tryz.prog W .any base 22 v)(h:DataW.Trod enc Tryz.prog W 0 (fun _=>true) true 22 v d p):∃l,bW W v l:=by
 obtain⟨a0,len,cap,rfl⟩:=okWide_slice Tryz.underlying22 hv;obtain⟨fuel,hf⟩:=h;have hc:Tryz.prog.cellsOf 40=3:=by kernel_rfl
 rcases open_slice Tryz.underlying22 hf with⟨hcs,_⟩ | ⟨a,len',cap',m,n,D,Pl,hcs,_,hl,hm,hmm,_,hi⟩
 ·simp [Value.cells]at hcs
  obtain⟨rfl,rfl,rfl⟩:=hcs;exact⟨[],none,0,rfl,by simp,by simp,fun h=>absurd rfl h⟩
 ·simp [Value.cells]at hcs
  obtain⟨rfl,rfl,rfl⟩:=hcs;have hmm':m=cap:=by simp at hmm;exact hmm
  subst hmm';have hq:∀i,i<len→∃r:Rw,∃sv,W.cell? (a.add (i*3))=some sv∧W.cell? ((a.add (i*3)).add 1)=some (.int .i64 r.kind)∧W.cell? ((a.add (i*3)).add 2)=some (.int .i64 r.to)∧bC W sv r.of∧fK r.kind∧fK r.to∧pz sv:=by
   intro i hil;obtain⟨cs',h1,h2⟩:=hi i (by omega)
   obtain⟨r,sv,rfl,hr⟩:=RL h2;rw [hc]at h1;obtain⟨_,_,hat⟩:=World.cells?_some h1;exact⟨r,sv,by simpa [Addr.add]using hat 0 (by omega),hat 1 (by omega),hat 2 (by omega),hr⟩
  obtain⟨f,hf⟩:=choose_lt hq;refine⟨(List.range len).map f,some a,m,by simp,by simp;omega,by omega,fun hne=> ?_⟩
  have hp:0<len:=by
   rcases len with _ | n
   ·simp at hne
   ·omega
  obtain⟨b,off,spot⟩:=a;obtain⟨sv0,h0,_⟩:=hf 0 hp;have hspot:spot=none:=by simpa [Addr.add]using World.cell?_spot h0
  subst hspot;refine⟨b,off,rfl,Im (s:=none) (by simpa [Addr.add]using h0),fun i g hg=> ?_⟩
  obtain⟨hi,rfl⟩:=List.getElem?_eq_some_iff.1 hg;simp at hi;obtain⟨sv,c0,c1,c2,hh⟩:=hf i hi;simp only [add_add,add_plain]at c0 c1 c2;refine⟨sv,by simpa using c0,by simpa using c1,by simpa using c2,by simpa using hh⟩
end
open Go.ChangeShapes Go.WideShapes Go.RowKit
def gQ:List Fq→Nat→Int × Int
 | [],_=>(0,0)
 | g::l,i=>if fG g.N g.D then gQ l (i+1)else(5,i)
theorem Mk {l:List Fq}{k i:Nat}(hk:k<l.length)(h:fG l[k].N l[k].D):gQ (l.drop k) i=gQ (l.drop (k+1)) (i+1):=by
 rw [List.drop_eq_getElem_cons hk,gQ,if_pos h]
theorem Jr {l:List Fq}{k i:Nat}(hk:k<l.length)(h:¬fG l[k].N l[k].D):gQ (l.drop k) i=(5,(i:Int)):=by
 rw [List.drop_eq_getElem_cons hk,gQ,if_neg h]
theorem Js {l:List Fq}{k i:Nat}(hk:l.length≤k):gQ (l.drop k) i=(0,0):=by
 rw [List.drop_eq_nil_of_le hk];rfl
theorem zR:∀ {l:List Fq} {i:Nat},(gQ l i).1=0→gQ l i=(0,0)∧∀g∈l,fG g.N g.D
 | [],_,_=>⟨rfl,fun _ h=>by cases h⟩
 | g::l,i,h=>by
  unfold gQ at h ⊢
  by_cases hg:fG g.N g.D
  ·rw [if_pos hg]at h ⊢
   obtain⟨h1,h2⟩:=zR h;refine⟨h1,fun x hx=> ?_⟩
   rcases List.mem_cons.1 hx with rfl | hx
   ·exact hg
   ·exact h2 x hx
  ·rw [if_neg hg]at h;simp at h
def OL (r:Rw)(nums:List Fq):Int × Int:=if(fM r nums.length).1≠0 then fM r nums.length else gQ nums 0
theorem aL.set4 {w:World}{b:Nat}{x y z u:Value}(h:aL w b #[x,y,z,u])(p q r s:Value):aL ((((w.setCell ⟨b,0,none⟩ p).setCell ⟨b,1,none⟩ q).setCell ⟨b,2,none⟩ r).setCell ⟨b,3,none⟩ s) b #[p,q,r,s]:=by
 obtain⟨t,h⟩:=h;exact⟨t,heap_setCell_same 3 s (heap_setCell_same 2 r (heap_setCell_same 1 q (heap_setCell_same 0 p h)))⟩
theorem aL.other4 {w:World}{b b':Nat}{A:Array Value}(h:aL w b A)(hne:b≠b')(p q r s:Value):aL ((((w.setCell ⟨b',0,none⟩ p).setCell ⟨b',1,none⟩ q).setCell ⟨b',2,none⟩ r).setCell ⟨b',3,none⟩ s) b A:=by
 obtain⟨t,h⟩:=h;exact⟨t,by rw [heap_setCell_other _ _ _ _ hne,heap_setCell_other _ _ _ _ hne,heap_setCell_other _ _ _ _ hne,heap_setCell_other _ _ _ _ hne];exact h⟩
theorem Yb:Ag 0 0= .agg #[.bool false,.string ⟨#[]⟩,.bool false,.string ⟨#[]⟩]:=by
 unfold Ag;rw [show cZ (0:Int).natAbs= []from jJ]
 rfl
def Fq.q (g:Fq):Rat:=Rat.divInt g.N g.D
def yA (of:List Int)(nums:List Fq):Nat→Rat
 | 0=>0
 | k+1=>yA of nums k+(of.getD k 0:Rat)*(nums.getD k ⟨0,0⟩).q
theorem Pn {g:Fq}(h:fG g.N g.D):NB 1 g.q:=wE (rF (by have:=h.2.2;omega)) (rF (by have:=h.1;have:=h.2.1;omega)) (by have:=h.1;omega)
theorem Oc {of:List Int}{nums:List Fq}(hf:∀x∈of,dA x)(hn:∀g∈nums,fG g.N g.D)(hl:of.length≤nums.length):∀k,k≤of.length→NB (3*k+1) (yA of nums k)
 | 0,_=>mM
 | k+1,h=>by
  have ih:=Oc hf hn hl k (by omega)
  have h1:NB 1 ((of.getD k 0:Int):Rat):=jy (by
   have:=hf (of.getD k 0) (by rw [eG,iw (by omega)];exact List.getElem_mem _)
   unfold dA at this;omega)
  have h2:NB 1 (nums.getD k ⟨0,0⟩).q:=Pn (hn _ (by rw [eG,iw (by omega)];exact List.getElem_mem _))
  exact(ih.add (h1.mul h2)).mono (by omega)
theorem tO (c:Int):Rat.divInt c 1=(c:Rat):=by
 rw [← Rat.num_divInt_den (c:Rat),Rat.num_intCast,Rat.den_intCast];rfl
theorem Od (w:World)(sv:Value)(of:List Int)(vn:Value)(nums:List Fq)(hi:bC w sv of)(hn:eT w vn nums)(hf:∀x∈of,dA x)(hq:∀g∈nums,fG g.N g.D)(hl:of.length≤nums.length)(hl12:of.length≤12):
  Calls Tryz.prog 36 #[sv,vn] w (Zw (yA of nums of.length) w):=by
 have HN:=zh hn;have HI:=zh hi;obtain⟨os,cs,rfl,_⟩:=hi.len;obtain⟨oa,ca,rfl,hca,hma⟩:=hn.len;unfold maxLen at hma;have HF:=zh hf;have HQ:=zh hq;have zc7:=zh (Oc hf hq hl);clear hi hn hf hq;go_enter Tryz.func36,Tryz.ntmps36;go_wp2_with fail;refine(mE w 0 1 (by omega) (by omega) (by omega) (by omega) (by omega)).mono ?_
 rintro e w1 ⟨b1,hb1,rfl,hk1,hi1⟩;have K1:=zh hk1;have HI1:Hid (fJ w1 b1 0 (yA of nums 0)):=zh (by rw [tO]at hi1;exact hi1)
 clear hk1 hi1;go_wp2_with fail;go_loopw [5,6] (fun s t wr=>∃k b:Nat,k≤of.length∧t= .int .i64 k∧s= .pointer (some ⟨b,0,none⟩)∧w.heap.size≤b∧Keep au w wr∧fJ wr b 0 (yA of nums k)) (fun _ t _=>(of.length-intOf t).toNat)
 case atStart=>exact⟨0,b1,by omega,rfl,rfl,hb1,K1.out,HI1.out⟩
 case round=>
  obtain⟨k,b,hk,rfl,rfl,hbg,hkr,hs⟩:=hrel;have HBG:=zh hbg;have dP:=zh hkr;have HS:=zh hs;clear hkr hs K1 HI1
  by_cases hkl:k<of.length
  ·have hlt:(k:Int)<(of.length:Int):=by omega
   have hltn:(k:Int)<(nums.length:Int):=by omega
   have zaN:k<nums.length:=by omega
   obtain⟨bs,o,cp,hsl,hbs,hc⟩:=(HI.out.keep dP.out).at hkl;simp at hsl;obtain⟨rfl,rfl⟩:=hsl;obtain⟨b',o',rfl,hb',p0,p1⟩:=(HN.out.keep dP.out).at zaN;have hqk:=HQ.out _ (List.getElem_mem zaN);have hfk:=HF.out _ (List.getElem_mem hkl);have DJ:=zh ((zc7.out k (by omega)).mono (k:=2000) (by omega))
   have HST:Hid (yA of nums (k+1)=yA of nums k+Rat.divInt (nums[k]).N (nums[k]).D*Rat.divInt of[k] 1):=zh (by
    rw [tO,Rat.mul_comm];simp only [yA,eG,iw hkl,iw zaN,Option.getD_some,Fq.q])
   have hng:=Pn (g:=nums[k]) hqk;unfold Fq.q at hng;generalize nums[k].N=gn at *;generalize nums[k].D=gd at *;generalize of[k]=c at *;have hnc:=jy (x:=c) (by unfold dA at hfk;omega)
   rw [← tO]at hnc;have HNG:=zh (hng.mono (k:=2000) (by omega))
   have HNC:=zh (hnc.mono (k:=2000) (by omega))
   have XM:=zh ((hng.mul hnc).mono (k:=2000) (by omega))
   obtain⟨d1,d2,d3,d4,_⟩:=hqk;unfold dA at hfk;clear hng hnc;go_wp2;refine jC (fun w'=>Keep au wr w') (.two [1,2,3,4,6,7,8,9] 0 (.one [] 5 (.one [] 10 (.one [] 11 (.fin [12])))) 5 (.two [] 0 (.one [] 10 (.one [] 11 (.fin [12]))) 10 (.one [] 0 (.one [] 11 (.fin [12]))))) (by kernel_rfl) (by kernel_rfl) kp ?_
   intro X W hne hF hcl;have aQ:=zh hcl;have hx1:=fun x=>((hF x).cell hb').trans p0
   have hx2:=fun x=>((hF x).cell hb').trans p1
   have hx3:=fun x=>((hF x).cell hbs).trans hc
   clear hF hcl;simp only [mP,aJ,zl0,zl1,zl2,aV,Bool.false_eq_true,if_false]
   (repeat(quiet_step (fail)));refine wpQuiet_nil ?_
   refine⟨?_,?_⟩
   ·refine ay rfl rfl fun K hK=> ?_
    go_simp;have k1:Keep au wr ((wr.alloc (.cells eX 130)).drew):=kp;refine hK _ _ ⟨aQ.out _ k1,?_⟩;have HH:Hid (iK ((wr.alloc (.cells eX 130)).drew) wr.heap.size 0):=zh ((kQ wr).ofNewer (Keep.refl au _).drew);have K1:=zh k1;clear hK K k1;obtain⟨bA,FM⟩:∃b,b=wr.heap.size:=⟨_,rfl⟩;have HGA:Hid (wr.heap.size≤bA):=zh (by rw [FM];exact Nat.le_refl _)
    rw [← FM]at HH ⊢;clear FM;generalize (wr.alloc (.cells eX 130)).drew=v1 at*
    (repeat(quiet_step (fail)));refine wpQuiet_nil ?_
    refine ay rfl rfl fun K hK=> ?_
    go_simp;refine(Ec gn gd _ (by omega) (by omega) (by omega) (by omega) (by omega)).mono ?_
    rintro e v2 ⟨b1,hb1,rfl,hk,hi⟩;have K2:=zh ((show Keep au wr _ from K1.out).both hk)
    have HI1:=zh hi;have HH:=zh (HH.out.ofNewer hk);refine hK _ _ ⟨aQ.out _ K2.out,?_⟩;clear hK K hk hi hb1
    (repeat(quiet_step (fail)));refine wpQuiet_nil ?_
    refine ay rfl rfl fun K hK=> ?_
    go_simp;refine(mE _ c 1 (by omega) (by omega) (by omega) (by omega) (by omega)).mono ?_
    rintro e v3 ⟨b2,hb2,rfl,hk,hi⟩;have K3:=zh ((show Keep au wr _ from K2.out).both hk)
    have HI2:=zh hi;have HH:=zh (HH.out.ofNewer hk);have HI1:=zh (HI1.out.ofNewer hk);refine hK _ _ ⟨aQ.out _ K3.out,?_⟩;clear hK K hk hi hb2
    (repeat(quiet_step (fail)));refine wpQuiet_nil ?_
    refine ay rfl rfl fun K hK=> ?_
    go_simp;refine(Fy v3 bA 0 b1 0 b2 0 _ _ HH.out HI1.out HI2.out HNG.out HNC.out).mono ?_;rintro e v4 ⟨rfl,hk,hi⟩;have K4:=zh (K3.out.trans hk fun n o hn h=>by rcases h with h | h<;>(have:=h.1;have:=HGA.out;omega))
    have HM:=zh hi;refine hK _ _ ⟨aQ.out _ K4.out,?_⟩;clear hK K hk hi
    (repeat(quiet_step (fail)));refine wpQuiet_nil ?_
    refine NoPanic.normal ?_;go_wp2_with fail;refine(Fz (v4.alloc (.cells eX 130)) v4.heap.size 0 b 0 bA 0 _ _ (kQ v4) ((HS.out.ofNewer K4.out).ofNewer ((Keep.refl au v4).alloc _)) (HM.out.ofNewer ((Keep.refl au v4).alloc _)) DJ.out XM.out).mono ?_;rintro e w9 ⟨rfl,hk9,hi9⟩;have K9:Hid (Keep au wr w9):=zh ((K4.out.alloc _).newerR hk9 K4.out.size);have Wj:=zh hi9;clear hk9 hi9;go_wp2;go_roundw
    case rel=>exact⟨k+1,_,by omega,by go_num,rfl,Nat.le_trans dP.out.size K4.out.size,dP.out.both K9.out,by rw [HST.out];exact Wj.out⟩
    case measure=>simp [intOf];omega
   ·refine ay rfl rfl fun K hK=> ?_
    go_simp;refine(Ec gn gd _ (by omega) (by omega) (by omega) (by omega) (by omega)).mono ?_
    rintro e v1 ⟨b1,hb1,rfl,hk,hi⟩;have K1:=zh ((show Keep au wr _ from kp).both hk)
    have HI1:=zh hi;refine hK _ _ ⟨aQ.out _ K1.out,?_⟩;clear hK K hk hi hb1
    (repeat(quiet_step (fail)));refine wpQuiet_nil ?_
    refine⟨?_,?_⟩
    ·refine ay rfl rfl fun K hK=> ?_
     go_simp;have k2:Keep au wr (v1.alloc (.cells eX 130)):=K1.out.alloc _;refine hK _ _ ⟨aQ.out _ k2,?_⟩;have HH:Hid (iK (v1.alloc (.cells eX 130)) v1.heap.size 0):=zh (kQ v1);have K2:=zh k2;have HI1:=zh (HI1.out.ofNewer ((Keep.refl au v1).alloc (.cells eX 130)));clear hK K k2;obtain⟨bA,FM⟩:∃b,b=v1.heap.size:=⟨_,rfl⟩;have HGA:Hid (wr.heap.size≤bA):=zh (by rw [FM];exact K1.out.size)
     rw [← FM]at HH ⊢;clear FM;generalize v1.alloc (.cells eX 130)=v2 at*
     (repeat(quiet_step (fail)));refine wpQuiet_nil ?_
     refine ay rfl rfl fun K hK=> ?_
     go_simp;refine(mE _ c 1 (by omega) (by omega) (by omega) (by omega) (by omega)).mono ?_
     rintro e v3 ⟨b2,hb2,rfl,hk,hi⟩;have K3:=zh ((show Keep au wr _ from K2.out).both hk)
     have HI2:=zh hi;have HH:=zh (HH.out.ofNewer hk);have HI1:=zh (HI1.out.ofNewer hk);refine hK _ _ ⟨aQ.out _ K3.out,?_⟩;clear hK K hk hi hb2
     (repeat(quiet_step (fail)));refine wpQuiet_nil ?_
     refine ay rfl rfl fun K hK=> ?_
     go_simp;refine(Fy v3 bA 0 b1 0 b2 0 _ _ HH.out HI1.out HI2.out HNG.out HNC.out).mono ?_;rintro e v4 ⟨rfl,hk,hi⟩;have K4:=zh (K3.out.trans hk fun n o hn h=>by rcases h with h | h<;>(have:=h.1;have:=HGA.out;omega))
     have HM:=zh hi;refine hK _ _ ⟨aQ.out _ K4.out,?_⟩;clear hK K hk hi
     (repeat(quiet_step (fail)));refine wpQuiet_nil ?_
     refine NoPanic.normal ?_;go_wp2_with fail;refine(Fz (v4.alloc (.cells eX 130)) v4.heap.size 0 b 0 bA 0 _ _ (kQ v4) ((HS.out.ofNewer K4.out).ofNewer ((Keep.refl au v4).alloc _)) (HM.out.ofNewer ((Keep.refl au v4).alloc _)) DJ.out XM.out).mono ?_;rintro e w9 ⟨rfl,hk9,hi9⟩;have K9:Hid (Keep au wr w9):=zh ((K4.out.alloc _).newerR hk9 K4.out.size);have Wj:=zh hi9;clear hk9 hi9;go_wp2;go_roundw
     case rel=>exact⟨k+1,_,by omega,by go_num,rfl,Nat.le_trans dP.out.size K4.out.size,dP.out.both K9.out,by rw [HST.out];exact Wj.out⟩
     case measure=>simp [intOf];omega
    ·refine ay rfl rfl fun K hK=> ?_
     go_simp;refine(mE _ c 1 (by omega) (by omega) (by omega) (by omega) (by omega)).mono ?_
     rintro e v2 ⟨b2,hb2,rfl,hk,hi⟩;have K2:=zh ((show Keep au wr _ from K1.out).both hk)
     have HI2:=zh hi;have HI1:=zh (HI1.out.ofNewer hk);refine hK _ _ ⟨aQ.out _ K2.out,?_⟩;clear hK K hk hi hb2
     (repeat(quiet_step (fail)));refine wpQuiet_nil ?_
     refine ay rfl rfl fun K hK=> ?_
     go_simp;have k3:Keep au wr (v2.alloc (.cells eX 130)):=K2.out.alloc _;refine hK _ _ ⟨aQ.out _ k3,?_⟩;have HH:Hid (iK (v2.alloc (.cells eX 130)) v2.heap.size 0):=zh (kQ v2);have K3:=zh k3;have HI1:=zh (HI1.out.ofNewer ((Keep.refl au v2).alloc (.cells eX 130)));have HI2:=zh (HI2.out.ofNewer ((Keep.refl au v2).alloc (.cells eX 130)));clear hK K k3;obtain⟨bA,FM⟩:∃b,b=v2.heap.size:=⟨_,rfl⟩;have HGA:Hid (wr.heap.size≤bA):=zh (by rw [FM];exact K2.out.size)
     rw [← FM]at HH ⊢;clear FM;generalize v2.alloc (.cells eX 130)=v3 at*
     (repeat(quiet_step (fail)));refine wpQuiet_nil ?_
     refine ay rfl rfl fun K hK=> ?_
     go_simp;refine(Fy v3 bA 0 b1 0 b2 0 _ _ HH.out HI1.out HI2.out HNG.out HNC.out).mono ?_;rintro e v4 ⟨rfl,hk,hi⟩;have K4:=zh (K3.out.trans hk fun n o hn h=>by rcases h with h | h<;>(have:=h.1;have:=HGA.out;omega))
     have HM:=zh hi;refine hK _ _ ⟨aQ.out _ K4.out,?_⟩;clear hK K hk hi
     (repeat(quiet_step (fail)));refine wpQuiet_nil ?_
     refine NoPanic.normal ?_;go_wp2_with fail;refine(Fz (v4.alloc (.cells eX 130)) v4.heap.size 0 b 0 bA 0 _ _ (kQ v4) ((HS.out.ofNewer K4.out).ofNewer ((Keep.refl au v4).alloc _)) (HM.out.ofNewer ((Keep.refl au v4).alloc _)) DJ.out XM.out).mono ?_;rintro e w9 ⟨rfl,hk9,hi9⟩;have K9:Hid (Keep au wr w9):=zh ((K4.out.alloc _).newerR hk9 K4.out.size);have Wj:=zh hi9;clear hk9 hi9;go_wp2;go_roundw
     case rel=>exact⟨k+1,_,by omega,by go_num,rfl,Nat.le_trans dP.out.size K4.out.size,dP.out.both K9.out,by rw [HST.out];exact Wj.out⟩
     case measure=>simp [intOf];omega
  ·have hlt:¬(k:Int)<(of.length:Int):=by omega
   obtain rfl:k=of.length:=by omega
   go_wp2;go_returns;have hb:=HS.out;exact⟨b,HBG.out,rfl,dP.out,HS.out⟩
theorem zT:∀ {l:List Int} {i:Nat},(bF l i).1=0→bF l i=(0,0)∧∀x∈l,dA x
 | [],_,_=>⟨rfl,fun _ h=>by cases h⟩
 | x::l,i,h=>by
  unfold bF at h ⊢
  by_cases hx:dA x
  ·rw [if_pos hx]at h ⊢
   obtain⟨h1,h2⟩:=zT h;refine⟨h1,fun y hy=> ?_⟩
   rcases List.mem_cons.1 hy with rfl | hy
   ·exact hx
   ·exact h2 y hy
  ·rw [if_neg hx]at h;simp at h
structure gN (r:Rw)(n:Int):Prop where
 n0:0≤n
 n12:n≤12
 kind:r.kind=1∨r.kind=2∨r.kind=3
 len:(r.of.length:Int)≤n
 fit:∀x∈r.of,dA x
 fto:dA r.to
theorem AX {r:Rw}{n:Int}(h:(fM r n).1=0):fM r n=(0,0)∧gN r n:=by
 unfold fM at h ⊢
 by_cases h1:n<0∨12<n
 ·rw [if_pos h1]at h;simp at h
 rw [if_neg h1]at h ⊢
 by_cases h2:r.kind=1∨r.kind=2∨r.kind=3
 ·rw [if_neg (not_not_intro h2)]at h ⊢
  by_cases h3:n<r.of.length
  ·rw [if_pos h3]at h;simp at h
  ·rw [if_neg h3]at h ⊢
   obtain⟨h4,h5⟩:=zT h;exact⟨h4,by omega,by omega,h2,by omega,fun x hx=>h5 x (by simp [hx]),h5 _ (by simp)⟩
 ·rw [if_pos h2]at h;simp at h
theorem ZV {r:Rw}{nums:List Fq}(h:(OL r nums).1=0):OL r nums=(0,0)∧gN r nums.length∧∀g∈nums,fG g.N g.D:=by
 unfold OL at h ⊢
 by_cases h1:(fM r nums.length).1=0
 ·rw [if_neg (not_not_intro h1)]at h ⊢
  obtain⟨h2,h3⟩:=zR h;exact⟨h2,(AX h1).2,h3⟩
 ·rw [if_pos h1]at h;exact absurd h h1
def jZ (kind c:Int):Bool:=if kind=1 then decide (c≤0)else if kind=2 then decide (c<0)else decide (c=0)
def oV (r:Rw)(nums:List Fq):Bool:=jZ r.kind (yA r.of nums r.of.length-(r.to:Rat)).num.sign
theorem holds1 {c:Int}:jZ 1 c=decide (c≤0):=by unfold jZ;rw [if_pos rfl]
theorem holds2 {c:Int}:jZ 2 c=decide (c<0):=by unfold jZ;rw [if_neg (by omega),if_pos rfl]
theorem holds3 {c:Int}:jZ 3 c=decide (c=0):=by unfold jZ;rw [if_neg (by omega),if_neg (by omega)]
theorem IJ (w:World)(v:Value)(r:Rw)(vn:Value)(nums:List Fq)(h:nL w v r)(hn:eT w vn nums):
  Calls Tryz.prog 22 #[v,vn] w fun e w'=>e= .returned (fV (OL r nums))∧Keep au w w':=by
 have CH:=fun w' (k:Keep au w w')=>zh (Ev w' v r nums.length (h.keep k))
 have HN:=zh hn;obtain⟨sv,rfl,hi,_⟩:=h;obtain⟨os,cs,rfl,_⟩:=hi.len;obtain⟨oa,ca,rfl,hca,hma⟩:=hn.len;unfold maxLen at hma;have HP:Hid ((fM r nums.length).1≠0∧OL r nums=fM r nums.length∨fM r nums.length=(0,0)∧OL r nums=gQ (nums.drop 0) 0):=zh (by
  unfold OL
  by_cases hc:(fM r nums.length).1=0
  ·right
   rw [if_neg (not_not_intro hc)];exact⟨(AX hc).1,rfl⟩
  ·left
   rw [if_pos hc];exact⟨hc,rfl⟩)
 obtain⟨pf,hpf⟩:∃p,OL r nums=p:=⟨_,rfl⟩;rw [hpf]at HP ⊢;have HPF:=zh hpf;clear hpf;obtain⟨c,hcc⟩:∃c,fM r nums.length=c:=⟨_,rfl⟩;rw [hcc]at HP CH;clear hcc;obtain⟨c1,c2⟩:=c;unfold fV at CH ⊢;simp only at CH HP;clear hi hn;go_enter Tryz.func22,Tryz.ntmps22;go_wp2_with fail;refine(CH _ kp).out.mono ?_;rintro e w1 ⟨rfl,hk1⟩;have B4:aL w1 (w.heap.size+1) #[.int .i64 0,.int .i64 0]:=aL.keep kb hk1;have K1:Hid (Keep au w w1):=zh (Keep.both kp hk1);have fO:=zh (B4.old (.cells #[.int .i64 c1,.int .i64 c2] 28));have Ck:Hid (w.heap.size≤w.heap.size+1):=zh (by omega)
 have HS5:Hid (w.heap.size≤w1.heap.size):=zh K1.out.size;have gZ:Hid (aL (w1.alloc (.cells #[.int .i64 c1,.int .i64 c2] 28)) w1.heap.size #[.int .i64 c1,.int .i64 c2]):=zh (aR _ _ rfl);have h45:w.heap.size+1≠w1.heap.size:=by have:=B4.lt;omega
 have oL:Hid (Keep au w (w1.alloc (.cells #[.int .i64 c1,.int .i64 c2] 28))):=zh (K1.out.alloc _);clear hk1 CH B4 K1;go_wp2_with fail;generalize w1.alloc (.cells #[.int .i64 c1,.int .i64 c2] 28)=w2 at *;generalize w1.heap.size=b5 at *;generalize w.heap.size+1=b4 at *;go_loopw [6] (fun s wr=>∃k:Nat,∃f1 f2:Int,k≤nums.length∧s= .int .i64 k∧Keep au w wr∧aL wr b4 #[.int .i64 0,.int .i64 0]∧aL wr b5 #[.int .i64 f1,.int .i64 f2]∧(f1≠0∧pf=(f1,f2)∨(f1,f2)=(0,0)∧pf=gQ (nums.drop k) k)) (fun s _=>(nums.length-intOf s).toNat)
 case atStart=>exact⟨0,c1,c2,by omega,rfl,oL.out,fO.out,gZ.out,HP.out⟩
 case round=>
  obtain⟨k,f1,f2,hk,rfl,hkr,hb4,hb5,hp⟩:=hrel;have dP:=zh hkr;have fO:=zh hb4;have gZ:=zh hb5;clear hkr hb4 hb5 oL HP;have hfin:∀(g1 g2:Int) (wx:World),pf=(g1,g2)→wx=wr→True:=fun _ _ _ _ _=>trivial
  clear hfin
  by_cases hend:k<nums.length∧f1=0
  ·obtain ⟨hkl,rfl⟩:=hend
   rcases hp with⟨h0,_⟩ | ⟨hf,hp⟩
   ·exact absurd rfl h0
   have HPK:=zh hp;obtain rfl:f2=0:=congrArg Prod.snd hf;clear hf hp;have hlt:(k:Int)<(nums.length:Int):=by omega
   obtain⟨b,o,rfl,hbl,p0,p1⟩:=(HN.out.keep dP.out).at hkl;obtain⟨s0,s1,t0,t1,sl⟩:=gZ.out.two;have jG:=zh (fun h=>Mk (i:=k) hkl h)
   have jO:=zh (fun h=>Jr (i:=k) hkl h)
   generalize nums[k].N=gn at *;generalize nums[k].D=gd at*
   by_cases hx:fG gn gd
   ·have CC:=fun w=>zh (yK gn gd w)
    rw [decide_eq_true hx]at CC;have kJ:=zh (HPK.out.trans (jG.out hx));clear hx jG jO HPK;go_wp2_with fail;refine(CC _).out.mono ?_;rintro e w4 ⟨rfl,hk4⟩;have fO:=zh (fO.out.keep hk4);have gZ:=zh (gZ.out.keep hk4);have K4:=zh (dP.out.both hk4);clear hk4 p0 p1 CC s0 s1 t0 t1 sl;go_wp2;go_roundw
    case rel=>exact⟨k+1,0,0,by omega,by go_num,K4.out,fO.out,gZ.out,.inr ⟨rfl,kJ.out⟩⟩
    case measure=>simp [intOf];omega
   ·have CC:=fun w=>zh (yK gn gd w)
    rw [decide_eq_false hx]at CC;have kJ:=zh (HPK.out.trans (jO.out hx));clear hx jG jO HPK;go_wp2_with fail;refine(CC _).out.mono ?_;rintro e w4 ⟨rfl,hk4⟩;have fO:=zh (fO.out.keep hk4);have gZ:=zh (gZ.out.keep hk4);have K4:=zh (dP.out.both hk4);clear hk4 p0 p1 CC s0 s1 t0 t1 sl;go_wp2_with fail;refine(dZ 5 k w4).mono ?_;rintro e w5 ⟨rfl,hk5⟩;have fO:=zh (fO.out.keep hk5);have gZ:=zh (gZ.out.keep hk5);have K5:=zh (K4.out.both hk5);clear hk5;obtain⟨s0,s1,t0,t1,sl⟩:=gZ.out.two;unfold fV;go_wp2;go_roundw
    case rel=>exact⟨k+1,5,k,by omega,by go_num,aP K5.out HS5.out _ _,fO.out.other2 h45 _ _,gZ.out.set2 _ _,.inl ⟨by omega,kJ.out⟩⟩
    case measure=>simp [intOf];omega
  ·have hpf2:pf=(f1,f2):=by
    rcases hp with⟨_,h⟩ | ⟨hf,h⟩
    ·exact h
    ·have h1:f1=0:=congrArg Prod.fst hf
     rw [h,hf];exact Js (by omega)
   have HPE:=zh hpf2;clear hp hpf2;obtain⟨s0,s1,t0,t1,sl⟩:=gZ.out.two;obtain⟨r0,r1,q0,q1,rl⟩:=fO.out.two
   by_cases hkl:k<nums.length
   ·have hlt:(k:Int)<(nums.length:Int):=by omega
    have e1:(f1==0)=false:=by rw [beq_eq_false_iff_ne];intro h;exact hend ⟨hkl,h⟩
    go_wp2;refine bodyPost_ret (by simp [results,Tryz.results22,go_sem,r0,r1,rl];rfl) rfl ?_
    exact⟨by rw [HPE.out],aP dP.out Ck.out _ _⟩
   ·have hlt:¬(k:Int)<(nums.length:Int):=by omega
    go_wp2;refine bodyPost_ret (by simp [results,Tryz.results22,go_sem,r0,r1,rl];rfl) rfl ?_
    exact⟨by rw [HPE.out],aP dP.out Ck.out _ _⟩
theorem IK (w:World)(v:Value)(r:Rw)(vn:Value)(nums:List Fq)(h:nL w v r)(hn:eT w vn nums)(hok:gN r nums.length)(hq:∀g∈nums,fG g.N g.D):
  Calls Tryz.prog 23 #[v,vn] w fun e w'=>e= .returned (.bool (oV r nums))∧Keep au w w':=by
 have hl:=hok.len;have hn12:=hok.n12;have hb:=Oc hok.fit hq (by omega) r.of.length (Nat.le_refl _)
 have hkd:=hok.kind;have hto:=hok.fto;unfold dA at hto;unfold oV;obtain⟨sv,rfl,hi,_⟩:=h;have CS:=fun w' (k:Keep au w w')=>zh (Od w' sv r.of vn nums (hi.keep k) (hn.keep k) hok.fit hq (by omega) (by omega))
 obtain⟨os,cs,rfl,_⟩:=hi.len;obtain⟨oa,ca,rfl,_,_⟩:=hn.len;obtain⟨of,kind,tt⟩:=r;simp only at *;generalize yA of nums of.length=s at *;have CI:=fun w=>zh (mE w tt 1 (by omega) (by omega) (by omega) (by omega) (by omega))
 rw [tO]at CI;have nto:=(jy (x:=tt) (by omega)).mono (k:=2000) (by omega)
 have DJ:=zh (hb.mono (k:=2000) (by omega))
 have CC:=fun w b1 b2 (h1:fJ w b1 0 s) (h2:fJ w b2 0 (tt:Rat))=>zh (VW w b1 0 b2 0 s (tt:Rat) h1 h2 DJ.out nto)
 generalize (s-(tt:Rat)).num.sign=sg at *;clear hb hok hq hl hn12 hi hn hto nto;go_enter Tryz.func23,Tryz.ntmps23;go_wp2;have B2:aL (w.alloc (.cells #[.slice os of.length cs,.int .i64 kind,.int .i64 tt] 40)) w.heap.size #[.slice os of.length cs,.int .i64 kind,.int .i64 tt]:=kc;have oL:Hid (Keep au w (w.alloc (.cells #[.slice os of.length cs,.int .i64 kind,.int .i64 tt] 40))):=zh kp;have HB2:=zh B2;clear B2;generalize w.alloc (.cells #[.slice os of.length cs,.int .i64 kind,.int .i64 tt] 40)=w0 at *;refine aD (fun w'=>Keep au w0 w') [] [([0,1,2,4,5],3),([],6),([],7)] [8] (by kernel_rfl) (by kernel_rfl) kp ?_
 intro X W hne hF hcl;have aQ:=zh hcl;have hx0:=fun x=>(HB2.out.keep (hF x)).three
 clear hF hcl;simp only [aO,aJ,zl0,zl1,zl2,aV,Bool.false_eq_true,if_false]
 (repeat(quiet_step (fail)));refine wpQuiet_nil ?_
 refine ay rfl rfl fun K hK=> ?_
 go_simp;refine(CS _ (oL.out.both kp)).out.mono ?_;rintro e w2 ⟨b1,hb1,rfl,hk2,hi2⟩;have k2:Keep au w0 w2:=Keep.trans kp hk2 fun _ _ _ h=>h
 refine hK _ _ ⟨fun _=>aQ.out _ k2,?_⟩
 clear hK K hk2 hb1
 (repeat(quiet_step (fail)));refine wpQuiet_nil ?_
 refine ay rfl rfl fun K hK=> ?_
 go_simp;refine(CI _).out.mono ?_;rintro e w3 ⟨b2,hb2,rfl,hk3,hi3⟩;have k3:=k2.both hk3;refine hK _ _ ⟨fun _=>aQ.out _ k3,?_⟩
 have hi2:=hi2.ofNewer hk3;clear hK K hk3 hb2
 (repeat(quiet_step (fail)));refine wpQuiet_nil ?_
 refine ay rfl rfl fun K hK=> ?_
 go_simp;refine(CC _ b1 b2 hi2 hi3).out.mono ?_;rintro e w4 ⟨rfl,hk4⟩;have k4:=k3.both hk4;refine hK _ _ ⟨fun _=>aQ.out _ k4,?_⟩
 have HB2:=zh (HB2.out.keep k4);have K4:=zh (oL.out.both k4);clear hK K hk4 k2 k3 k4 hi2 hi3 hx0 CS CI CC DJ oL
 (repeat(quiet_step (fail)));refine wpQuiet_nil ?_
 refine NoPanic.normal ?_;obtain⟨p0,p1,p2,_,_,_,pl⟩:=HB2.out.three
 by_cases h1:sg<0
 ·have e1:decide (sg<0)=true:=decide_eq_true h1
  have h2:¬sg=0:=by omega
  have h3:sg≤0:=by omega
  rcases hkd with rfl | rfl | rfl
  ·have HV:Hid (jZ 1 sg=true):=zh (by rw [holds1];exact decide_eq_true h3)
   go_wp2;go_ret;exact⟨by rw [HV.out];rfl,K4.out⟩
  ·have HV:Hid (jZ 2 sg=true):=zh (by rw [holds2];exact decide_eq_true h1)
   go_wp2;go_ret;exact⟨by rw [HV.out];rfl,K4.out⟩
  ·have e2:(sg==0)=false:=by rw [beq_eq_false_iff_ne];exact h2
   have HV:Hid (jZ 3 sg=false):=zh (by rw [holds3];exact decide_eq_false h2)
   go_wp2;go_ret;exact⟨by rw [HV.out];rfl,K4.out⟩
 ·have e1:decide (sg<0)=false:=decide_eq_false h1
  by_cases h2:sg=0
  ·subst h2
   rcases hkd with rfl | rfl | rfl
   ·go_wp2
    go_ret;exact⟨rfl,K4.out⟩
   ·go_wp2
    go_ret;exact⟨rfl,K4.out⟩
   ·go_wp2
    go_ret;exact⟨rfl,K4.out⟩
  ·have e2:(sg==0)=false:=by rw [beq_eq_false_iff_ne];exact h2
   have h3:¬sg≤0:=by omega
   rcases hkd with rfl | rfl | rfl
   ·have HV:Hid (jZ 1 sg=false):=zh (by rw [holds1];exact decide_eq_false h3)
    go_wp2;go_ret;exact⟨by rw [HV.out];rfl,K4.out⟩
   ·have HV:Hid (jZ 2 sg=false):=zh (by rw [holds2];exact decide_eq_false h1)
    go_wp2;go_ret;exact⟨by rw [HV.out];rfl,K4.out⟩
   ·have HV:Hid (jZ 3 sg=false):=zh (by rw [holds3];exact decide_eq_false h2)
    go_wp2;go_ret;exact⟨by rw [HV.out];rfl,K4.out⟩
end Go.Proofs.YtaiffmebphhdaaaGreat
