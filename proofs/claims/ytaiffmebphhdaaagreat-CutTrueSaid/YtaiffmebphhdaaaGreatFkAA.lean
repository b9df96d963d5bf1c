/- Package row's List; the reference's Rows. The reference's Rows. Lists of exact numbers, as they lie in memory. Package farkas's numbers: fractions as exact numbers. Combinations of rows: plain. What is asked of lists of exact numbers: package farkas: is one of the numbers not 0? Package farkas's check: what is wrong with rows and multipliers. Multipliers that refute rows, plain: what is asked. Package farkas's Take: what it answers, plain. Package farkas's Combined: the combination of rows. Package farkas's Take. -/
import Derived.Test.YtaiffmebphhdaaaGreatPtAA
import Derived.Test.YtaiffmebphhdaaaGreatExAA
namespace Go.Proofs.YtaiffmebphhdaaaGreat
set_option maxRecDepth 100000
set_option maxHeartbeats 8000000
set_option linter.unusedSimpArgs false
set_option linter.unusedVariables false
open Go.ChangeShapes Go.WideShapes Go.RowKit
def iN (n:Int):List Rw→Nat→Int × Int
 | [],_=>(0,0)
 | r::l,i=>if(gG r n).1=0 then iN n l (i+1)else((gG r n).1,i)
theorem MJ {n:Int}{l:List Rw}{k i:Nat}(hk:k<l.length)(h:(gG l[k] n).1=0):iN n (l.drop k) i=iN n (l.drop (k+1)) (i+1):=by
 rw [List.drop_eq_getElem_cons hk,iN,if_pos h]
theorem Jv {n:Int}{l:List Rw}{k i:Nat}(hk:k<l.length)(h:¬(gG l[k] n).1=0):iN n (l.drop k) i=((gG l[k] n).1,(i:Int)):=by
 rw [List.drop_eq_getElem_cons hk,iN,if_neg h]
theorem Jw {n:Int}{l:List Rw}{k i:Nat}(hk:l.length≤k):iN n (l.drop k) i=(0,0):=by
 rw [List.drop_eq_nil_of_le hk];rfl
theorem uh {n:Int}:∀ {l:List Rw} {i:Nat},(iN n l i).1=0→iN n l i=(0,0)∧∀r∈l,eD r n
 | [],_,_=>⟨rfl,fun _ h=>by cases h⟩
 | r::l,i,h=>by
  unfold iN at h ⊢;by_cases hg:(gG r n).1=0
  ·rw [if_pos hg]at h ⊢;obtain⟨h1,h2⟩:=uh h;refine⟨h1,fun x hx=> ?_⟩;rcases List.mem_cons.1 hx with rfl | hx
   ·exact (Bc hg).2
   exact h2 x hx
  rw [if_neg hg]at h;exact absurd h hg
def nW (l:List Rw)(n:Int):Int × Int:=if n<0∨12<n then(3,-1)else if 40<l.length then(2,0)else iN n l 0
theorem MK (w:World)(v:Value)(l:List Rw)(n:Int)(h:dD w v l)(hn:fT n):
  Calls Tryz.prog 19 #[v,.int .i64 n] w fun e w'=>e= .returned (fV (nW l n))∧Keep au w w':=by
 have HR:=zh h;obtain⟨oa,ca,rfl,hca,hma⟩:=h.len;unfold maxLen at hma;clear h;unfold nW;by_cases h1:n<0∨12<n
 ·rw [if_pos h1];unfold fV;by_cases h2:n<0
  ·have e1:decide (n<0)=true:=bL h2;go_enter Tryz.func19,Tryz.ntmps19;go_wp2;refine bodyPost_ret (by simp [results,Tryz.results19,go_sem];rfl) rfl ?_;exact⟨rfl,kp⟩
  have e1:decide (n<0)=false:=aZ h2;have e2:decide (12<n)=true:=bL om;go_enter Tryz.func19,Tryz.ntmps19;go_wp2;refine bodyPost_ret (by simp [results,Tryz.results19,go_sem];rfl) rfl ?_;exact⟨rfl,kp⟩
 rw [if_neg h1];have e1:decide (n<0)=false:=aZ om;have e2:decide (12<n)=false:=aZ om;by_cases h40:40<l.length
 ·rw [if_pos h40];unfold fV;have e3:(40:Int)<(l.length:Int):=om;clear h1 h40;go_enter Tryz.func19,Tryz.ntmps19;go_wp2;refine bodyPost_ret (by simp [results,Tryz.results19,go_sem];rfl) rfl ?_;exact⟨rfl,kp⟩
 rw [if_neg h40];have e3:¬(40:Int)<(l.length:Int):=om;unfold fV;clear h1 h40;go_enter Tryz.func19,Tryz.ntmps19;go_wp2_with fail;have qz:Hid (Keep au w (w.alloc (.cells #[.int .i64 0,.int .i64 0] 28))):=zh kp;have HB0:Hid (aL (w.alloc (.cells #[.int .i64 0,.int .i64 0] 28)) w.heap.size #[.int .i64 0,.int .i64 0]):=zh (aP _ _ rfl);have Cx:Hid (w.heap.size≤w.heap.size):=zh (Nat.le_refl _);generalize w.alloc (.cells #[.int .i64 0,.int .i64 0] 28)=w0 at *;generalize hb4:w.heap.size=b4 at HB0 ⊢;have Cx:Hid (w.heap.size≤b4):=zh om;clear hb4;go_loopw [23] (fun s wr=>∃k:Nat,k≤l.length∧s= .int .i64 k∧iN n l 0=iN n (l.drop k) k∧Keep au w wr∧aL wr b4 #[.int .i64 0,.int .i64 0]) (fun s _=>(l.length-intOf s).toNat)
 case atStart=>exact⟨0,om,rfl,rfl,qz.out,HB0.out⟩
 obtain⟨k,hk,rfl,hf,hkr,hbr⟩:=hrel;have HF:=zh hf;have cK:=zh hkr;have Af:=zh hbr;clear hf hkr hbr qz HB0;by_cases hkl:k<l.length
 ·have hlt:(k:Int)<(l.length:Int):=om;obtain⟨b,o,rfl,hbl,hrow⟩:=(HR.out.keep cK.out).at hkl;have hIN:=fun h=>MJ (n:=n) (i:=k) hkl h;have Zh:=fun h=>Jv (n:=n) (i:=k) hkl h;generalize l[k]=r at *;obtain⟨os,cs,p0,p1,p2,hrow⟩:=hrow.row;have CH:=fun w' (k:Keep au wr w')=>zh (IQ w' _ r n (hrow.keep k));generalize gG r n=c at *;obtain⟨c1,c2⟩:=c;unfold fV at CH;simp only at CH hIN Zh;clear hrow;by_cases hx:c1=0
  ·have mM:=zh (HF.out.trans (hIN hx));subst hx;clear hIN Zh HF;go_wp2_with fail;refine(CH _ kp).out.mono ?_;rintro e w4 ⟨rfl,hk4⟩;have k4:Keep au wr w4:=Keep.trans kp hk4 fun _ _ _ h=>h;clear hk4 p0 p1 p2 CH;go_wp2;go_roundw
   case rel=>exact⟨k+1,om,gn,mM.out,cK.out.both (k4.alloc _),(Af.out.keep k4).old _⟩
   simp [intOf];omega
  have mM:=zh (HF.out.trans (Zh hx));have e9:(c1 != 0)=true:=by rw [bne_iff_ne];exact hx
  clear hIN Zh HF hx;go_wp2_with fail;refine(CH _ kp).out.mono ?_;rintro e w4 ⟨rfl,hk4⟩;have k4:Keep au wr w4:=Keep.trans kp hk4 fun _ _ _ h=>h;have K4:=zh (cK.out.both k4);have fH:=zh (Af.out.keep k4);clear hk4 k4 p0 p1 p2 CH;obtain⟨r0,r1,f0,f1,rl⟩:=fH.out.two;have hn1:¬b4=w4.heap.size:=om;go_wp2;refine bodyPost_ret (by simp [results,Tryz.results19,go_sem,r0,r1,rl,hn1];rfl) rfl ?_;have HK:=K4;have hs4:=Cx.out;exact⟨by rw [mM.out],kp⟩
 have hlt:¬(k:Int)<(l.length:Int):=om;have mM:=zh (HF.out.trans (Jw (i:=k) om));obtain⟨r0,r1,f0,f1,rl⟩:=Af.out.two;go_wp2;refine bodyPost_ret (by simp [results,Tryz.results19,go_sem,r0,r1,rl];rfl) rfl ?_;exact⟨by rw [mM.out],aV cK.out Cx.out _ _⟩
structure NV where
 nb:Bool
 nS:ByteArray
 db:Bool
 dS:ByteArray
def NV.v (x:NV):Value:= .agg #[.bool x.nb,.string x.nS,.bool x.db,.string x.dS]
def NV.L (x:NV):List Value:= [.bool x.nb,.string x.nS,.bool x.db,.string x.dS]
def nv0:NV:=⟨false,⟨#[]⟩,false,⟨#[]⟩⟩
theorem Fg {v:Value}{q:Rat}(h:bO v q):∃x:NV,v=x.v:=by
 obtain⟨d,rfl,_⟩:=h;exact⟨⟨_,_,_,_⟩,rfl⟩
theorem sH:bO nv0.v 0:=by have:=Zi;rwa [Zj]at this
theorem fF (q:Rat):∃x:NV,uo q=x.v∧bO x.v q:=by
 obtain⟨x,hx⟩:=Fg (Jy q);exact⟨x,hx,by rw [← hx];exact Jy q⟩
def IV (l:List NV):List Value:=l.flatMap NV.L
theorem IW (l:List NV):(IV l).length=l.length*4:=by
 induction l with
 | nil=>rfl
 | cons g t ih=>
  have:IV (g::t)=g.L++IV t:=rfl;rw [this,List.length_append,ih];simp [NV.L];omega
theorem tF:∀(l:List NV) (i:Nat) (g:NV),l[i]? =some g→(IV l)[i*4]? =some (.bool g.nb)∧(IV l)[i*4+1]? =some (.string g.nS)∧(IV l)[i*4+2]? =some (.bool g.db)∧(IV l)[i*4+3]? =some (.string g.dS)
 | [],i,g,h=>by simp at h
 | x::t,0,g,h=>by
  simp at h;subst h;exact⟨rfl,rfl,rfl,rfl⟩
 | x::t,i+1,g,h=>by
  have ih:=tF t i g (by simpa using h);have e:IV (x::t)=Value.bool x.nb::Value.string x.nS::Value.bool x.db::Value.string x.dS::IV t:=rfl;rw [e,show(i+1)*4=i*4+1+1+1+1 from om,show i*4+1+1+1+1+1=(i*4+1)+1+1+1+1 from om,show i*4+1+1+1+1+2=(i*4+2)+1+1+1+1 from om,show i*4+1+1+1+1+3=(i*4+3)+1+1+1+1 from om];simpa using ih
theorem Zk (l:List NV)(x:NV):IV l++x.L=IV (l++ [x]):=by simp [IV]
def tH (l:List NV)(qs:List Rat):Prop:=l.length=qs.length∧∀(i:Nat) (x:NV) (q:Rat),l[i]? =some x→qs[i]? =some q→bO x.v q
theorem tH.nil:tH [] []:=⟨rfl,fun i x q h=>by simp at h⟩
theorem tH.push {l:List NV}{qs:List Rat}(h:tH l qs){x:NV}{q:Rat}(hx:bO x.v q):tH (l++ [x]) (qs++ [q]):=by
 refine⟨by simp [h.1],fun i y p hy hp=> ?_⟩;by_cases hi:i<l.length
 ·rw [List.getElem?_append_left hi]at hy;rw [List.getElem?_append_left (by rw [← h.1];exact hi)]at hp;exact h.2 i y p hy hp
 rw [List.getElem?_append_right om]at hy;rw [List.getElem?_append_right (by rw [← h.1];omega)]at hp;rw [← h.1]at hp;have hz:i-l.length=0:=by
  have:=(List.getElem?_eq_some_iff.1 hy).1;simp at this;exact this
 rw [hz]at hy hp;simp at hy hp;subst hy hp;exact hx
theorem tH.set {l:List NV}{qs:List Rat}(h:tH l qs)(k:Nat){x:NV}{q:Rat}(hx:bO x.v q):tH (l.set k x) (qs.set k q):=by
 refine⟨by simp [h.1],fun i y p hy hp=> ?_⟩;rw [List.getElem?_set]at hy hp;by_cases hik:k=i
 ·subst hik;rw [if_pos rfl]at hy hp;split at hy
  ·rw [if_pos (by rw [← h.1];assumption)]at hp;simp at hy hp;subst hy hp;exact hx
  simp at hy
 rw [if_neg hik]at hy hp;exact h.2 i y p hy hp
theorem tH.zeros (n:Nat):tH (List.replicate n nv0) (List.replicate n 0):=by
 refine⟨sm,fun i x q hx hq=> ?_⟩;obtain⟨h1,rfl⟩:=List.getElem?_eq_some_iff.1 hx;obtain⟨h2,rfl⟩:=List.getElem?_eq_some_iff.1 hq;simp only [List.getElem_replicate];exact sH
theorem tH.at {l:List NV}{qs:List Rat}(h:tH l qs){k:Nat}(hk:k<qs.length):∃x,l[k]? =some x∧bO x.v qs[k]:=by
 have hl:k<l.length:=by rw [h.1];exact hk
 exact⟨l[k],by simp [hl],h.2 k _ _ (by simp [hl]) (by simp [hk])⟩
def Xg (w:World)(b o:Nat)(l:List NV):Prop:=∀(i:Nat) (x:NV),l[i]? =some x→w.cell? ⟨b,o+i*4,none⟩=some (.bool x.nb)∧w.cell? ⟨b,o+i*4+1,none⟩=some (.string x.nS)∧w.cell? ⟨b,o+i*4+2,none⟩=some (.bool x.db)∧w.cell? ⟨b,o+i*4+3,none⟩=some (.string x.dS)
def jQ (w:World)(v:Value)(qs:List Rat):Prop:=
 ∃(oa:Option Addr) (cap:Nat) (l:List NV),v= .slice oa qs.length cap∧qs.length≤cap∧cap≤maxLen∧tH l qs∧(qs≠ []→∃b o,oa=some ⟨b,o,none⟩∧b<w.heap.size∧Xg w b o l)
theorem jQ.keep {w w':World}{v:Value}{qs:List Rat}(h:jQ w v qs)(k:Keep au w w'):jQ w' v qs:=by
 obtain⟨oa,cap,l,h1,h2,h2',h3,h4⟩:=h;refine⟨oa,cap,l,h1,h2,h2',h3,fun hne=> ?_⟩;obtain⟨b,o,e,hb,hc⟩:=h4 hne;exact⟨b,o,e,dJ hb k.size,fun i g hg=>by simp only [k.cell hb];exact hc i g hg⟩
theorem jQ.len {w:World}{v:Value}{qs:List Rat}(h:jQ w v qs):∃oa cap,v= .slice oa qs.length cap∧qs.length≤cap∧cap≤maxLen:=by
 obtain⟨oa,cap,l,h1,h2,h2',_⟩:=h;exact⟨oa,cap,h1,h2,h2'⟩
theorem jQ.at {w:World}{oa:Option Addr}{n cap:Nat}{qs:List Rat}(h:jQ w (.slice oa n cap) qs){k:Nat}(hk:k<qs.length):
  ∃b o,oa=some ⟨b,o,none⟩∧b<w.heap.size∧∃nb nS db dS,w.cell? ⟨b,o+k*4,none⟩=some (.bool nb)∧w.cell? ⟨b,o+k*4+1,none⟩=some (.string nS)∧w.cell? ⟨b,o+k*4+2,none⟩=some (.bool db)∧w.cell? ⟨b,o+k*4+3,none⟩=some (.string dS)∧bO (.agg #[.bool nb,.string nS,.bool db,.string dS]) qs[k]:=by
 obtain⟨XL,cap',l,hv,_,_,hA,h4⟩:=h;cases hv;obtain⟨b,o,e,hb,hc⟩:=h4 (by rintro rfl;simp at hk);obtain⟨x,hx,hn⟩:=hA.at hk;obtain⟨h1,h2,h3,h4⟩:=hc k x hx;exact⟨b,o,e,hb,_,_,_,_,h1,h2,h3,h4,hn⟩
def bE (w:World)(g:Nat)(qs:List Rat):Prop:=∃A:Array Value,∃l:List NV,aL w g A∧tH l qs∧∀(i:Nat) (x:NV),l[i]? =some x→A[i*4]? =some (.bool x.nb)∧A[i*4+1]? =some (.string x.nS)∧A[i*4+2]? =some (.bool x.db)∧A[i*4+3]? =some (.string x.dS)
theorem bE.lt {w:World}{g:Nat}{qs:List Rat}(h:bE w g qs):g<w.heap.size:=by obtain⟨A,l,h,_⟩:=h;exact h.lt
theorem bE.keep {w w':World}{g:Nat}{qs:List Rat}(h:bE w g qs)(k:Keep au w w'):bE w' g qs:=by
 obtain⟨A,l,h,hA⟩:=h;exact⟨A,l,h.keep k,hA⟩
theorem bE.old {w:World}{g:Nat}{qs:List Rat}(h:bE w g qs)(o:Obj):bE (w.alloc o) g qs:=h.keep ((Keep.refl _ _).alloc o)
theorem bE.other {w:World}{g g':Nat}{qs:List Rat}(h:bE w g qs)(i:Nat)(v:Value)(hne:g≠g'):bE (w.setCell ⟨g',i,none⟩ v) g qs:=by
 obtain⟨A,l,h,hA⟩:=h;exact⟨A,l,h.setOther i v hne,hA⟩
theorem bE.at {w:World}{g:Nat}{qs:List Rat}(h:bE w g qs){k:Nat}(hk:k<qs.length):
  ∃nb nS db dS,w.cell? ⟨g,k*4,none⟩=some (.bool nb)∧w.cell? ⟨g,k*4+1,none⟩=some (.string nS)∧w.cell? ⟨g,k*4+2,none⟩=some (.bool db)∧w.cell? ⟨g,k*4+3,none⟩=some (.string dS)∧
   bO (.agg #[.bool nb,.string nS,.bool db,.string dS]) qs[k]∧w.frozen? ⟨g,k*4,none⟩=false∧w.frozen? ⟨g,k*4+1,none⟩=false∧w.frozen? ⟨g,k*4+2,none⟩=false∧w.frozen? ⟨g,k*4+3,none⟩=false:=by
 obtain⟨A,l,h,hA,hc⟩:=h;obtain⟨x,hx,hn⟩:=hA.at hk;obtain⟨h1,h2,h3,h4⟩:=hc k x hx;exact⟨_,_,_,_,by rw [h.cell];exact h1,by rw [h.cell];exact h2,by rw [h.cell];exact h3,by rw [h.cell];exact h4,hn,h.free _,h.free _,h.free _,h.free _⟩
theorem bE.set {w:World}{g:Nat}{qs:List Rat}(h:bE w g qs){k:Nat}{nb:Bool}{nS:ByteArray}{db:Bool}{dS:ByteArray}{q:Rat}(hq:bO (.agg #[.bool nb,.string nS,.bool db,.string dS]) q):
  bE ((((w.setCell ⟨g,k*4,none⟩ (.bool nb)).setCell ⟨g,k*4+1,none⟩ (.string nS)).setCell ⟨g,k*4+2,none⟩ (.bool db)).setCell ⟨g,k*4+3,none⟩ (.string dS)) g (qs.set k q):=by
 obtain⟨A,l,h,hA,hc⟩:=h;refine⟨_,l.set k ⟨nb,nS,db,dS⟩,(((h.set _ _).set _ _).set _ _).set _ _,hA.set k hq,fun i x hx=> ?_⟩;rw [List.getElem?_set]at hx;by_cases hik:k=i
 ·subst hik;rw [if_pos rfl]at hx;split at hx
  ·rename_i hk;simp at hx;subst hx;obtain⟨h1,h2,h3,h4⟩:=hc k l[k] (by simp [hk]);have e1:=(Array.getElem?_eq_some_iff.1 h1).1;have e2:=(Array.getElem?_eq_some_iff.1 h2).1;have e3:=(Array.getElem?_eq_some_iff.1 h3).1;have e4:=(Array.getElem?_eq_some_iff.1 h4).1;refine⟨?_,?_,?_,?_⟩<;>simp [Array.getElem?_setIfInBounds,e1,e2,e3,e4]
  simp at hx
 rw [if_neg hik]at hx;obtain⟨h1,h2,h3,h4⟩:=hc i x hx;refine⟨?_,?_,?_,?_⟩
 ·rw [Array.getElem?_setIfInBounds_ne om,Array.getElem?_setIfInBounds_ne om,Array.getElem?_setIfInBounds_ne om,Array.getElem?_setIfInBounds_ne om];exact h1
 ·rw [Array.getElem?_setIfInBounds_ne om,Array.getElem?_setIfInBounds_ne om,Array.getElem?_setIfInBounds_ne om,Array.getElem?_setIfInBounds_ne om];exact h2
 ·rw [Array.getElem?_setIfInBounds_ne om,Array.getElem?_setIfInBounds_ne om,Array.getElem?_setIfInBounds_ne om,Array.getElem?_setIfInBounds_ne om];exact h3
 rw [Array.getElem?_setIfInBounds_ne om,Array.getElem?_setIfInBounds_ne om,Array.getElem?_setIfInBounds_ne om,Array.getElem?_setIfInBounds_ne om];exact h4
theorem bE.nums {w:World}{g:Nat}{qs:List Rat}(h:bE w g qs){n cap:Nat}(hn:n=qs.length)(h1:qs.length≤cap)(h2:cap≤maxLen):jQ w (.slice (some ⟨g,0,none⟩) n cap) qs:=by
 subst hn;obtain⟨A,l,h,hA,hc⟩:=h;refine⟨_,cap,l,rfl,h1,h2,hA,fun _=>⟨g,0,rfl,h.lt,fun i x hx=> ?_⟩⟩;obtain⟨c0,c1,c2,c3⟩:=hc i x hx;rw [Nat.zero_add];exact⟨by rw [h.cell];exact c0,by rw [h.cell];exact c1,by rw [h.cell];exact c2,by rw [h.cell];exact c3⟩
theorem Q0 {w0 w:World}{b o:Nat}(h:Keep au w0 w)(hb:w0.heap.size≤b)(u v x y:Value):Keep au w0 ((((w.setCell ⟨b,o,none⟩ u).setCell ⟨b,o+1,none⟩ v).setCell ⟨b,o+2,none⟩ x).setCell ⟨b,o+3,none⟩ y):=
 (((h.setCell _ (fun h=>absurd h om)).setCell _ (fun h=>absurd h om)).setCell _ (fun h=>absurd h om)).setCell _ (fun h=>absurd h om)
theorem aL.otherN {w:World}{b b' o:Nat}{A:Array Value}(h:aL w b A)(hne:b≠b')(p q r s:Value):aL ((((w.setCell ⟨b',o,none⟩ p).setCell ⟨b',o+1,none⟩ q).setCell ⟨b',o+2,none⟩ r).setCell ⟨b',o+3,none⟩ s) b A:=
 (((h.setOther _ _ hne).setOther _ _ hne).setOther _ _ hne).setOther _ _ hne
theorem bE.otherN {w:World}{b b' o:Nat}{qs:List Rat}(h:bE w b qs)(hne:b≠b')(p q r s:Value):bE ((((w.setCell ⟨b',o,none⟩ p).setCell ⟨b',o+1,none⟩ q).setCell ⟨b',o+2,none⟩ r).setCell ⟨b',o+3,none⟩ s) b qs:=
 (((h.other _ _ hne).other _ _ hne).other _ _ hne).other _ _ hne
abbrev Xh:TypeId:=93
theorem Qt:(Tryz.prog.info? Xh).map (fun i=>(i.zero,i.size,i.bytes))=some (some (.agg #[.bool false,.string ⟨#[]⟩,.bool false,.string ⟨#[]⟩]),4,48):=kr
def nO (w:World)(base:Nat)(v:Value)(qs:List Rat):Prop:=∃l,tH l qs∧w.ownsRow base Xh 4 v l.length (IV l)
theorem nO.nil (w:World)(base:Nat):nO w base (.slice none 0 0) []:=⟨[],tH.nil,World.ownsRow_nil _ _ _ _⟩
theorem nO.block {w:World}{base:Nat}{v:Value}{qs:List Rat}(h:nO w base v qs):∀k,v.ownBlock=some k→base≤k:=by
 obtain⟨l,_,h⟩:=h;exact fun k hk=>(World.ownsRow.lt h k hk).1
theorem nO.keep {w w':World}{base:Nat}{v:Value}{qs:List Rat}(h:nO w base v qs)(k:Keep au w w'):nO w' base v qs:=by
 obtain⟨l,hA,hl,h | ⟨g,cap,cur,hv,hb,hg,hl',hm,hs,ht⟩⟩:=h
 ·exact ⟨l,hA,hl,.inl h⟩
 exact⟨l,hA,hl,.inr ⟨g,cap,cur,hv,hb,by rw [k.block g (lt_of_heap hg) fun _ h=>h];exact hg,hl',hm,hs,ht⟩⟩
theorem nO.len {w:World}{base:Nat}{v:Value}{qs:List Rat}(h:nO w base v qs):∃oa cap,v= .slice oa qs.length cap:=by
 obtain⟨l,hA,hl,h | ⟨g,cap,cur,hv,hb,hg,hl',hm,hs,ht⟩⟩:=h
 ·obtain ⟨rfl,h0⟩:=h;exact⟨none,0,by rw [← hA.1,h0]⟩
 exact⟨_,cap,by rw [hv,hA.1]⟩
theorem nO.cells {w:World}{base g cap m:Nat}{l:List NV}(h:w.ownsRow base Xh 4 (.slice (some ⟨g,0,none⟩) m cap) m (IV l)):Xg w g 0 l:=by
 intro i x hx;obtain⟨c0,c1,c2,c3⟩:=tF l i x hx;have hc:=fun j u=>h.cells (g:=g) rfl j u;have e:∀j,(⟨g,0,none⟩:Addr).add j=⟨g,0+j,none⟩:=fun j=>add_plain g 0 j;refine⟨?_,?_,?_,?_⟩
 ·rw [← hc _ _ c0,e]
 ·rw [← hc _ _ c1,e,←Nat.add_assoc]
 ·rw [← hc _ _ c2,e,←Nat.add_assoc]
 rw [← hc _ _ c3,e,←Nat.add_assoc]
theorem nO.nums {w:World}{base:Nat}{v:Value}{qs:List Rat}(h:nO w base v qs):jQ w v qs:=by
 obtain⟨l,hA,hl,h | ⟨g,cap,cur,hv,hb,hg,hl',hm,hs,ht⟩⟩:=h
 ·obtain ⟨rfl,h0⟩:=h;have:qs= []:=List.eq_nil_of_length_eq_zero (by rw [← hA.1,h0]);subst this;exact⟨none,0,l,rfl,sm,sm,hA,fun h=>absurd rfl h⟩
 refine⟨_,cap,l,by rw [hv,hA.1],by rw [← hA.1];exact hl',hm,hA,fun _=>⟨g,0,rfl,lt_of_heap hg,?_⟩⟩;exact nO.cells (base:=base) (m:=l.length) (cap:=cap) ⟨hl,.inr ⟨g,cap,cur,rfl,hb,hg,hl',hm,hs,ht⟩⟩
theorem xK {w:World}{base g cap m:Nat}{l:List NV}{qs:List Rat}(hA:tH l qs)(h:w.ownsRow base Xh 4 (.slice (some ⟨g,0,none⟩) m cap) m (IV l)):bE w g qs:=by
 obtain⟨hl,h | ⟨g',cap',cur,hv,hb,hg,hl',hm,hs,ht⟩⟩:=h
 ·obtain ⟨h,_⟩:=h;cases h
 cases hv;refine⟨cur,l,⟨_,hg⟩,hA,fun i x hx=> ?_⟩;have hil:i<l.length:=(List.getElem?_eq_some_iff.1 hx).1;rw [IW]at hl;have hc:∀j u,j<4→(IV l)[i*4+j]? =some u→cur[i*4+j]? =some u:=by
  intro j u hj hu;rw [← ht,List.getElem?_take,if_pos om]at hu;simpa using hu
 obtain⟨c0,c1,c2,c3⟩:=tF l i x hx;exact⟨hc 0 _ om c0,hc 1 _ om c1,hc 2 _ om c2,hc 3 _ om c3⟩
theorem nO.blk {w:World}{base:Nat}{v:Value}{qs:List Rat}(h:nO w base v qs)(h0:qs≠ []):∃g cap,v= .slice (some ⟨g,0,none⟩) qs.length cap∧base≤g∧bE w g qs∧qs.length≤cap∧cap≤maxLen:=by
 obtain⟨l,hA,hl,h | ⟨g,cap,cur,hv,hb,hg,hl',hm,hs,ht⟩⟩:=h
 ·obtain ⟨rfl,h1⟩:=h;exact absurd (List.eq_nil_of_length_eq_zero (by rw [← hA.1,h1])) h0
 exact⟨g,cap,by rw [hv,hA.1],hb,xK (base:=base) (m:=l.length) (cap:=cap) hA ⟨hl,.inr ⟨g,cap,cur,rfl,hb,hg,hl',hm,hs,ht⟩⟩,by rw [← hA.1];exact hl',hm⟩
theorem nO.grown0 {w w':World}{base:Nat}{v:Value}{qs:List Rat}{row:Option Nat}(h:nO w base v qs)(hg:w.grownBy w' row)(hr:∀k,v.ownBlock=some k→some k≠row):nO w' base v qs:=by
 obtain⟨l,hA,hl,h | ⟨g,cap,cur,hv,hb,hgg,hl',hm,hs,ht⟩⟩:=h
 ·exact ⟨l,hA,hl,.inl h⟩
 exact⟨l,hA,hl,.inr ⟨g,cap,cur,hv,hb,by rw [hg.block g (lt_of_heap hgg) (hr g (by rw [hv];rfl))];exact hgg,hl',hm,hs,ht⟩⟩
theorem Zl {w:World}{base:Nat}{v:Value}{qs:List Rat}(hown:nO w base v qs){b:Nat}{x:NV}{q:Rat}(hb:aL w b #[.bool x.nb,.string x.nS,.bool x.db,.string x.dS])(hx:bO x.v q)(hl:(qs.length+1)*48≤140737488355328)(hbase:base≤w.heap.size):
  ∃v' w',(Builtin.append_ #[64,64] 64 #[v,.slice (some ⟨b,0,none⟩) 1 1]).run Tryz.prog w= .ok v' w'∧nO w' base v' (qs++ [q])∧w.grownBy w' v.ownBlock:=by
 obtain⟨i0,hi0,hz0,hz1,hz2⟩:=info_parts Qt;obtain⟨l,hA,hown⟩:=hown;have hlen:=hA.1;obtain⟨v',w',hr,ho,hg⟩:=sJ (P:=Tryz.prog) (w:=w) (ty:=64) Tryz.underlying64 hi0 hz0 hz1 hz2 rfl dc base v l.length (IV l) hown (some ⟨b,0,none⟩) 1 1 x.L (by simp [NV.L])
  (fun _=>⟨_,rfl,fun j u hj=>by rw [add_plain,Nat.zero_add,hb.cell j];simpa [NV.L]using hj⟩) (by intro u hu;simp [NV.L]at hu;rcases hu with rfl | rfl | rfl | rfl<;>rfl) (by unfold maxLen;omega) (by rw [hlen];exact hl) hbase
 exact⟨v',w',hr,⟨l++ [x],hA.push hx,by rw [← Zk,List.length_append];exact ho⟩,hg⟩
theorem Tj (n:Nat):(madeCells (Value.agg #[.bool false,.string ⟨#[]⟩,.bool false,.string ⟨#[]⟩]).cells (n*4)).toList=IV (List.replicate n nv0):=by
 apply List.ext_getElem?;intro i;by_cases hi:i<n*4
 ·obtain ⟨k,j,hj,rfl⟩:∃k j,j<4∧i=k*4+j:=⟨i/4,i%4,om,om⟩;have hk:k<n:=om;obtain⟨c0,c1,c2,c3⟩:=tF (List.replicate n nv0) k nv0 (by simp [hk]);have hm:(k*4+j)%4=j:=om;obtain rfl | rfl | rfl | rfl:j=0∨j=1∨j=2∨j=3:=om
  ·rw [Nat.add_zero]at *;rw [c0];simp [madeCells,Value.cells,hi,hm,nv0]
  ·rw [c1];simp [madeCells,Value.cells,hi,hm,nv0]
  ·rw [c2];simp [madeCells,Value.cells,hi,hm,nv0]
  rw [c3];simp [madeCells,Value.cells,hi,hm,nv0]
 rw [List.getElem?_eq_none (by simp [madeCells];omega),List.getElem?_eq_none (by rw [IW];simp;omega)]
theorem Ai (w:World)(n:Nat)(hn:n≤1000000):∃w',(Instr.makeSlice 64 (.int .i64 (n:Int)) (.int .i64 (n:Int))).run Tryz.prog w= .ok (.slice (some ⟨w.heap.size,0,none⟩) n n) w'∧bE w' w.heap.size (List.replicate n 0)∧Keep au w w':=by
 obtain⟨i0,hi0,hz0,hz1,hz2⟩:=info_parts Qt;obtain⟨w',hr,ho,hg⟩:=run_make_full (P:=Tryz.prog) w w.heap.size 64 Xh i0 (.agg #[.bool false,.string ⟨#[]⟩,.bool false,.string ⟨#[]⟩]) 4 Tryz.underlying64 hi0 hz0 hz1 .i64 .i64 n (by rw [hz2];omega) (by unfold maxLen;omega) (Nat.le_refl _);rw [Tj]at ho;exact⟨w',hr,xK (tH.zeros n) ho,Keep.of_below (dH hg w.heap.size (Nat.le_refl _) sm) (Nat.le_refl _)⟩
theorem nH {q:Rat}(h:q=0):q.num.sign=0:=by subst h;rfl
theorem nJ {q:Rat}(h:¬q=0):q.num.sign≠0:=fun h0=>h (by rwa [Int.sign_eq_zero_iff_zero,Rat.num_eq_zero]at h0)
theorem mg {v:Value}{q:Rat}(h:bO v q)(w:World):Calls Tryz.prog 43 #[v] w fun e w'=>e= .returned (.int .i64 q.num.sign)∧Keep au w w':=by
 obtain⟨d,rfl,_⟩:=h;exact Et w q.num d
def Gf (rows:List Rw)(ts:List Rat)(k:Nat):Nat→Rat
 | 0=>0
 | i+1=>Gf rows ts k i+((rows.getD i bG).of.getD k 0:Rat)*ts.getD i 0
def Uk (rows:List Rw)(ts:List Rat):Nat→Rat
 | 0=>0
 | i+1=>Uk rows ts i+((rows.getD i bG).to:Rat)*ts.getD i 0
def uO (rows:List Rw)(ts:List Rat):Nat→Bool
 | 0=>false
 | i+1=>uO rows ts i || (decide ((rows.getD i bG).kind=2)&&decide (ts.getD i 0≠0))
section
variable {rows:List Rw} {ts:List Rat} {N i k:Nat}
theorem mV {i:Nat}(hi:i<rows.length):rows.getD i bG=rows[i]:=by
 rw [dX,fG hi];rfl
theorem JZ {i:Nat}(hi:rows.length≤i):rows.getD i bG=bG:=by
 rw [dX,List.getElem?_eq_none hi];rfl
theorem Fh {l:List Int}{i:Nat}(h:l.length≤i):l.getD i 0=0:=by rw [dX,List.getElem?_eq_none h];rfl
theorem yK:bZ 0:=by unfold bZ;omega
theorem Jz {n:Int}(hr:∀r∈rows,eD r n)(i k:Nat):bZ ((rows.getD i bG).of.getD k 0)∧bZ (rows.getD i bG).to:=by
 by_cases hi:i<rows.length
 ·rw [mV hi];have h:=hr _ (List.getElem_mem hi);refine⟨?_,h.fto⟩;by_cases hk:k<rows[i].of.length
  ·rw [dX,fG hk];exact h.fit _ (List.getElem_mem hk)
  rw [Fh om];exact yK
 rw [JZ om];refine⟨?_,yK⟩;show bZ (([]:List Int).getD k 0);rw [Fh sm];exact yK
theorem wC {x:Int}(h:bZ x):NB 1 (x:Rat):=jv (by unfold bZ at h;omega)
theorem zaf (ht:∀q∈ts,NB 1 q)(i:Nat):NB 1 (ts.getD i 0):=by
 by_cases hi:i<ts.length
 ·rw [dX,fG hi];exact ht _ (List.getElem_mem hi)
 rw [dX,List.getElem?_eq_none om];exact jJ
theorem Xi {n:Int}(hr:∀r∈rows,eD r n)(ht:∀q∈ts,NB 1 q)(k:Nat):∀i,NB (3*i+1) (Gf rows ts k i)
 | 0=>jJ
 | i+1=>((Xi hr ht k i).add ((wC (Jz hr i k).1).mul (zaf ht i))).mono om
theorem zah {n:Int}(hr:∀r∈rows,eD r n)(ht:∀q∈ts,NB 1 q):∀i,NB (3*i+1) (Uk rows ts i)
 | 0=>jJ
 | i+1=>((zah hr ht i).add ((wC (Jz hr i 0).2).mul (zaf ht i))).mono om
end
def wW (rows:List Rw)(ts:List Rat):Nat→Bool
 | 0=>true
 | i+1=>wW rows ts i&&(decide ((rows.getD i bG).kind=3) || decide (0≤ts.getD i 0))
def oC (rows:List Rw)(ts:List Rat):Nat→Bool
 | 0=>true
 | k+1=>oC rows ts k&&decide (Gf rows ts k rows.length=0)
def Zm (rows:List Rw)(ts:List Rat):Bool:=decide (Uk rows ts rows.length<0) || (decide (Uk rows ts rows.length=0)&&uO rows ts rows.length)
def Xj (rows:List Rw)(ts:List Rat)(N:Nat):Bool:=wW rows ts rows.length&&(oC rows ts N&&Zm rows ts)
theorem Ic {q:Rat}:q.num.sign<0↔q<0:=by
 rw [show q.num.sign<0↔¬0≤q.num.sign from om,Int.sign_nonneg_iff,Rat.num_nonneg,Rat.not_le]
theorem ML {g:Fq}(h:dW g.N g.D):0≤g.q↔0≤g.N:=Rat.divInt_nonneg_iff_of_pos_right (by have:=h.1;omega)
theorem Ie {rows:List Rw}{ts:List Rat}{k:Nat}(h:wW rows ts k=false):∀j,wW rows ts (k+j)=false
 | 0=>h
 | j+1=>by show wW rows ts (k+j+1)=false;simp only [wW];rw [Ie h j];rfl
theorem sign_neg {q:Rat}(h:q<0):q.num.sign= -1:=by rw [Int.sign_eq_neg_one_iff_neg];have:=(Ic (q:=q)).2 h;rcases Int.lt_trichotomy q.num 0 with h | h | h<;>simp_all [Int.sign_eq_one_of_pos]
theorem Tk {q:Rat}(h:0<q):q.num.sign=1:=by
 have h1:¬q.num.sign<0:=fun h0=>by have:=Ic.1 h0;grind
 have h2:q.num.sign≠0:=nJ (by grind);rcases Int.lt_trichotomy q.num 0 with h | h | h
 ·rw [Int.sign_eq_neg_one_of_neg h]at h1;omega
 ·rw [h]at h2;simp at h2
 exact Int.sign_eq_one_of_pos h
theorem Fj {l:List Fq}{i:Nat}(h:i<l.length):(l.map Fq.q).getD i 0=(l[i]).q:=by
 rw [dX,List.getElem?_map,fG h];rfl
end Go.Proofs.YtaiffmebphhdaaaGreat
