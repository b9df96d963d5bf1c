/- Package lattice's check: what is wrong with equations. -/
import Derived.Test.YtcnjcnjipddgeaaGreatFkAA
import Derived.Test.YtcnjcnjipddgeaaGreatFkAA
namespace Go.Proofs.YtcnjcnjipddgeaaGreat
set_option maxRecDepth 100000
set_option maxHeartbeats 8000000
set_option linter.unusedSimpArgs false
set_option linter.unusedVariables false
open Go.ChangeShapes Go.WideShapes Go.RowKit
def firstK:List Rw→Nat→Int × Int
 | [],_=>(0,0)
 | r::l,i=>if r.kind=3 then firstK l (i+1)else(4,i)
theorem firstK_in {l:List Rw}{k i:Nat}(hk:k<l.length)(h:l[k].kind=3):firstK (l.drop k) i=firstK (l.drop (k+1)) (i+1):=by
 rw [List.drop_eq_getElem_cons hk,firstK,if_pos h]
theorem firstK_out {l:List Rw}{k i:Nat}(hk:k<l.length)(h:¬l[k].kind=3):firstK (l.drop k) i=(4,(i:Int)):=by
 rw [List.drop_eq_getElem_cons hk,firstK,if_neg h]
theorem firstK_end {l:List Rw}{k i:Nat}(hk:l.length≤k):firstK (l.drop k) i=(0,0):=by
 rw [List.drop_eq_nil_of_le hk];rfl
theorem firstK_all:∀ {l:List Rw} {i:Nat},(firstK l i).1=0→firstK l i=(0,0)∧∀r∈l,r.kind=3
 | [],_,_=>⟨rfl,fun _ h=>by cases h⟩
 | g::l,i,h=>by
  unfold firstK at h ⊢
  by_cases hg:g.kind=3
  ·rw [if_pos hg]at h ⊢
   obtain⟨h1,h2⟩:=firstK_all h;refine⟨h1,fun x hx=> ?_⟩
   rcases List.mem_cons.1 hx with rfl | hx
   ·exact hg
   ·exact h2 x hx
  ·rw [if_neg hg]at h;simp at h
theorem firstK_code:∀ {l:List Rw} {i:Nat},(firstK l i=(0,0))∨((firstK l i).1=4∧0≤(firstK l i).2)
 | [],_=> .inl rfl
 | g::l,i=>by
  unfold firstK
  by_cases h:g.kind=3
  ·rw [if_pos h];exact firstK_code
  ·rw [if_neg h];exact .inr ⟨rfl,by simp⟩
def kAt (l:List Rw):Int:=if(firstK l 0).1=0 then -1 else(firstK l 0).2
theorem kAt_neg {l:List Rw}(h:kAt l<0):firstK l 0=(0,0):=by
 rcases firstK_code (l:=l) (i:=0)with h1 | ⟨h1,h2⟩
 ·exact h1
 ·unfold kAt at h;rw [if_neg (by omega)]at h;omega
theorem kAt_pos {l:List Rw}(h:0≤kAt l):firstK l 0=(4,kAt l):=by
 rcases firstK_code (l:=l) (i:=0)with h1 | ⟨h1,h2⟩
 ·unfold kAt at h;rw [h1]at h;simp at h
 ·unfold kAt;rw [if_neg (by omega),←h1]
theorem kAt_eq {l:List Rw}{c:Int × Int}(h:firstK l 0=c):kAt l=if c.1=0 then -1 else c.2:=by unfold kAt;rw [h]
def eqF (rows:List Rw)(n:Int):Int × Int:=if(listF rows n).1≠0 then listF rows n else firstK rows 0
theorem kindClo_any (w:World)(sv:Value)(k t:Int)(os:Option Addr)(ns cs:Nat)(h:sv= .slice os ns cs):Calls Tryz.prog 40 #[.agg #[sv,.int .i64 k,.int .i64 t]] w fun e w'=>e= .returned (.bool (!decide (k=3)))∧Keep NoS w w':=by
 subst h
 by_cases hx:k=3
 ·rw [decide_eq_true hx]
  subst hx;go_enter Tryz.func40,Tryz.ntmps40;go_wp2;go_ret;exact⟨rfl,kp⟩
 ·rw [decide_eq_false hx]
  have e1:(k != 3)=true:=by rw [bne_iff_ne];exact hx
  go_enter Tryz.func40,Tryz.ntmps40;go_wp2;go_ret;exact⟨rfl,kp⟩
theorem indexKind_any (w:World)(v:Value)(l:List Rw)(h:IsRows w v l):
  Calls Tryz.prog 39 #[v,.func (.func 40) #[] #[]] w fun e w'=>e= .returned (.int .i64 (kAt l))∧Keep NoS w w':=by
 have HN:=zh h;obtain⟨oa,ca,rfl,hca,hma⟩:=h.len;unfold maxLen at hma;clear h;go_enter Tryz.func39,Tryz.ntmps39;go_wp2;go_loopw [8] (fun s wr=>∃k:Nat,k≤l.length∧s= .int .i64 k∧firstK l 0=firstK (l.drop k) k∧Keep NoS w wr) (fun s _=>(l.length-intOf s).toNat)
 case atStart=>exact⟨0,by omega,rfl,rfl,Keep.refl _ _⟩
 case round=>
  obtain⟨k,hk,rfl,hf,hkr⟩:=hrel;have HF:=zh hf;have HKR:=zh hkr;clear hf hkr
  by_cases hkl:k<l.length
  ·have hlt:(k:Int)<(l.length:Int):=by omega
   obtain⟨b,o,rfl,hbl,hrow⟩:=(HN.out.keep HKR.out).at hkl;obtain⟨os,cs,p0,p1,p2,_⟩:=hrow.row;have hIN:=fun h=>firstK_in (i:=k) hkl h
   have hOUT:=fun h=>firstK_out (i:=k) hkl h
   generalize l[k]=r at *;have CC:=fun w=>zh (kindClo_any w _ r.kind r.to os r.of.length cs rfl)
   clear hrow
   by_cases hx:r.kind=3
   ·have HNX:=zh (HF.out.trans (hIN hx))
    rw [decide_eq_true hx]at CC;clear hx hIN hOUT HF;go_wp2_with fail;refine(CC _).out.mono ?_;rintro e w4 ⟨rfl,hk4⟩;have K4:=zh (HKR.out.both hk4);clear hk4 p0 p1 p2;go_wp2;go_roundw
    case rel=>exact⟨k+1,by omega,by go_num,HNX.out,K4.out⟩
    case measure=>simp [intOf];omega
   ·have HNX:=zh (kAt_eq (HF.out.trans (hOUT hx)))
    rw [decide_eq_false hx]at CC;clear hx hIN hOUT HF;go_wp2_with fail;refine(CC _).out.mono ?_;rintro e w4 ⟨rfl,hk4⟩;have K4:=zh (HKR.out.both hk4);clear hk4 p0 p1 p2;go_wp2;go_ret;exact⟨by rw [HNX.out];rfl,K4.out⟩
  ·have hlt:¬(k:Int)<(l.length:Int):=by omega
   have HNX:=zh (kAt_eq (HF.out.trans (firstK_end (i:=k) (by omega))))
   clear HF;go_wp2;go_ret;exact⟨by rw [HNX.out];rfl,HKR.out⟩
theorem latChk_any (w:World)(v:Value)(rows:List Rw)(n:Int)(h:IsRows w v rows)(hn:I64 n):
  Calls Tryz.prog 16 #[v,.int .i64 n] w fun e w'=>e= .returned (fV (eqF rows n))∧Keep NoS w w':=by
 have CH:=fun w' (k:Keep NoS w w')=>zh (rowList_any w' v rows n (h.keep k) hn)
 have CI:=fun w' (k:Keep NoS w w')=>zh (indexKind_any w' v rows (h.keep k))
 obtain⟨oa,ca,rfl,hca,hma⟩:=h.len;unfold maxLen at hma;have HP:Hid (eqF rows n=if(listF rows n).1≠0 then listF rows n else firstK rows 0):=zh rfl
 generalize eqF rows n=pf at *;generalize listF rows n=c at *;obtain⟨c1,c2⟩:=c;unfold fV at CH ⊢;simp only at CH HP;clear h;go_enter Tryz.func16,Tryz.ntmps16;go_wp2_with fail;refine(CH _ kp).out.mono ?_;rintro e w1 ⟨rfl,hk1⟩;have B6:Blk w1 w.heap.size #[.int .i64 0,.int .i64 0]:=Blk.keep kb hk1;have K1:Hid (Keep NoS w w1):=zh (Keep.both kp hk1);have HB6:=zh B6;clear hk1 CH B6;generalize hb6:w.heap.size=b6 at HB6 ⊢;have HS6:Hid (w.heap.size≤b6):=zh (by omega)
 clear hb6
 by_cases hc:c1=0
 ·have hcc:=HP.out
  rw [if_neg (by simp [hc])]at hcc
  have HP2:=zh hcc;clear hcc HP;subst hc;go_wp2_with fail;refine(CI _ (K1.out.alloc _)).out.mono ?_;rintro e w2 ⟨rfl,hk2⟩;have k2:Keep NoS w1 w2:=Keep.trans kp hk2 fun _ _ _ h=>h
  have K2:=zh (K1.out.both k2);have HB2:=zh (HB6.out.keep k2);clear hk2 k2 CI;obtain⟨r0,r1,f0,f1,rl⟩:=HB2.out.two
  by_cases hz:0≤kAt rows
  ·have HE:=zh (HP2.out.trans (kAt_pos hz))
   generalize kAt rows=z at *;go_wp2;refine bodyPost_ret (by simp [results,Tryz.results16,go_sem,r0,r1,rl];rfl) rfl ?_
   exact⟨by rw [HE.out],keep_set2 K2.out HS6.out _ _⟩
  ·have HE:=zh (HP2.out.trans (kAt_neg (by omega)))
   generalize kAt rows=z at *;go_wp2;refine bodyPost_ret (by simp [results,Tryz.results16,go_sem,r0,r1,rl];rfl) rfl ?_
   exact⟨by rw [HE.out],keep_set2 K2.out HS6.out _ _⟩
 ·have e1:(c1 != 0)=true:=by rw [bne_iff_ne];exact hc
  have hcc:=HP.out;rw [if_pos (by exact hc)]at hcc
  subst hcc;obtain⟨r0,r1,f0,f1,rl⟩:=HB6.out.two;have hn1:¬b6=w1.heap.size:=by omega
  go_wp2;refine bodyPost_ret (by simp [results,Tryz.results16,go_sem,r0,r1,rl,hn1];rfl) rfl ?_
  have HK:=K1;have hs6:=HS6.out;exact⟨rfl,kp⟩
end Go.Proofs.YtcnjcnjipddgeaaGreat
