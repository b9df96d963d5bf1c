/- The law LatticeAll: its walk. -/
import Derived.Test.YtcnjcnjipddgeaaGreatLcK
import Derived.Test.YtcnjcnjipddgeaaGreatLdP
import Derived.Test.YtcnjcnjipddgeaaGreatLsA
import Derived.Test.YtcnjcnjipddgeaaGreatLsB
import Derived.Test.YtcnjcnjipddgeaaGreatWpA
import Derived.Test.YtcnjcnjipddgeaaGreatFkG
namespace Go.Proofs.YtcnjcnjipddgeaaGreat
set_option maxRecDepth 100000
set_option maxHeartbeats 32000000
set_option linter.unusedSimpArgs false
set_option linter.unusedVariables false
open Go.ChangeShapes Go.WideShapes Go.RowKit
theorem wrap_step (p q:Int):IntKind.i64.wrap (IntKind.i64.wrap p+q)=IntKind.i64.wrap (p+q):=by
 rw [IntKind.wrap_i64,IntKind.wrap_i64,IntKind.wrap_i64];omega
def madeP (a:List Int)(ways:List (List Int))(ts:List Int)(j k:Nat):Int:=a.getD j 0+sZ k fun i=>ts.getD i 0*(ways.getD i []).getD j 0
theorem madeP_succ (a:List Int)(ways:List (List Int))(ts:List Int)(j k:Nat):madeP a ways ts j (k+1)=madeP a ways ts j k+ts.getD k 0*(ways.getD k []).getD j 0:=by
 unfold madeP;simp only [sZ];omega
theorem getD_at {l:List Int}{k:Nat}(h:k<l.length):l.getD k 0=l[k]:=by rw [List.getD_eq_getElem?_getD,List.getElem?_eq_getElem h];rfl
theorem getD_atL {l:List (List Int)}{k:Nat}(h:k<l.length):l.getD k []=l[k]:=by rw [List.getD_eq_getElem?_getD,List.getElem?_eq_getElem h];rfl
theorem mul_i64 {t y:Int}(ht:fitI t)(hy:fitI y):IntKind.i64.wrap (t*y)=t*y:=by
 obtain⟨h1,h2⟩:=ht;obtain⟨h3,h4⟩:=hy;have:(t*y).natAbs≤1073741824*1073741824:=by
  rw [Int.natAbs_mul];exact Nat.mul_le_mul (by omega) (by omega)
 exact Go.IntWalk.i64_in _ (by omega)
theorem latticeAll_run (w:World)(oa:Option Addr)(m ca:Nat)(n:Int)(vn:Value)(nums:List Int)(hn:I64 n)(hp:IsInts w vn nums)(hl:nums.length≤1048576)
  (y:Bool) (a:List Int) (ways:List (List Int)) (why:List Fq) (c1 c2:Int) (ab bb:Bool)
  (CD:∀w',Keep NoS w w'→Hid (Calls Tryz.prog 6 #[.slice oa m ca,.int .i64 n] w' fun e w''=>∃va vw vy,e= .returned (.tuple #[.bool y,va,vw,vy,.agg #[.int .i64 c1,.int .i64 c2]])∧OwnI w'' w'.heap.size va a∧OwnW w'' w'.heap.size vw ways∧OwnF w'' w'.heap.size vy why∧Keep NoS w' w''))
  (HF:c1≠0→y=false) (hbb:wpB nums nums.length=bb)
  (CA:∀w' u,Keep NoS w w'→IsFracs w' u (wpF nums nums.length)→Hid (Calls Tryz.prog 13 #[.slice oa m ca,u] w' fun e w''=>e= .returned (.bool ab)∧Keep NoS w' w''))
  (HY:c1=0→(nums.length:Int)=n→bb=true→ab=true→y=true)
  (HL:y=true→a.length≤12∧(∀x∈a,fitI x)∧ways.length≤a.length∧(∀u∈ways,u.length=a.length∧∀x∈u,fitI x)∧n=(a.length:Int))
  (HM:y=true→(nums.length:Int)=n→bb=true→ab=true→(∀k,k<a.length→fitI (nums.getD k 0-a.getD k 0))→∃z ts more why2 mm d1 d2,ltR (alongL ways a nums) (ways.length:Nat)=⟨z,ts,more,why2,mm⟩∧ltE (alongL ways a nums) (ways.length:Nat)=(d1,d2)∧(d1=10∨d1=0∧z=true∧ts.length=ways.length∧more= []∧(∀x∈ts,fitI x)∧∀j,j<a.length→madeP a ways ts j ways.length=nums.getD j 0)):
  Calls Tryz.prog 4 #[.slice oa m ca,.int .i64 n,vn] w fun e w'=>e= .returned (.bool true)∧Keep NoS w w':=by
 have HP:=zh hp;have HNF:Hid (bb=true→∀x∈nums,fitI x):=zh (by
  intro hb x hx;rw [← hbb]at hb;unfold wpB at hb;rw [List.take_length]at hb;exact of_decide_eq_true (List.all_eq_true.1 hb x hx))
 have CW:=fun w' (k:Keep NoS w w')=>zh (wholePoint_any w' vn nums (hp.keep k) hl)
 rw [hbb]at CW;obtain⟨on,cn,rfl,_⟩:=hp.len;obtain⟨T,hT⟩:∃T,nums.length=T:=⟨_,rfl⟩;have HNL:=zh hT;rw [hT]at CW CA HP hl HY HM ⊢;have HF:=zh HF;have HY:=zh HY;have HL:=zh HL;have HM:=zh HM;clear hbb hp hT;go_enter Tryz.func4,Tryz.ntmps4;go_wp2_with fail;refine(latticeFact_any _).mono ?_;rintro e w1 ⟨rfl,hk1⟩;have K1:=zh hk1;clear hk1;go_wp2_with fail;refine(CD _ K1.out).out.mono ?_;rintro e w2 ⟨va,vw,vy,rfl,ha,hw,hy,hk2⟩;obtain⟨oA,cA,rfl⟩:=ha.len;obtain⟨oW,cW,rfl,_,_⟩:=hw.len;obtain⟨oY,cY,rfl,_,_⟩:=hy.len;have HA0:=zh ha;have HW0:=zh hw;have K2:=zh (K1.out.both hk2);have ka:Keep NoS w2 (w2.alloc (.cells #[.int .i64 c1,.int .i64 c2] 28)):=(Keep.refl _ _).alloc _;have Hb12:Hid (Blk (w2.alloc (.cells #[.int .i64 c1,.int .i64 c2] 28)) w2.heap.size #[.int .i64 c1,.int .i64 c2]):=zh (blk_at _ _ rfl);have K3:=zh (K2.out.both ka);have HA0:=zh (HA0.out.keep ka);have HW0:=zh (HW0.out.keep ka);go_upto_region 5 with fail
 clear ka CD ha hw hy hk2 K1 K2;generalize w2.heap.size=b12 at *;generalize w2.alloc (.cells #[.int .i64 c1,.int .i64 c2] 28)=w3 at *;obtain⟨p0,p1,_,_,pl⟩:=Hb12.out.two
 by_cases hc:c1=0
 case neg=>
  have hy:=HF.out hc;have e1:(c1 != 0)=true:=by rw [bne_iff_ne];exact hc
  subst hy;clear HY HL HM HF hc;go_wp2;go_ret;exact⟨rfl,K3.out⟩
 case pos=>
  subst hc;have HY:=zh (HY.out rfl);clear HF;go_wp2_with fail;refine(CW _ K3.out).out.mono ?_;rintro e w4 ⟨u,rfl,hu,hk4⟩;obtain⟨ou,lu,cu,hue⟩:∃o l c,u= .slice o l c:=by obtain⟨o,c,h,_⟩:=hu.len;exact⟨o,_,c,h⟩
  subst hue;have K4:=zh (K3.out.both hk4);have HA0:=zh (HA0.out.keep hk4);have HW0:=zh (HW0.out.keep hk4);clear CW hk4 p0 p1 pl Hb12 K3
  by_cases hln:(T:Int)=n
  case neg=>
   have e1:((T:Int) != n)=true:=by rw [bne_iff_ne];exact hln
   clear HY HL HM hu hln CA;go_wp2;go_ret;exact⟨rfl,K4.out⟩
  case pos=>
   subst hln
   cases bb with
   | false=>
    clear HY HL HM hu CA;go_wp2;go_ret;exact⟨rfl,K4.out⟩
   | true=>
    rw [if_pos rfl]at hu;have CAY:=CA w4 _ K4.out hu;clear CA hu;go_wp2_with fail;refine CAY.out.mono ?_;rintro e w5 ⟨rfl,hk5⟩;have K5:=zh (K4.out.both hk5);have HA0:=zh (HA0.out.keep hk5);have HW0:=zh (HW0.out.keep hk5);clear CAY hk5 K4
    cases ab with
    | false=>
     clear HY HL HM;go_wp2;go_ret;exact⟨rfl,K5.out⟩
    | true=>
     obtain rfl:y=true:=by have h:=HY.out;simp at h;exact h
     obtain⟨hN12,haf,hwl,hww,hTa⟩:=HL.out (by simp)
     have hTa:T=a.length:=by omega
     subst hTa;have HM:=zh (HM.out (by simp) (by simp) (by simp) (by simp))
     have HNF:=zh (HNF.out (by simp))
     have HA:=zh (HA0.out.ints fun x hx=>fit_i64 (haf x hx))
     have HW:=zh (HW0.out.ways fun u hu x hx=>fit_i64 ((hww u hu).2 x hx))
     obtain⟨N,hN⟩:∃N,a.length=N:=⟨_,rfl⟩;obtain⟨M,hM⟩:∃M,ways.length=M:=⟨_,rfl⟩;have HAL:=zh hN;have HML:=zh hM;have HP5:=zh (HP.out.keep K5.out);have CS:=zh (shapes_yes w5 N _ _ a ways HA.out HW.out (by omega) hN (by omega) haf (by rw [← hN];exact hww))
     have CAL:=fun w' (k:Keep NoS w5 w')=>zh (along_any w' _ _ _ ways a nums N (HW.out.keep k) (HA.out.keep k) (HP5.out.keep k) hN (HNL.out.trans hN) (by omega) (by omega) (by rw [← hN];exact hww) haf HNF.out)
     have CDL:=fun w' v' (h:IsRows w' v' (alongL ways a nums))=>zh (ltDo_all w' v' (alongL ways a nums) (ways.length:Nat) h (by unfold I64;omega))
     have HLL:=zh ((along_len ways a nums).trans hN);have HLT:Hid (∀k,k<N→∀h:k<(alongL ways a nums).length,((alongL ways a nums)[k]).to=nums.getD k 0-a.getD k 0):=zh (fun k hk h=>by
      have:=along_get (ways:=ways) (a:=a) (b:=nums) (k:=k) (by omega)
      rw [List.getD_eq_getElem?_getD,List.getElem?_eq_getElem h]at this;simp only [Option.getD_some]at this;rw [this])
     have HAF:=zh haf;have HWW:=zh hww;have HM12:=zh (show M≤12 by omega)
     rw [hN]at HM HA HNL HP HP5 CS CAL hN12 HWW ⊢;rw [hM]at HW CS CAL CDL HM ⊢;clear haf hww hN hM HY HL HA0 HW0;go_wp2_with fail;refine CS.out.mono ?_;rintro e w6 ⟨rfl,hk6⟩;have K6:=zh hk6;clear CS hk6;go_wp2_with fail;refine(CAL _ K6.out).out.mono ?_;rintro e w7 ⟨v,rfl,hv,hk7⟩;have K7:=zh (K6.out.both hk7);have HV:=zh hv;obtain⟨ov,cv,hve,_,_⟩:=hv.len;rw [HLL.out]at hve;subst hve;clear CAL hv hk7 K6;have CF:=fun x w=>zh (refFit_any w x)
     go_wp2;go_loopw [16] (fun s wr=>∃k:Nat,k≤N∧s= .int .i64 k∧Keep NoS w7 wr∧∀j,j<k→fitI (nums.getD j 0-a.getD j 0)) (fun s _=>(N-intOf s).toNat)
     case atStart=>exact⟨0,by omega,rfl,Keep.refl _ _,fun j hj=>by omega⟩
     case round=>
      obtain⟨k,hk,rfl,hkr,hfj⟩:=hrel;have KR:=zh hkr;have HFJ:=zh hfj;clear hkr hfj
      by_cases hkl:k<N
      case pos=>
       have hlt:(k:Int)<(N:Int):=by omega
       have hkv:k<(alongL ways a nums).length:=by rw [HLL.out];exact hkl
       obtain⟨bv,o,rfl,hbv,hrow⟩:=HV.out.at hkv;obtain⟨os,cs,r0,r1,r2,hrw⟩:=hrow.row;rw [HLT.out k hkl hkv]at r2;have r2:=(KR.out.cell hbv).trans r2;have hbr:=Nat.lt_of_lt_of_le hbv KR.out.size;have HNX:=zh (fun h:fitI (nums.getD k 0-a.getD k 0)=>(fun j (hj:j<k+1)=>if e:j=k then by rw [e];exact h else HFJ.out j (by omega):∀j,j<k+1→fitI (nums.getD j 0-a.getD j 0)))
       clear hrow hrw r0 r1 hkv hbv;generalize nums.getD k 0-a.getD k 0=x at *;have CX:=CF x
       by_cases hx:fitI x
       case pos=>
        rw [decide_eq_true hx]at CX;have HNX:=zh (HNX.out hx);clear hx;go_wp2_with fail;refine(CX _).out.mono ?_;rintro e w8 ⟨rfl,hk8⟩;have K8:Hid (Keep NoS w7 w8):=zh (KR.out.both (Keep.trans kp hk8 fun _ _ _ h=>h))
        clear hk8 r2 hbr CX;go_wp2;go_roundw
        case rel=>exact⟨k+1,by omega,by go_num,K8.out,HNX.out⟩
        case measure=>simp [intOf];omega
       case neg=>
        rw [decide_eq_false hx]at CX;clear hx HNX;go_wp2_with fail;refine(CX _).out.mono ?_;rintro e w8 ⟨rfl,hk8⟩;have K8:Hid (Keep NoS w7 w8):=zh (KR.out.both (Keep.trans kp hk8 fun _ _ _ h=>h))
        clear hk8 r2 hbr CX;go_wp2;go_ret;exact⟨rfl,K5.out.both (K7.out.both K8.out)⟩
      case neg=>
       have hlt:¬(k:Int)<(N:Int):=by omega
       obtain rfl:k=N:=by omega
       obtain⟨z,ts,more,why2,mm,d1,d2,h1,h2,h3⟩:=HM.out HFJ.out;rw [h1,h2]at CDL;unfold fV at CDL;simp only at CDL;have H3:=zh h3;have CDV:=CDL wr _ (HV.out.keep KR.out);have KB:=zh (K5.out.both (K7.out.both KR.out));have K57:=zh (K7.out.both KR.out);clear HM h1 h2 h3 CDL HFJ CF HV HLT HLL;obtain⟨wz,hwz⟩:∃W:World,W=wr:=⟨_,rfl⟩;subst hwz;go_wp2_with fail;refine CDV.out.mono ?_;rintro e w9 ⟨va2,vw2,vy2,rfl,ha2,hw2,hy2,hk9⟩;obtain⟨oA2,cA2,rfl⟩:=ha2.len;obtain⟨oW2,cW2,rfl,_,_⟩:=hw2.len;obtain⟨oY2,cY2,rfl,_,_⟩:=hy2.len;have HA2:=zh ha2;have ka:Keep NoS w9 (w9.alloc (.cells #[.int .i64 d1,.int .i64 d2] 28)):=(Keep.refl _ _).alloc _;have Hb21:Hid (Blk (w9.alloc (.cells #[.int .i64 d1,.int .i64 d2] 28)) w9.heap.size #[.int .i64 d1,.int .i64 d2]):=zh (blk_at _ _ rfl);have KC:=zh ((KB.out.both hk9).both ka);have K5C:=zh ((K57.out.both hk9).both ka);have HA2:=zh (HA2.out.keep ka);go_upto_region 19 with fail
       clear ka ha2 hw2 hy2 hk9 CDV KB K57;generalize w9.alloc (.cells #[.int .i64 d1,.int .i64 d2] 28)=wa at *;generalize w9.heap.size=b21 at *;obtain⟨p0,p1,_,_,pl⟩:=Hb21.out.two
       rcases H3.out with h10 | ⟨h0,hz,htl,hmo,htf,hmade⟩
       ·subst h10
        clear H3;go_wp2;go_ret;exact⟨rfl,KC.out⟩
       ·subst h0 hz hmo
        have HT:=zh (HA2.out.ints fun x hx=>fit_i64 (htf x hx))
        have HTF:=zh htf;have HTL:=zh htl;have HMD:=zh hmade;rw [HTL.out]at HT;simp only [htl,List.length_nil];have HA:=zh (HA.out.keep K5C.out);have HW:=zh (HW.out.keep K5C.out);have HP:=zh (HP5.out.keep K5C.out);clear htf htl hmade H3 HA2 HP5;go_wp2;clear p0 p1 pl Hb21;go_loopw [22] (fun s wr=>∃j:Nat,j≤k∧s= .int .i64 j∧Keep NoS wa wr) (fun s _=>(k-intOf s).toNat)
        case atStart=>exact⟨0,by omega,rfl,Keep.refl _ _⟩
        case round=>
         obtain⟨j,hj,rfl,hkr⟩:=hrel;have KR:=zh hkr;clear hkr
         by_cases hjl:j<k
         case neg=>
          have hltj:¬(j:Int)<(k:Int):=by omega
          go_wp2;go_ret;exact⟨rfl,KC.out.both KR.out⟩
         case pos=>
          have hltj:(j:Int)<(k:Int):=by omega
          have hja:j<a.length:=by rw [HAL.out];exact hjl
          have hjn:j<nums.length:=by rw [HNL.out];exact hjl
          obtain⟨ba,ra,cpa,hv,hba,pa⟩:=HA.out.at hja
          injection hv with q1 q2 q3
          clear q2;subst q1;subst q3;obtain⟨bn,rn,cpn,hv,hbn,pn⟩:=HP.out.at hjn
          injection hv with q1 q2 q3
          clear q2;subst q1;subst q3;have PA:=zh ((KR.out.cell hba).trans pa);have pa:=PA.out;have hba:=Nat.lt_of_lt_of_le hba KR.out.size;have PN:=zh pn;have HBN:=zh hbn;have HM0:Hid (a[j]=IntKind.i64.wrap (madeP a ways ts j 0)):=zh (by
           have h:=HAF.out _ (List.getElem_mem hja);unfold madeP;simp only [sZ];rw [getD_at hja,Int.add_zero];unfold fitI at h;exact(Go.IntWalk.i64_in _ (by omega)).symm)
          have HME:Hid (IntKind.i64.wrap (madeP a ways ts j M)=nums[j]):=zh (by
           have hq:=HMD.out j (by omega)
           rw [hq,getD_at hjn];have h:=HNF.out _ (List.getElem_mem hjn);unfold fitI at h;exact Go.IntWalk.i64_in _ (by omega))
          generalize a[j]=x at *;generalize nums[j]=yn at *;clear pn hbn;obtain⟨wk,hwk⟩:∃W:World,W=wr:=⟨_,rfl⟩;subst hwk;go_wp2;clear pa hba;go_loopw [23,24] (fun s t wr=>∃i:Nat,i≤M∧t= .int .i64 i∧Keep NoS wk wr∧s= .int .i64 (IntKind.i64.wrap (madeP a ways ts j i))) (fun _ t _=>(M-intOf t).toNat)
          case atStart=>exact⟨0,by omega,rfl,Keep.refl _ _,by rw [HM0.out]⟩
          case round=>
           obtain⟨i,hi,rfl,hkr,rfl⟩:=hrel;have KX:=zh hkr;clear hkr
           by_cases hil:i<M
           case neg=>
            have hlti:¬(i:Int)<(M:Int):=by omega
            obtain rfl:i=M:=by omega
            rw [HME.out];have pn:=((KR.out.both KX.out).cell HBN.out).trans PN.out;have hbn:=Nat.lt_of_lt_of_le HBN.out (KR.out.both KX.out).size;go_wp2;go_roundw
            case rel=>exact⟨j+1,by omega,by go_num,KR.out.both KX.out⟩
            case measure=>simp [intOf];omega
           case pos=>
            have hlti:(i:Int)<(M:Int):=by omega
            have hm12:=HM12.out;have hit:i<ts.length:=by rw [HTL.out];exact hil
            have hiw:i<ways.length:=by rw [HML.out];exact hil
            obtain⟨bt,rt,cpt,hv,hbt,pt⟩:=HT.out.at hit
            injection hv with q1 q2 q3
            clear q2;subst q1;subst q3;obtain⟨bw,rw',cpw,sv,hv,hbw,pw,hsv⟩:=HW.out.at hiw
            injection hv with q1 q2 q3
            clear q2;subst q1;subst q3;obtain⟨hul,huf⟩:=HWW.out _ (List.getElem_mem hiw);have hju:j<ways[i].length:=by rw [hul];exact hjl
            obtain⟨bu,ru,cpu,hsve,hbu,pu⟩:=hsv.at hju;rw [hul]at hsve;subst hsve;have hst:=madeP_succ a ways ts j i;rw [getD_atL hiw,getD_at hju,getD_at hit]at hst;have hmm:=mul_i64 (HTF.out _ (List.getElem_mem hit)) (huf _ (List.getElem_mem hju));have hws:=wrap_step (madeP a ways ts j i) (ts[i]*ways[i][j]);rw [← hst]at hws;have kk:=KR.out.both KX.out;have pt:=(kk.cell hbt).trans pt;have pw:=(kk.cell hbw).trans pw;have pu:=(kk.cell hbu).trans pu;have hbt:=Nat.lt_of_lt_of_le hbt kk.size;have hbw:=Nat.lt_of_lt_of_le hbw kk.size;have hbu:=Nat.lt_of_lt_of_le hbu kk.size;clear kk hst hsv huf hul;generalize IntKind.i64.wrap (madeP a ways ts j i)=S at *;obtain⟨S2,hS2⟩:∃S2,IntKind.i64.wrap (madeP a ways ts j (i+1))=S2:=⟨_,rfl⟩;have HS2:=zh hS2;rw [hS2]at hws;clear hS2;generalize ways[i][j]=y' at *;generalize ts[i]=t at *;clear hit hiw hju;go_wp2;go_quiet (fail);go_wp2;go_roundw
            case rel=>exact⟨i+1,by omega,by go_num,KX.out.drewN _,by rw [HS2.out]⟩
            case measure=>simp [intOf];omega
theorem latticeAll_walk (w:World)(v:Value)(rows:List Rw)(n:Int)(vn:Value)(nums:List Int)(h:IsRows w v rows)(hn:I64 n)(hp:IsInts w vn nums)(hl:nums.length≤1048576):
  Calls Tryz.prog 4 #[v,.int .i64 n,vn] w fun e w'=>e= .returned (.bool true)∧Below w.heap.size w w':=by
 suffices hk:Calls Tryz.prog 4 #[v,.int .i64 n,vn] w fun e w'=>e= .returned (.bool true)∧Keep NoS w w' from hk.mono fun e w' ⟨h1,h2⟩=>⟨h1,h2.below (Nat.le_refl _) fun _ _ h=>h.elim⟩
 have CD:=fun w' (k:Keep NoS w w')=>zh (ltDo_all w' v rows n (h.keep k) hn)
 have CA:=fun w' u (k:Keep NoS w w') (hp:IsFracs w' u (wpF nums nums.length))=>zh (allHold_any w' v rows u (wpF nums nums.length) (h.keep k) hp)
 obtain⟨oa,ca,rfl,_,_⟩:=h.len;unfold fV at CD;have hnf:wpB nums nums.length=true→∀x∈nums,fitI x:=fun hb x hx=>by
  unfold wpB at hb;rw [List.take_length]at hb;exact of_decide_eq_true (List.all_eq_true.1 hb x hx)
 refine latticeAll_run w oa _ ca n vn nums hn hp hl (ltR rows n).yes (ltR rows n).at_ (ltR rows n).ways (ltR rows n).why (ltE rows n).1 (ltE rows n).2 (allHB rows (wpF nums nums.length)) (wpB nums nums.length) CD (fun hc=> ?_) rfl CA (fun hc hlen hb hab=> ?_) (fun hy=> ?_) (fun hy hlen hb hab hfit=> ?_)
 ·cases hy:(ltR rows n).yes with
  | true=>exact absurd (lt_yes hy).1 hc
  | false=>rfl
 ·cases hy:(ltR rows n).yes with
  | true=>rfl
  | false=>
   exfalso
   rcases ltR_cases rows n with⟨h1,h2,h3⟩ | ⟨h1,N,rfl,h2,h3,h4,h5,h6,h7,⟨W,hW,hN⟩ | ⟨S,hS,hI⟩⟩
   ·rw [h2]at hc;exact h1 hc
   ·exact no_solves hN (fun j=>IsZ.int _) ((whole_holds h4 h5 (by omega) (hnf hb)).1 hab)
   ·rw [h7]at hc
    have hm:(ltR rows (N:Int)).much=false:=mcode_zero.1 hc;rw [hS,yesR_much,←hS,hy]at hm
    cases hm
 ·obtain ⟨N,rfl,h12,h40,hok,h3,h0,S,hT⟩:=told_of hy
  exact⟨by rw [hT.al];exact h12,hT.af,by rw [hT.al,hT.wl];omega,by rw [hT.al];exact hT.ww,by rw [hT.al]⟩
 ·obtain ⟨N,rfl,h12,h40,hok,h3,h0,S,hT⟩:=told_of hy
  have hnl:nums.length=N:=by omega
  have hs:=(whole_holds hok h3 hnl (hnf hb)).1 hab;have:=all_lattice h12 hok hT hnl hs (fun k hk=>hfit k (by rw [hT.al];exact hk))
  generalize hL:alongL (ltR rows (N:Int)).ways (ltR rows (N:Int)).at_ nums=L at *;refine⟨(ltR L ((ltR rows (N:Int)).ways.length:Nat)).yes,(ltR L ((ltR rows (N:Int)).ways.length:Nat)).at_,(ltR L ((ltR rows (N:Int)).ways.length:Nat)).ways,(ltR L ((ltR rows (N:Int)).ways.length:Nat)).why,(ltR L ((ltR rows (N:Int)).ways.length:Nat)).much,(ltE L ((ltR rows (N:Int)).ways.length:Nat)).1,(ltE L ((ltR rows (N:Int)).ways.length:Nat)).2,rfl,rfl,?_⟩
  rcases this with h10 | ⟨g0,g1,g2,g3,g4⟩
  ·exact .inl h10
  ·obtain ⟨_,_,_,_,_,_,_,S2,hT2⟩:=told_of g1
   exact .inr ⟨g0,g1,g2,g3,hT2.af,fun j hj=>g4 j (by rw [hT.al]at hj;exact hj)⟩
end Go.Proofs.YtcnjcnjipddgeaaGreat
