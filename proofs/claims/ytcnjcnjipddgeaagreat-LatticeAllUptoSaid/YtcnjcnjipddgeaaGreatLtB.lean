/- Package lattice's Take. -/
import Derived.Test.YtcnjcnjipddgeaaGreatLtA
import Derived.Test.YtcnjcnjipddgeaaGreatLtD
import Derived.Test.YtcnjcnjipddgeaaGreatFkAA
namespace Go.Proofs.YtcnjcnjipddgeaaGreat
set_option maxRecDepth 100000
set_option maxHeartbeats 16000000
set_option linter.unusedSimpArgs false
set_option linter.unusedVariables false
open Go.ChangeShapes Go.WideShapes Go.RowKit
theorem badCloL_any (w:World)(n d:Int):Calls Tryz.prog 25 #[.agg #[.int .i64 n,.int .i64 d]] w fun e w'=>e= .returned (.bool (!decide (FracOK n d)))∧Keep NoS w w':=by
 by_cases hx:FracOK n d
 ·have CC:=fun w=>zh (check_ok n d w hx)
  rw [decide_eq_true hx];clear hx;go_enter Tryz.func25,Tryz.ntmps25;go_wp2_with fail;refine(CC _).out.mono ?_;rintro e w1 ⟨rfl,hb1⟩;have hk1:=Keep.of_below hb1 (Nat.le_refl _);clear hb1;go_wp2;go_ret;exact⟨rfl,Keep.both kp hk1⟩
 ·have CC:=fun w=>zh (check_no n d w hx)
  rw [decide_eq_false hx];clear hx;go_enter Tryz.func25,Tryz.ntmps25;go_wp2_with fail;refine(CC _).out.mono ?_;rintro e w1 ⟨rfl,hb1⟩;have hk1:=Keep.of_below hb1 (Nat.le_refl _);clear hb1;go_wp2;go_ret;exact⟨rfl,Keep.both kp hk1⟩
theorem indexBadL_any (w:World)(v:Value)(l:List Fq)(h:IsFracs w v l):
  Calls Tryz.prog 24 #[v,.func (.func 25) #[] #[]] w fun e w'=>e= .returned (.int .i64 (badAt l))∧Keep NoS w w':=by
 have HN:=zh h;obtain⟨oa,ca,rfl,hca,hma⟩:=h.len;unfold maxLen at hma;clear h;go_enter Tryz.func24,Tryz.ntmps24;go_wp2;go_loopw [8] (fun s wr=>∃k:Nat,k≤l.length∧s= .int .i64 k∧firstBad l 0=firstBad (l.drop k) k∧Keep NoS w wr) (fun s _=>(l.length-intOf s).toNat)
 case atStart=>exact⟨0,by omega,rfl,rfl,Keep.refl _ _⟩
 case round=>
  obtain⟨k,hk,rfl,hf,hkr⟩:=hrel;have HF:=zh hf;have HKR:=zh hkr;clear hf hkr
  by_cases hkl:k<l.length
  ·have hlt:(k:Int)<(l.length:Int):=by omega
   obtain⟨b,o,rfl,hbl,p0,p1⟩:=(HN.out.keep HKR.out).at hkl;have hIN:=fun h=>firstBad_in (i:=k) hkl h
   have hOUT:=fun h=>firstBad_out (i:=k) hkl h
   generalize l[k].N=gn at *;generalize l[k].D=gd at *;have CC:=fun w=>zh (badCloL_any w gn gd)
   by_cases hx:FracOK gn gd
   ·have HNX:=zh (HF.out.trans (hIN hx))
    rw [decide_eq_true hx]at CC;clear hx hIN hOUT HF;go_wp2_with fail;refine(CC _).out.mono ?_;rintro e w4 ⟨rfl,hk4⟩;have K4:=zh (HKR.out.both hk4);clear hk4 p0 p1;go_wp2;go_roundw
    case rel=>exact⟨k+1,by omega,by go_num,HNX.out,K4.out⟩
    case measure=>simp [intOf];omega
   ·have HNX:=zh (badAt_eq (HF.out.trans (hOUT hx)))
    rw [decide_eq_false hx]at CC;clear hx hIN hOUT HF;go_wp2_with fail;refine(CC _).out.mono ?_;rintro e w4 ⟨rfl,hk4⟩;have K4:=zh (HKR.out.both hk4);clear hk4 p0 p1;go_wp2;go_ret;exact⟨by rw [HNX.out];rfl,K4.out⟩
  ·have hlt:¬(k:Int)<(l.length:Int):=by omega
   have HNX:=zh (badAt_eq (HF.out.trans (firstBad_end (i:=k) (by omega))))
   clear HF;go_wp2;go_ret;exact⟨by rw [HNX.out];rfl,HKR.out⟩
def ltF (rows:List Rw)(n:Int)(times:List Fq):Int × Int:=if(eqF rows n).1≠0 then eqF rows n else if times.length≠rows.length then(9,0)else firstBad times 0
def lt1 (rows:List Rw)(ts:List Rat)(N:Nat):Bool:= !((colL rows ts N rows.length).any frP)&&frP (toK rows ts rows.length)
def ltB (rows:List Rw)(n:Int)(times:List Fq):Bool:=if(ltF rows n times).1=0 then lt1 rows (times.map Fq.q) n.toNat else false
theorem eqF_ok {rows:List Rw}{n:Int}(h:(eqF rows n).1=0):eqF rows n=(0,0)∧0≤n∧n≤12∧rows.length≤40∧(∀r∈rows,RowOK r n)∧∀r∈rows,r.kind=3:=by
 unfold eqF at h ⊢
 by_cases h1:(listF rows n).1=0
 ·rw [if_neg (by simp [h1])]at h ⊢
  obtain⟨h2,h3⟩:=firstK_all h;obtain⟨h4,h5,h6,h7⟩:=listF_ok h1;exact⟨h2,h4,h5,h6,h7,h3⟩
 ·rw [if_pos h1]at h;exact absurd h h1
theorem set_left {l:List Rat}{x y:Rat}{k:Nat}(h:k<l.length):(l++ [x]).set k y=l.set k y++ [x]:=List.set_append_left _ _ h
theorem set_last {l:List Rat}{x y:Rat}{k:Nat}(h:k=l.length):(l++ [x]).set k y=l++ [y]:=by
 subst h;rw [List.set_append_right _ _ (Nat.le_refl _)];simp
theorem nums_take {w:World}{b N cap:Nat}{l:List Rat}{x:Rat}(h:IsNums w (.slice (some ⟨b,0,none⟩) (N+1) cap) (l++ [x]))(hl:l.length=N):IsNums w (.slice (some ⟨b,0,none⟩) N cap) l:=by
 obtain⟨oa,cap',L,hv,h1,h2,h3,h4⟩:=h
 injection hv with hv1 hv2 hv3
 subst hv1 hv3;have hlen:=h3.1;rw [List.length_append,List.length_singleton]at hlen h1;refine⟨_,cap,L.take N,by rw [hl],by omega,h2,⟨by rw [List.length_take];omega,fun i y q hy hq=> ?_⟩,fun hne=> ?_⟩
 ·rw [List.getElem?_take]at hy
  split at hy
  ·exact h3.2 i y q hy (by rw [List.getElem?_append_left (by omega)];exact hq)
  ·cases hy
 ·obtain ⟨b',o',e,hb,hc⟩:=h4 (by simp)
  refine⟨b',o',e,hb,fun i y hy=>hc i y ?_⟩
  rw [List.getElem?_take]at hy
  split at hy
  ·exact hy
  ·cases hy
theorem latTake_any (w:World)(v:Value)(rows:List Rw)(n:Int)(vt:Value)(times:List Fq)(h:IsRows w v rows)(hn:I64 n)(ht:IsFracs w vt times):
  Calls Tryz.prog 9 #[v,.int .i64 n,vt] w fun e w'=>e= .returned (.tuple #[.bool (ltB rows n times),fV (ltF rows n times)])∧Keep NoS w w':=by
 have CH:=fun w' (k:Keep NoS w w')=>zh (latChk_any w' v rows n (h.keep k) hn)
 have CI:=fun w' (k:Keep NoS w w')=>zh (indexBadL_any w' vt times (ht.keep k))
 unfold ltB
 by_cases hce:(eqF rows n).1=0
 case neg=>
  have e9:ltF rows n times=eqF rows n:=by unfold ltF;rw [if_pos hce]
  rw [e9,if_neg hce];generalize eqF rows n=c at *;obtain⟨c1,c2⟩:=c;simp only at hce;unfold fV at CH ⊢;simp only at CH ⊢;have e1:(c1 != 0)=true:=by rw [bne_iff_ne];exact hce
  obtain⟨oa,ca,rfl,_,_⟩:=h.len;obtain⟨ot,ct,rfl,_,_⟩:=ht.len;clear hce h ht CI e9;go_enter Tryz.func9,Tryz.ntmps9;go_wp2_with fail;refine(CH _ kp).out.mono ?_;rintro e w1 ⟨rfl,hk1⟩;have B5:Blk w1 w.heap.size #[.int .i64 0,.int .i64 0]:=Blk.keep kb hk1;have K1:Hid (Keep NoS w w1):=zh (Keep.both kp hk1);have HB5:=zh B5;clear hk1 CH B5;generalize hb5:w.heap.size=b5 at HB5 ⊢;have HS5:Hid (w.heap.size≤b5):=zh (by omega)
  clear hb5;go_upto_region 3 with fail
  have HK0:Hid (Keep NoS w (w1.alloc (.cells #[.int .i64 c1,.int .i64 c2] 28))):=zh (K1.out.alloc _);have HB6:Hid (Blk (w1.alloc (.cells #[.int .i64 c1,.int .i64 c2] 28)) w1.heap.size #[.int .i64 c1,.int .i64 c2]):=zh (blk_at _ _ rfl);have HB5:=zh (HB5.out.old (.cells #[.int .i64 c1,.int .i64 c2] 28));generalize w1.alloc (.cells #[.int .i64 c1,.int .i64 c2] 28)=w3 at *;generalize w1.heap.size=b6 at *;obtain⟨s0,s1,t0,t1,sl⟩:=HB5.out.two;refine wp_region_by (fun w'=>Keep NoS w3 w') [2] [([0,1],2)] [] (by kernel_rfl) (by kernel_rfl) kp ?_
  intro X W hne hF hcl;have hx0:=fun x=>(HB6.out.keep (hF x)).two
  clear hF hcl;simp only [wpPlan,pickOps,zl0,zl1,zl2,clsOf,Bool.false_eq_true,if_false]
  (repeat(quiet_step (fail)));refine wpQuiet_nil ?_
  refine wpAt rfl rfl fun K hK=> ?_
  go_simp;refine hK _ _ ⟨fun h=>(by simp at h),?_⟩
  have HB5':Hid (Blk ((w3.setCell ⟨b5,0,none⟩ (.int .i64 c1)).setCell ⟨b5,1,none⟩ (.int .i64 c2)).drew b5 #[.int .i64 c1,.int .i64 c2]):=zh ((HB5.out.set2 (.int .i64 c1) (.int .i64 c2)).keep (Keep.refl NoS _).drew);have K14:Hid (Keep NoS w ((w3.setCell ⟨b5,0,none⟩ (.int .i64 c1)).setCell ⟨b5,1,none⟩ (.int .i64 c2)).drew):=zh (keep_set2 HK0.out HS5.out (.int .i64 c1) (.int .i64 c2)).drew;clear hK K s0 s1 t0 t1 sl;generalize ((w3.setCell ⟨b5,0,none⟩ (.int .i64 c1)).setCell ⟨b5,1,none⟩ (.int .i64 c2)).drew=w5 at*
  (repeat(quiet_step (fail)));refine wpQuiet_nil ?_
  refine NoPanic.normal ?_;obtain⟨s0,s1,t0,t1,sl⟩:=HB5'.out.two;go_wp2;refine bodyPost_ret (by simp [results,Tryz.results9,go_sem,s0,s1,sl];rfl) rfl ?_
  exact⟨rfl,K14.out⟩
 case pos=>
  obtain⟨hc0,hn0,hn12,h40,hok,_⟩:=eqF_ok hce;obtain⟨N,rfl⟩:∃N:Nat,n=(N:Int):=⟨n.toNat,by omega⟩
  have hN:N≤12:=by omega
  rw [hc0]at CH;rw [show((N:Int)).toNat=N from by omega]
  have HLF:=zh (show ltF rows N times=if times.length≠rows.length then(9,0)else firstBad times 0 from by unfold ltF;rw [if_neg (by simp [hc0])])
  have HR:=zh h;have HT:=zh ht;have HOK:=zh hok;have HL1:=zh (show lt1 rows (times.map Fq.q) N=(!((colL rows (times.map Fq.q) N rows.length).any frP)&&frP (toK rows (times.map Fq.q) rows.length))from rfl)
  generalize lt1 rows (times.map Fq.q) N=lb at *;generalize ltF rows N times=lf at *;obtain⟨f1,f2⟩:=lf;unfold fV at CH ⊢;simp only at CH ⊢;obtain⟨tb,htb⟩:∃tb:Bool,(if f1=0 then lb else false)=tb:=⟨_,rfl⟩
  rw [htb];have HTB:=zh htb;obtain⟨oa,ca,rfl,hca,hma⟩:=h.len;obtain⟨ot,ct,rfl,hct,hmt⟩:=ht.len;unfold maxLen at hma hmt;clear htb hc0 hce hn0 hn12 hok h ht hca hct;go_enter Tryz.func9,Tryz.ntmps9;go_wp2_with fail;refine(CH _ kp).out.mono ?_;rintro e w1 ⟨rfl,hk1⟩;have B7:Blk w1 w.heap.size #[.int .i64 0,.int .i64 0]:=Blk.keep kb hk1;have K1:Hid (Keep NoS w w1):=zh (Keep.both kp hk1);have HB7:=zh B7;clear hk1 CH B7;generalize hb7:w.heap.size=b7 at HB7 ⊢;have HS7:Hid (w.heap.size≤b7):=zh (by omega)
  clear hb7
  by_cases hl:times.length=rows.length
  case neg=>
   have e1:((times.length:Int) != (rows.length:Int))=true:=by rw [bne_iff_ne];omega
   have hlf:=HLF.out;rw [if_pos hl]at hlf
   cases hlf
   obtain rfl:tb=false:=HTB.out.symm;obtain⟨r0,r1,g0,g1,rl⟩:=HB7.out.two;have hn1:¬b7=w1.heap.size:=by omega
   have HK:=K1;have hs7:=HS7.out;clear HL1 CI;go_wp2;refine bodyPost_ret (by simp [results,Tryz.results9,go_sem,r0,r1,rl,hn1];rfl) rfl ?_
   exact⟨rfl,kp⟩
  case pos=>
   have e1:((times.length:Int) != (rows.length:Int))=false:=by rw [bne_eq_false_iff_eq];omega
   have hlf:=HLF.out;rw [if_neg (by simp [hl])]at hlf
   have HLF:=zh hlf;have HLEN:=zh hl;clear hlf hl;go_wp2_with fail;refine(CI _ (K1.out.alloc _)).out.mono ?_;rintro e w2 ⟨rfl,hk2⟩;have k2:Keep NoS w1 w2:=Keep.trans kp hk2 fun _ _ _ h=>h
   have K2:=zh (K1.out.both k2);have HB7:=zh (HB7.out.keep k2);clear hk2 k2 CI e1 K1;obtain⟨r0,r1,g0,g1,rl⟩:=HB7.out.two
   by_cases hz:0≤badAt times
   case pos=>
    have hE:=HLF.out.trans (badAt_pos hz);have hf1:f1=5:=congrArg Prod.fst hE;have hf2:f2=badAt times:=congrArg Prod.snd hE;have HF2:=zh (And.intro hf1 hf2);obtain rfl:tb=false:=by rw [← HTB.out,hf1];rfl
    clear hf1 hf2 hE;generalize badAt times=z at *;clear HL1 HLF HTB;go_wp2;refine bodyPost_ret (by simp [results,Tryz.results9,go_sem,r0,r1,rl];rfl) rfl ?_
    exact⟨by rw [HF2.out.1,HF2.out.2],keep_set2 K2.out HS7.out _ _⟩
   case neg=>
    have hE:=HLF.out.trans (badAt_neg (by omega))
    have hfr:=(firstBad_all (l:=times) (i:=0) (by rw [badAt_neg (by omega)])).2
    cases hE
    obtain rfl:tb=lb:=HTB.out.symm;clear HTB;have HFR:=zh hfr;have hnt:∀q∈times.map Fq.q,NB 1 q:=by
     intro q hq;obtain⟨g,hg,rfl⟩:=List.mem_map.1 hq;exact nb_frac (hfr g hg)
    have HTN:=zh hnt;have hz':badAt times<0:=by omega
    generalize badAt times=z at *;clear hfr hnt HLF hz;obtain⟨w3,hr3,hn3,hk3⟩:=make_nums w2 (N+1) (by omega)
    rw [show(((N+1:Nat)):Int)=(N:Int)+1 from by omega]at hr3
    have HB7:=zh (HB7.out.keep hk3);have HK3:=zh (K2.out.both hk3);have HBN:Hid (NumBlk w3 w2.heap.size (colL rows (times.map Fq.q) N 0++ [toK rows (times.map Fq.q) 0])):=zh (by rw [colL_zero,show toK rows (times.map Fq.q) 0=0 from rfl,←List.replicate_succ'];exact hn3)
    have HSN:Hid (w.heap.size≤w2.heap.size):=zh K2.out.size;have HNE:Hid (b7≠w2.heap.size):=zh (by have:=rl;omega)
    clear hn3 hk3;go_wp2;clear hr3 r0 r1 g0 g1 rl;generalize hbn:w2.heap.size=bn at HBN HSN HNE ⊢;clear hbn;go_loopw [40] (fun s wr=>∃i:Nat,i≤rows.length∧s= .int .i64 i∧Keep NoS w wr∧Blk wr b7 #[.int .i64 0,.int .i64 0]∧NumBlk wr bn (colL rows (times.map Fq.q) N i++ [toK rows (times.map Fq.q) i])) (fun s _=>(rows.length-intOf s).toNat)
    case atStart=>exact⟨0,by omega,rfl,HK3.out,HB7.out,HBN.out⟩
    case round=>
     obtain⟨i,hi,rfl,hkr,hb7,hbn⟩:=hrel;have HKR:=zh hkr;have HB7:=zh hb7;have HBN:=zh hbn;clear hkr hb7 hbn HK3 K2
     by_cases hil:i<rows.length
     case neg=>
      have hlt:¬(i:Int)<(rows.length:Int):=by omega
      obtain rfl:i=rows.length:=by omega
      have HNB:Hid (∀q∈colL rows (times.map Fq.q) N rows.length,NB 1000 q):=zh (by
       intro q hq;obtain⟨m,_,rfl⟩:=List.mem_map.1 hq;exact(nb_col HOK.out HTN.out m rows.length).mono (by omega))
      have HNT:=zh ((nb_to HOK.out HTN.out rows.length).mono (k:=1000) (by omega))
      have hcl:(colL rows (times.map Fq.q) N rows.length).length=N:=colL_len;have HNS:=zh (nums_take (HBN.out.nums (n:=N+1) (cap:=N+1) (by rw [List.length_append,hcl];rfl) (by rw [List.length_append,hcl];simp) (by unfold maxLen;omega)) hcl)
      have CA:=fun w' (k:Keep NoS wr w')=>zh (frAny_any w' _ _ (HNS.out.keep k) HNB.out)
      have HL1:=zh HL1.out;generalize (colL rows (times.map Fq.q) N rows.length).any frP=az at *;have hltN:(N:Int)<(N:Int)+1:=by omega
      go_wp2_with fail;refine(CA _ (Keep.refl _ _)).out.mono ?_;rintro e w6 ⟨rfl,hk6⟩;have K6:=zh (HKR.out.both hk6);have HB7:=zh (HB7.out.keep hk6);have HBN6:=zh (HBN.out.keep hk6);clear hk6 CA HBN;obtain⟨r0,r1,g0,g1,rl⟩:=HB7.out.two
      cases az
      case true=>
       obtain rfl:tb=false:=HL1.out;clear HL1;go_wp2;refine bodyPost_ret (by simp [results,Tryz.results9,go_sem,r0,r1,rl];rfl) rfl ?_
       exact⟨rfl,keep_set2 K6.out HS7.out _ _⟩
      case false=>
       have hlb:tb=frP (toK rows (times.map Fq.q) rows.length):=by rw [HL1.out];rfl
       obtain⟨xb,xS,yb,yS,q0,q1,q2,q3,hqn,_,_,_,_⟩:=HBN6.out.at (k:=N) (by rw [List.length_append,hcl];simp)
       rw [List.getElem_append_right (by rw [hcl];exact Nat.le_refl _)]at hqn
       simp only [List.getElem_singleton]at hqn;have hln:=HBN6.out.lt;have CF:=fun w=>zh (frClo_any w xb xS yb yS _ hqn HNT.out)
       rw [← hlb]at CF;clear hlb HL1 hqn HNT;go_wp2_with fail;refine(CF _).out.mono ?_;rintro e w8 ⟨rfl,hk8⟩;have HB7:=zh (HB7.out.keep hk8);have K8:=zh (K6.out.both hk8);clear hk8 CF r0 r1 g0 g1 rl q0 q1 q2 q3 hln;obtain⟨r0,r1,g0,g1,rl⟩:=HB7.out.two;go_wp2;refine bodyPost_ret (by simp [results,Tryz.results9,go_sem,r0,r1,rl];rfl) rfl ?_
       exact⟨rfl,keep_set2 K8.out HS7.out _ _⟩
     case pos=>
      have hlt:(i:Int)<(rows.length:Int):=by omega
      have hit:i<times.length:=by have:=HLEN.out;omega
      have hltt:(i:Int)<(times.length:Int):=by omega
      obtain⟨b,o,rfl,hbl,hrow⟩:=HR.out.at hil;have hok:=HOK.out _ (List.getElem_mem hil);have hfk:=HFR.out _ (List.getElem_mem hit);have hgi:rows.getD i nilRw=rows[i]:=row_getD hil;have hti:(times.map Fq.q).getD i 0=(times[i]).q:=map_getD hit;have hcol:∀k,colK rows (times.map Fq.q) k (i+1)=colK rows (times.map Fq.q) k i+(rows[i].of.getD k 0:Rat)*(times[i]).q:=fun k=>by rw [← hgi,←hti];rfl
      have hto:toK rows (times.map Fq.q) (i+1)=toK rows (times.map Fq.q) i+(rows[i].to:Rat)*(times[i]).q:=by rw [← hgi,←hti];rfl
      have hall:mixL rows (times.map Fq.q) N i rows[i].of.length=colL rows (times.map Fq.q) N (i+1):=mixL_all fun m hm=>by rw [hgi,getD_out hm]
      have HNI:=zh (fun k=>nb_col HOK.out HTN.out k i)
      have HNT:=zh (nb_to HOK.out HTN.out i);have HN1:=zh (nb_frac hfk);obtain⟨b',o',rfl,hb',c0,c1⟩:=HT.out.at hit;have CO:=fun w=>zh (exOf_frac hfk w)
      have HCOL:=zh hcol;have HTO:=zh hto;have HALL:=zh hall;generalize (times[i]).q=t at *;generalize (times[i]).N=gn at *;generalize (times[i]).D=gd at *;generalize rows[i]=r at *;obtain⟨tb',tS,eb,eS,lt0⟩:=numQ_agg t;rw [lt0]at CO;have HTM:Hid (IsNum (.agg #[.bool tb',.string tS,.bool eb,.string eS]) t):=zh (by rw [← lt0];exact isNum_Q _)
      obtain⟨os,cs,p0,p1,p2,hrow⟩:=hrow.row;have p0:=(HKR.out.cell hbl).trans p0;have p1:=(HKR.out.cell hbl).trans p1;have p2:=(HKR.out.cell hbl).trans p2;have hblr:=Nat.lt_of_lt_of_le hbl HKR.out.size;have hrlen:r.of.length≤N:=by have:=hok.len;omega
      have HFT:=zh (And.intro hok.fit hok.fto);have HIR:=zh hrow;have HC:=zh (And.intro c0 c1);clear hgi hti hcol hto hall hfk hok hrow c0 c1 lt0;go_upto_region 13 with fail
      have HKA:Hid (Keep NoS wr (wr.alloc (.cells #[.slice os r.of.length cs,.int .i64 r.kind,.int .i64 r.to] 44))):=zh kp;have HB13:Hid (Blk (wr.alloc (.cells #[.slice os r.of.length cs,.int .i64 r.kind,.int .i64 r.to] 44)) wr.heap.size #[.slice os r.of.length cs,.int .i64 r.kind,.int .i64 r.to]):=zh (blk_at _ _ rfl);have HNE3:Hid (b7≠wr.heap.size∧bn≠wr.heap.size):=zh ⟨by have:=HB7.out.lt;omega,by have:=HBN.out.lt;omega⟩
      have HB7:=zh (HB7.out.keep HKA.out);have HBN:=zh (HBN.out.keep HKA.out);clear p0 p1 p2;generalize hb13:wr.heap.size=b13 at HB13 HNE3 ⊢;clear hb13;generalize wr.alloc (.cells #[.slice os r.of.length cs,.int .i64 r.kind,.int .i64 r.to] 44)=wa at *;obtain⟨s0,s1,s2,_,_,_,l13⟩:=HB13.out.three;go_wp2_with fail;have HBM:Hid (NumBlk wa bn (mixL rows (times.map Fq.q) N i 0++ [toK rows (times.map Fq.q) i])):=zh (by rw [mixL_zero];exact HBN.out)
      have HIN:Hid (IsInts w (.slice os r.of.length cs) r.of):=zh (by obtain⟨sv,hsv,h,_⟩:=HIR.out;cases hsv;exact h)
      have HKA:=zh (HKR.out.both HKA.out);clear HBN s0 s1 s2 l13 HIR HKR hlt;go_loopw [48] (fun s wr=>∃k:Nat,k≤r.of.length∧s= .int .i64 k∧Keep NoS w wr∧Blk wr b7 #[.int .i64 0,.int .i64 0]∧NumBlk wr bn (mixL rows (times.map Fq.q) N i k++ [toK rows (times.map Fq.q) i])∧Blk wr b13 #[.slice os r.of.length cs,.int .i64 r.kind,.int .i64 r.to]) (fun s _=>(r.of.length-intOf s).toNat)
      case atStart=>exact⟨0,by omega,rfl,HKA.out,HB7.out,HBM.out,HB13.out⟩
      case round=>
       obtain⟨k,hk,rfl,hkr,hb7,hbn,hb13⟩:=hrel;have HKX:=zh hkr;have HB7:=zh hb7;have HBN:=zh hbn;have HB13:=zh hb13;clear hkr hb7 hbn hb13 HKA;have c0:=(HKX.out.cell hb').trans HC.out.1;have c1:=(HKX.out.cell hb').trans HC.out.2;have hbr:=Nat.lt_of_lt_of_le hb' HKX.out.size
       by_cases hkl:k<r.of.length
       case pos=>
        have hlt:(k:Int)<(r.of.length:Int):=by omega
        have hkN:k<N:=by omega
        have hltN:(k:Int)<(N:Int)+1:=by omega
        have hml:(mixL rows (times.map Fq.q) N i k).length=N:=mixL_len;obtain⟨bi,oi,cp,hsl,hbi,hxi0⟩:=(HIN.out).at hkl;simp at hsl;obtain⟨rfl,rfl⟩:=hsl;have hfk:=HFT.out.1 _ (List.getElem_mem hkl);have hstep:colK rows (times.map Fq.q) k (i+1)=colK rows (times.map Fq.q) k i+(r.of[k]:Rat)*t:=by
         rw [HCOL.out k,List.getD_eq_getElem?_getD,List.getElem?_eq_getElem hkl];rfl
        obtain⟨xb,xS,yb,yS,q0,q1,q2,q3,hqn,g0,g1,g2,g3⟩:=HBN.out.at (k:=k) (by rw [List.length_append,hml];simp;omega)
        rw [List.getElem_append_left (by rw [hml];exact hkN),mixL_get hkN]at hqn
        have hln:=HBN.out.lt;have hir:=Nat.lt_of_lt_of_le hbi HKX.out.size;have hxi:=(HKX.out.cell hbi).trans hxi0;clear hxi0;generalize r.of[k]=c at *;obtain⟨ib,iS,jb,jS,lx⟩:=numQ_agg (c:Rat);obtain⟨mb,mS,ub,uS,lt'⟩:=numQ_agg ((c:Rat)*t);obtain⟨sb,sS,zb,zS,ls⟩:=numQ_agg (colK rows (times.map Fq.q) k (i+1));have C0:=fun w=>zh (exInt_any w c (by unfold fitI at hfk;omega) (by unfold fitI at hfk;omega))
        rw [← numQ_int,lx]at C0;have C1:=fun w=>zh (exTimes_any w _ (c:Rat) (isNum_Q _) ((nb_fitI hfk).mono (by omega)) _ t HTM.out (HN1.out.mono (by omega)))
        rw [lx,lt']at C1;have C2:=fun w=>zh (exPlus_any w _ (colK rows (times.map Fq.q) k i) hqn ((HNI.out k).mono (by omega)) _ ((c:Rat)*t) (isNum_Q _) (((nb_fitI hfk).mul HN1.out).mono (by omega)))
        rw [← hstep,lt',ls]at C2;have HNN:Hid (IsNum (.agg #[.bool sb,.string sS,.bool zb,.string zS]) (colK rows (times.map Fq.q) k (i+1))):=zh (by rw [← ls];exact isNum_Q _)
        clear lx lt' ls hstep hqn hfk hml;go_wp2;refine wp_region_by (fun w'=>Keep NoS wr w') [16] [([0,1,2,3,4,5,6,8,9,10,11],7),([],12),([],13),([],14),([15],16)] [] (by kernel_rfl) (by kernel_rfl) kp ?_
        intro X W hne hF hcl;have HCL:=zh hcl;have a0:=fun x=>((hF x).cell hln).trans q0
        have a1:=fun x=>((hF x).cell hln).trans q1
        have a2:=fun x=>((hF x).cell hln).trans q2
        have a3:=fun x=>((hF x).cell hln).trans q3
        have d0:=fun x=>((hF x).cell hbr).trans c0
        have d1:=fun x=>((hF x).cell hbr).trans c1
        clear hF hcl;simp only [wpPlan,pickOps,zl0,zl1,zl2,clsOf,Bool.false_eq_true,if_false]
        (repeat(quiet_step (fail)));refine wpQuiet_nil ?_
        refine wpAt rfl rfl fun K hK=> ?_
        go_simp;refine(C0 _).out.mono ?_;rintro e w1' ⟨rfl,hk1⟩;have k1:Keep NoS wr w1':=Keep.trans kp hk1 fun _ _ _ h=>h
        refine hK _ _ ⟨fun _=>HCL.out _ k1,?_⟩
        clear hK K hk1
        (repeat(quiet_step (fail)));refine wpQuiet_nil ?_
        refine wpAt rfl rfl fun K hK=> ?_
        go_simp;refine(CO _).out.mono ?_;rintro e w2' ⟨rfl,hk2⟩;have k2:=k1.both hk2;refine hK _ _ ⟨fun _=>HCL.out _ k2,?_⟩
        clear hK K hk2
        (repeat(quiet_step (fail)));refine wpQuiet_nil ?_
        refine wpAt rfl rfl fun K hK=> ?_
        go_simp;refine(C1 _).out.mono ?_;rintro e w3' ⟨rfl,hk3⟩;have k3:=k2.both hk3;refine hK _ _ ⟨fun _=>HCL.out _ k3,?_⟩
        clear hK K hk3
        (repeat(quiet_step (fail)));refine wpQuiet_nil ?_
        refine wpAt rfl rfl fun K hK=> ?_
        go_simp;refine(C2 _).out.mono ?_;rintro e w5' ⟨rfl,hk4⟩;have k4:=k3.both hk4;refine hK _ _ ⟨fun _=>HCL.out _ k4,?_⟩
        have HK4:=zh (HKX.out.both k4);have HB74:=zh (HB7.out.keep k4);have HBN4:=zh (HBN.out.keep k4);have HB134:=zh (HB13.out.keep k4);clear hK K hk4 k1 k2 k3 k4 a0 a1 a2 a3 d0 d1 q0 q1 q2 q3 g0 g1 g2 g3 c0 c1 hln hbr C0 C1 C2;obtain⟨xb',xS',yb',yS',q0,q1,q2,q3,hqn,g0,g1,g2,g3⟩:=HBN4.out.at (k:=k) (by rw [List.length_append,mixL_len];simp;omega)
        have hln:=HBN4.out.lt;clear hqn
        (repeat(quiet_step (fail)));refine wpQuiet_nil ?_
        refine wpAt rfl rfl fun K hK=> ?_
        go_simp;refine hK _ _ ⟨fun h=>(by simp at h),?_⟩
        have HBN5:=zh (HBN4.out.set (k:=k) HNN.out);rw [set_left (by rw [mixL_len];exact hkN),mixL_set hkN]at HBN5
        have HB75:=zh (HB74.out.otherN (o:=k*4) HNE.out (.bool sb) (.string sS) (.bool zb) (.string zS));have HB135:=zh (HB134.out.otherN (o:=k*4) (Ne.symm HNE3.out.2) (.bool sb) (.string sS) (.bool zb) (.string zS));have HK5:=zh (keep_setN (o:=k*4) HK4.out HSN.out (.bool sb) (.string sS) (.bool zb) (.string zS));clear hK K q0 q1 q2 q3 g0 g1 g2 g3 hln;generalize (((w5'.setCell ⟨bn,k*4,none⟩ (.bool sb)).setCell ⟨bn,k*4+1,none⟩ (.string sS)).setCell ⟨bn,k*4+2,none⟩ (.bool zb)).setCell ⟨bn,k*4+3,none⟩ (.string zS)=w6 at*
        (repeat(quiet_step (fail)));refine wpQuiet_nil ?_
        refine NoPanic.normal ?_;go_wp2;go_roundw
        case rel=>exact⟨k+1,by omega,by go_num,HK5.out,HB75.out,HBN5.out,HB135.out⟩
        case measure=>simp [intOf];omega
       case neg=>
        have hlt:¬(k:Int)<(r.of.length:Int):=by omega
        obtain rfl:k=r.of.length:=by omega
        have HBN:Hid (NumBlk wr bn (colL rows (times.map Fq.q) N (i+1)++ [toK rows (times.map Fq.q) i])):=zh (by rw [← HALL.out];exact HBN.out)
        go_upto_region 18 with fail
        have hltN:(N:Int)<(N:Int)+1:=by omega
        have hml:(colL rows (times.map Fq.q) N (i+1)).length=N:=colL_len;obtain⟨xb,xS,yb,yS,q0,q1,q2,q3,hqn,g0,g1,g2,g3⟩:=HBN.out.at (k:=N) (by rw [List.length_append,hml];simp)
        rw [List.getElem_append_right (by rw [hml];exact Nat.le_refl _)]at hqn
        simp only [List.getElem_singleton]at hqn;have hln:=HBN.out.lt;obtain⟨ib,iS,jb,jS,lx⟩:=numQ_agg (r.to:Rat);obtain⟨mb,mS,ub,uS,lt'⟩:=numQ_agg ((r.to:Rat)*t);obtain⟨sb,sS,zb,zS,ls⟩:=numQ_agg (toK rows (times.map Fq.q) (i+1));have hft:=HFT.out.2;have C0:=fun w=>zh (exInt_any w r.to (by unfold fitI at hft;omega) (by unfold fitI at hft;omega))
        rw [← numQ_int,lx]at C0;have C1:=fun w=>zh (exTimes_any w _ (r.to:Rat) (isNum_Q _) ((nb_fitI hft).mono (by omega)) _ t HTM.out (HN1.out.mono (by omega)))
        rw [lx,lt']at C1;have C2:=fun w=>zh (exPlus_any w _ (toK rows (times.map Fq.q) i) hqn (HNT.out.mono (by omega)) _ ((r.to:Rat)*t) (isNum_Q _) (((nb_fitI hft).mul HN1.out).mono (by omega)))
        rw [← HTO.out,lt',ls]at C2;have HNN:Hid (IsNum (.agg #[.bool sb,.string sS,.bool zb,.string zS]) (toK rows (times.map Fq.q) (i+1))):=zh (by rw [← ls];exact isNum_Q _)
        clear lx lt' ls hqn hft hml;refine wp_region_by (fun w'=>Keep NoS wr w') [17] [([0,1,2,3,4,5,6,7,9,10,11,12],8),([],13),([],14),([],15),([16],17)] [] (by kernel_rfl) (by kernel_rfl) kp ?_
        intro X W hne hF hcl;have HCL:=zh hcl;have a0:=fun x=>((hF x).cell hln).trans q0
        have a1:=fun x=>((hF x).cell hln).trans q1
        have a2:=fun x=>((hF x).cell hln).trans q2
        have a3:=fun x=>((hF x).cell hln).trans q3
        have d0:=fun x=>((hF x).cell hbr).trans c0
        have d1:=fun x=>((hF x).cell hbr).trans c1
        have l0:=fun x=>(HB13.out.keep (hF x)).three
        clear hF hcl;simp only [wpPlan,pickOps,zl0,zl1,zl2,clsOf,Bool.false_eq_true,if_false]
        (repeat(quiet_step (fail)));refine wpQuiet_nil ?_
        refine wpAt rfl rfl fun K hK=> ?_
        go_simp;refine(C0 _).out.mono ?_;rintro e w1' ⟨rfl,hk1⟩;have k1:Keep NoS wr w1':=Keep.trans kp hk1 fun _ _ _ h=>h
        refine hK _ _ ⟨fun _=>HCL.out _ k1,?_⟩
        clear hK K hk1
        (repeat(quiet_step (fail)));refine wpQuiet_nil ?_
        refine wpAt rfl rfl fun K hK=> ?_
        go_simp;refine(CO _).out.mono ?_;rintro e w2' ⟨rfl,hk2⟩;have k2:=k1.both hk2;refine hK _ _ ⟨fun _=>HCL.out _ k2,?_⟩
        clear hK K hk2
        (repeat(quiet_step (fail)));refine wpQuiet_nil ?_
        refine wpAt rfl rfl fun K hK=> ?_
        go_simp;refine(C1 _).out.mono ?_;rintro e w3' ⟨rfl,hk3⟩;have k3:=k2.both hk3;refine hK _ _ ⟨fun _=>HCL.out _ k3,?_⟩
        clear hK K hk3
        (repeat(quiet_step (fail)));refine wpQuiet_nil ?_
        refine wpAt rfl rfl fun K hK=> ?_
        go_simp;refine(C2 _).out.mono ?_;rintro e w5' ⟨rfl,hk4⟩;have k4:=k3.both hk4;refine hK _ _ ⟨fun _=>HCL.out _ k4,?_⟩
        have HK4:=zh (HKX.out.both k4);have HB74:=zh (HB7.out.keep k4);have HBN4:=zh (HBN.out.keep k4);have HB134:=zh (HB13.out.keep k4);clear hK K hk4 k1 k2 k3 k4 a0 a1 a2 a3 d0 d1 q0 q1 q2 q3 g0 g1 g2 g3 c0 c1 hln hbr C0 C1 C2;obtain⟨xb',xS',yb',yS',q0,q1,q2,q3,hqn,g0,g1,g2,g3⟩:=HBN4.out.at (k:=N) (by rw [List.length_append,colL_len];simp)
        have hln:=HBN4.out.lt;clear hqn
        (repeat(quiet_step (fail)));refine wpQuiet_nil ?_
        refine wpAt rfl rfl fun K hK=> ?_
        go_simp;refine hK _ _ ⟨fun h=>(by simp at h),?_⟩
        have HBN5:=zh (HBN4.out.set (k:=N) HNN.out);rw [set_last colL_len.symm]at HBN5;have HB75:=zh (HB74.out.otherN (o:=N*4) HNE.out (.bool sb) (.string sS) (.bool zb) (.string zS));have HB135:=zh (HB134.out.otherN (o:=N*4) (Ne.symm HNE3.out.2) (.bool sb) (.string sS) (.bool zb) (.string zS));have HK5:=zh (keep_setN (o:=N*4) HK4.out HSN.out (.bool sb) (.string sS) (.bool zb) (.string zS));clear hK K q0 q1 q2 q3 g0 g1 g2 g3 hln;generalize (((w5'.setCell ⟨bn,N*4,none⟩ (.bool sb)).setCell ⟨bn,N*4+1,none⟩ (.string sS)).setCell ⟨bn,N*4+2,none⟩ (.bool zb)).setCell ⟨bn,N*4+3,none⟩ (.string zS)=w6 at*
        (repeat(quiet_step (fail)));refine wpQuiet_nil ?_
        refine NoPanic.normal ?_;go_wp2;go_roundw
        case rel=>exact⟨i+1,by omega,by go_num,HK5.out,HB75.out,HBN5.out⟩
        case measure=>simp [intOf];omega
end Go.Proofs.YtcnjcnjipddgeaaGreat
