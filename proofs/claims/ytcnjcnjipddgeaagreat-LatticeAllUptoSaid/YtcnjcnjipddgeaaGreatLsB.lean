/- The reference's AlongWays: the rows that say that ways come to what there is between two points. -/
import Derived.Test.YtcnjcnjipddgeaaGreatLdV
import Derived.Test.YtcnjcnjipddgeaaGreatLdP
import Derived.Test.YtcnjcnjipddgeaaGreatRefFits
namespace Go.Proofs.YtcnjcnjipddgeaaGreat
set_option maxRecDepth 100000
set_option maxHeartbeats 16000000
set_option linter.unusedSimpArgs false
set_option linter.unusedVariables false
open Go.ChangeShapes Go.WideShapes Go.RowKit
def rowK (ways:List (List Int))(a b:List Int)(k:Nat):Rw:=⟨ways.map fun u=>u.getD k 0,3,b.getD k 0-a.getD k 0⟩
theorem along_len (ways:List (List Int))(a b:List Int):(alongL ways a b).length=a.length:=by unfold alongL;simp
theorem along_succ {ways:List (List Int)}{a b:List Int}{k:Nat}(hk:k<a.length):(alongL ways a b).take (k+1)=(alongL ways a b).take k++ [rowK ways a b k]:=by
 have h:k<(alongL ways a b).length:=by rw [along_len];exact hk
 rw [List.take_succ_eq_append_getElem h]
 congr 2
 unfold alongL;simp [rowK]
theorem colK_succ {ways:List (List Int)}{k j:Nat}(hj:j<ways.length):(ways.take (j+1)).map (fun u=>u.getD k 0)=(ways.take j).map (fun u=>u.getD k 0)++ [ways[j].getD k 0]:=by
 rw [List.take_succ_eq_append_getElem hj,List.map_append];rfl
theorem along_any (w:World)(vw vf vt:Value)(ways:List (List Int))(a b:List Int)(n:Nat)(hw:IsWays w vw ways)(ha:IsInts w vf a)(hb:IsInts w vt b)(hal:a.length=n)(hbl:b.length=n)(h12:n≤12)(hwl:ways.length≤12)(hww:∀u∈ways,u.length=n∧∀x∈u,fitI x)(haf:∀x∈a,fitI x)(hbf:∀x∈b,fitI x):
  Calls Tryz.prog 14 #[vw,vf,vt] w fun e w'=>∃u,e= .returned u∧IsRows w' u (alongL ways a b)∧Keep NoS w w':=by
 have HA:=zh ha;have HB:=zh hb;have HW:=zh hw;have HAF:=zh haf;have HBF:=zh hbf;have HWW:=zh hww;obtain⟨oa,ca,rfl,_⟩:=ha.len;obtain⟨ob,cb,rfl,_⟩:=hb.len;obtain⟨ow,cw,rfl,_,_⟩:=hw.len;obtain⟨M,hM⟩:∃M,ways.length=M:=⟨_,rfl⟩;have HM:=zh hM;have HAL:=zh hal;have HBL:=zh hbl;have HLL:Hid ((alongL ways a b).length=n):=zh ((along_len ways a b).trans hal);have HFT:Hid (∀r∈alongL ways a b,(∀x∈r.of,I64 x)∧I64 r.kind∧I64 r.to):=zh fun r hr=>by
  unfold alongL at hr;obtain⟨k,hk,rfl⟩:=List.mem_map.1 hr;have hk:=List.mem_range.1 hk;refine⟨fun x hx=> ?_,by show I64 3;unfold I64;omega,?_⟩
  ·obtain ⟨u,hu,rfl⟩:=List.mem_map.1 hx
   rw [List.getD_eq_getElem?_getD]
   rcases hg:u[k]? with _ | y
   ·unfold I64;simp
   ·have:=(hww u hu).2 _ (List.mem_of_getElem? hg)
    unfold fitI at this;unfold I64;simp only [Option.getD_some];omega
  ·have h1:fitI (a.getD k 0):=by
    rw [List.getD_eq_getElem?_getD,List.getElem?_eq_getElem hk];exact haf _ (List.getElem_mem hk)
   have h2:fitI (b.getD k 0):=by
    rw [List.getD_eq_getElem?_getD,List.getElem?_eq_getElem (by omega)]
    exact hbf _ (List.getElem_mem _)
   unfold fitI at h1 h2;unfold I64;simp only;omega
 rw [hM]at hwl HW;rw [hal]at HA;rw [hbl]at HB;rw [hal,hbl,hM];clear ha hb hw haf hbf hww hM hal hbl;go_enter Tryz.func14,Tryz.ntmps14;go_wp2;go_loopw [7,8] (fun s x wr=>∃k:Nat,k≤n∧x= .int .i64 k∧Keep NoS w wr∧OwnQ wr w.heap.size s ((alongL ways a b).take k)) (fun _ x _=>(n-intOf x).toNat)
 case atStart=>exact⟨0,by omega,rfl,Keep.refl _ _,OwnQ.nil _ _⟩
 case round=>
  obtain⟨k,hk,rfl,hkr,hq⟩:=hrel;have HKR:=zh hkr;have HQ:=zh hq;obtain⟨oq,cq,hu,_⟩:=hq.len;rw [List.length_take_of_le (by rw [HLL.out];exact hk)]at hu
  subst hu;clear hkr hq
  by_cases hkl:k<n
  case neg=>
   have hlt:¬(k:Int)<(n:Int):=by omega
   obtain rfl:k=n:=by omega
   go_wp2;refine bodyPost_ret (by simp [results,Tryz.results14,go_sem];rfl) rfl ?_
   refine⟨_,rfl,?_,HKR.out⟩;have:=HQ.out;rw [List.take_of_length_le (by rw [HLL.out];exact Nat.le_refl _)]at this
   exact this.rows HFT.out
  case pos=>
   have hlt:(k:Int)<(n:Int):=by omega
   have hka:k<a.length:=by rw [HAL.out];exact hkl
   have hkb:k<b.length:=by rw [HBL.out];exact hkl
   obtain⟨ba,ra,cpa,hv,hba,pa⟩:=HA.out.at hka
   injection hv with q1 q2 q3
   clear q2;subst q1;subst q3;obtain⟨bb,rb,cpb,hv,hbb,pb⟩:=HB.out.at hkb
   injection hv with q1 q2 q3
   clear q2;subst q1;subst q3;have HSU:=zh (along_succ (ways:=ways) (b:=b) hka);have hrk:rowK ways a b k=⟨ways.map fun u=>u.getD k 0,3,b[k]-a[k]⟩:=by
    unfold rowK;rw [List.getD_eq_getElem?_getD,List.getD_eq_getElem?_getD,List.getElem?_eq_getElem hka,List.getElem?_eq_getElem hkb];rfl
   rw [hrk]at HSU;have hxa:=HAF.out _ (List.getElem_mem hka);have hxb:=HBF.out _ (List.getElem_mem hkb);have pa:=(HKR.out.cell hba).trans pa;have pb:=(HKR.out.cell hbb).trans pb;have hba:=Nat.lt_of_lt_of_le hba HKR.out.size;have hbb:=Nat.lt_of_lt_of_le hbb HKR.out.size;generalize a[k]=x at *;generalize b[k]=y at *;unfold fitI at hxa hxb;have hww:IntKind.i64.wrap (y-x)=y-x:=Go.IntWalk.i64_in _ (by omega)
   have HI:Hid (I64 (y-x)):=zh (by unfold I64;omega)
   clear hrk hka hkb hxa hxb;obtain⟨wk,hwk⟩:∃W:World,W=wr:=⟨_,rfl⟩;subst hwk;go_wp2;refine wp_region_by (fun w'=>Keep NoS wk w') [11] [([0,1,2,3,4,5,6,7,8,9],10),([],11)] [] (by kernel_rfl) (by kernel_rfl) kp ?_
   intro X W hne hF hcl;have HCL:=zh hcl;have hx0:=fun x=>((hF x).cell hba).trans pa
   have hx1:=fun x=>((hF x).cell hbb).trans pb
   clear hF hcl;simp only [wpPlan,pickOps,zl0,zl1,zl2,clsOf,Bool.false_eq_true,if_false]
   (repeat(quiet_step (fail)));refine wpQuiet_nil ?_
   refine wpAt rfl rfl fun K hK=> ?_
   go_simp;have k4:Keep NoS wk ((wk.alloc (.cells #[.slice none 0 0,.int .i64 0,.int .i64 0] TRw)).drew):=kp;refine hK _ _ ⟨fun _=>HCL.out _ k4,?_⟩
   have HB9:Hid (Blk ((wk.alloc (.cells #[.slice none 0 0,.int .i64 0,.int .i64 0] TRw)).drew) wk.heap.size #[.slice none 0 0,.int .i64 0,.int .i64 0]):=zh ((blk_at _ _ rfl).keep (Keep.refl NoS _).drew);have K4:=zh k4;clear hK K k4;generalize (wk.alloc (.cells #[.slice none 0 0,.int .i64 0,.int .i64 0] TRw)).drew=w4 at *;obtain⟨b9,hb9⟩:∃b9,b9=wk.heap.size:=⟨_,rfl⟩;rw [← hb9]at HB9;have H9:=zh hb9;rw [← hb9];clear hb9;obtain⟨c0,c1,c2,d0,d1,d2,dl⟩:=HB9.out.three
   (repeat(quiet_step (fail)));refine wpQuiet_nil ?_
   refine wpAt rfl rfl fun K hK=> ?_
   go_simp;refine hK _ _ ⟨fun h=>(by simp at h),?_⟩
   clear hK K hx0 hx1 c0 c1 c2 d0 d1 d2 dl
   (repeat(quiet_step (fail)));refine wpQuiet_nil ?_
   refine NoPanic.normal ?_;have HB9:Hid (Blk (((w4.setCell ⟨b9,0,none⟩ (.slice none 0 0)).setCell ⟨b9,1,none⟩ (.int .i64 3)).setCell ⟨b9,2,none⟩ (.int .i64 (y-x))) b9 #[.slice none 0 0,.int .i64 3,.int .i64 (y-x)]):=zh (by simpa using ((HB9.out.set 0 (.slice none 0 0)).set 1 (.int .i64 3)).set 2 (.int .i64 (y-x)))
   have K4:Hid (Keep NoS wk (((w4.setCell ⟨b9,0,none⟩ (.slice none 0 0)).setCell ⟨b9,1,none⟩ (.int .i64 3)).setCell ⟨b9,2,none⟩ (.int .i64 (y-x)))):=zh (by
    have h9:wk.heap.size≤b9:=by rw [H9.out];exact Nat.le_refl _
    exact keep_at (keep_at (keep_at K4.out _ h9) _ h9) _ h9)
   generalize ((w4.setCell ⟨b9,0,none⟩ (.slice none 0 0)).setCell ⟨b9,1,none⟩ (.int .i64 3)).setCell ⟨b9,2,none⟩ (.int .i64 (y-x))=w5 at *;clear pa pb hba hbb hww hne;go_wp2;have HB0:=HB9;have K50:=K4;go_loopw [10] (fun s wr=>∃j:Nat,j≤M∧s= .int .i64 j∧Keep NoS wk wr∧b9<wr.heap.size∧∃u,Blk wr b9 #[u,.int .i64 3,.int .i64 (y-x)]∧OwnI wr (b9+1) u ((ways.take j).map fun u=>u.getD k 0)) (fun s _=>(M-intOf s).toNat)
   case atStart=>exact⟨0,by omega,rfl,K50.out,HB0.out.lt,_,HB0.out,OwnI.nil _ _⟩
   case round=>
    obtain⟨j,hj,rfl,hkr,hbs,u,hb9,hou⟩:=hrel;have KX:=zh hkr;have HB9:=zh hb9;have HOU:=zh hou;have hlj:((ways.take j).map fun u=>u.getD k 0).length=j:=by rw [List.length_map,List.length_take,HM.out];omega
    obtain⟨ov,cv,hu⟩:=hou.len;rw [hlj]at hu;subst hu;clear hkr hb9 hou K50 HB0;obtain⟨p0,p1,p2,q0,q1,q2,l0⟩:=HB9.out.three
    by_cases hjl:j<M
    case neg=>
     have hltj:¬(j:Int)<(M:Int):=by omega
     obtain rfl:j=M:=by omega
     have hta:(ways.take j).map (fun u=>u.getD k 0)=ways.map fun u=>u.getD k 0:=by rw [List.take_of_length_le (by rw [HM.out];exact Nat.le_refl _)]
     rw [hta]at HOU hlj;have k6:Keep NoS wr (wr.alloc (.cells #[.slice ov j cv,.int .i64 3,.int .i64 (y-x)] TRw)):=(Keep.refl _ _).alloc _;have K6:=zh (KX.out.both k6);have h9:b9=wk.heap.size:=H9.out;obtain⟨v7,w7,hr7,ho7,hg7⟩:=(HQ.out.keep K6.out).app (r:=⟨ways.map fun u=>u.getD k 0,3,y-x⟩) (u:= .slice ov j cv) (b:=wr.heap.size) ((HOU.out.keep k6).lowerZ (by have:=HKR.out.size;omega)) (fun kk h1 h2=>by
      have g1:=HQ.out.lt kk h1;have g2:=HOU.out.block kk h2;omega) (blk_at _ _ rfl) (by rw [List.length_take_of_le (by rw [HLL.out];exact hk)];omega) (Nat.le_trans HKR.out.size K6.out.size)
     have K7:=zh ((HKR.out.both K6.out).grown hg7 fun kk hh=>HQ.out.block kk hh)
     rw [← HSU.out]at ho7;have HO7:=zh ho7;obtain⟨o7,c7,hs7,_⟩:=ho7.len;rw [List.length_take_of_le (by rw [HLL.out];omega)]at hs7
     subst hs7;clear k6 ho7 hg7 h9 hta;go_wp2_with (at_builtin;refine wpList_app_run _ _ 22 _ _ rfl rfl rfl rfl hr7 ?_);go_roundw
     case rel=>exact⟨k+1,by omega,by go_num,K7.out,HO7.out⟩
     case measure=>simp [intOf];omega
    case pos=>
     have hltj:(j:Int)<(M:Int):=by omega
     have hjw:j<ways.length:=by rw [HM.out];exact hjl
     obtain⟨bw,rw',cpw,sv,hv,hbw,pw,hsv⟩:=HW.out.at hjw
     injection hv with q1 q2 q3
     clear q2;subst q1;subst q3;obtain⟨hul,huf⟩:=HWW.out _ (List.getElem_mem hjw);have hku:k<ways[j].length:=by rw [hul];exact hkl
     have HCS:=zh (colK_succ (k:=k) hjw);obtain⟨bu,ru,cpu,hsve,hbu,pu⟩:=hsv.at hku;have hgk:ways[j].getD k 0=ways[j][k]:=by rw [List.getD_eq_getElem?_getD,List.getElem?_eq_getElem hku];rfl
     rw [hgk]at HCS;rw [hul]at hsve;subst hsve;have hfz:=huf _ (List.getElem_mem hku);have pw:=((HKR.out.both KX.out).cell hbw).trans pw;have pu:=((HKR.out.both KX.out).cell hbu).trans pu;have hbw:=Nat.lt_of_lt_of_le hbw (HKR.out.both KX.out).size;have hbu:=Nat.lt_of_lt_of_le hbu (HKR.out.both KX.out).size;clear hsv huf hgk;generalize ways[j][k]=z at *;unfold fitI at hfz;have HZ:Hid (I64 z):=zh (by unfold I64;omega)
     clear hfz hku hul hjw;obtain⟨w3,hw3⟩:∃W:World,W=wr:=⟨_,rfl⟩;subst hw3;go_wp2;clear p0 p1 p2 q0 q1 q2 l0;refine wp_region_by (fun w'=>Keep NoS w3 w') [10,11,12] [([0,1,2,3,4,5,6,7,8],9),([],10),([11],12)] [] (by kernel_rfl) (by kernel_rfl) kp ?_
     intro X W hne hF hcl;have HCL:=zh hcl;have hx0:=fun x=>(HB9.out.keep (hF x)).three
     have hx1:=fun x=>((hF x).cell hbw).trans pw
     have hx2:=fun x=>((hF x).cell hbu).trans pu
     clear hF hcl;simp only [wpPlan,pickOps,zl0,zl1,zl2,clsOf,Bool.false_eq_true,if_false]
     (repeat(quiet_step (fail)));refine wpQuiet_nil ?_
     refine wpAt rfl rfl fun K hK=> ?_
     go_simp;have k4:Keep NoS w3 ((w3.alloc (.cells #[.int .i64 z] TI)).drew):=kp;refine hK _ _ ⟨fun _=>HCL.out _ k4,?_⟩
     have HSM:Hid (IsInts ((w3.alloc (.cells #[.int .i64 z] TI)).drew) (.slice (some ⟨w3.heap.size,0,none⟩) 1 1) [z]):=zh ((one_int w3 z HZ.out).keep (Keep.refl NoS _).drew);have HOU4:=zh (HOU.out.keep k4);have HB94:=zh (HB9.out.keep k4);have K4:=zh (KX.out.both k4);have hsz4:b9+1≤((w3.alloc (.cells #[.int .i64 z] TI)).drew).heap.size:=by have:=k4.size;omega
     clear hK K;generalize (w3.alloc (.cells #[.int .i64 z] TI)).drew=w4 at *;generalize w3.heap.size=g4 at*
     (repeat(quiet_step (fail)));refine wpQuiet_nil ?_
     refine wpAt rfl rfl fun K hK=> ?_
     obtain⟨v5,w5',hr5,ho5,hg5⟩:=app_ints HOU4.out HSM.out (by rw [hlj];simp;omega) hsz4
     have hne:∀a,a<b9+1→∀b,(Value.slice ov j cv).ownBlock=some b→b≠a:=fun a ha b hb=>by have:=HOU4.out.block b hb;omega
     have K5:=zh (K4.out.grown hg5 fun k hk=>by have:=HOU4.out.block k hk;have:=H9.out;omega)
     have HB95:=zh (HB94.out.grown hg5 (hne _ (by omega)))
     have HO5:=zh ho5;have hbs5:=Nat.lt_of_lt_of_le hsz4 hg5.size;obtain⟨ob',cb',hu'⟩:=ho5.len;rw [List.length_append,hlj,List.length_singleton]at hu';subst hu';refine wp_app_run _ _ 24 _ _ rfl rfl rfl hr5 ?_;refine hK _ _ ⟨fun h=>(by simp at h),?_⟩
     clear hK K hr5 ho5 hg5 hne;simp only [Act.put,List.setIfInBounds_toArray,List.set_cons_zero,List.set_cons_succ];obtain⟨e0,e1',e2',f0,f1,f2,l5⟩:=HB95.out.three
     (repeat(quiet_step (fail)));refine wpQuiet_nil ?_
     refine wpAt rfl rfl fun K hK=> ?_
     go_simp;refine hK _ _ ⟨fun h=>(by simp at h),?_⟩
     clear hK K hx0 hx1 hx2 e0 e1' e2' f0 f1 f2
     (repeat(quiet_step (fail)));refine wpQuiet_nil ?_
     refine NoPanic.normal ?_;go_wp2;go_roundw
     case rel=>
      refine⟨j+1,by omega,by go_num,keep_at K5.out _ (by rw [H9.out];exact Nat.le_refl _),Nat.lt_of_lt_of_le l5 (keep_setCell _ _ _ _).size,_,by simpa using Blk.set HB95.out 0 _,?_⟩
      rw [HCS.out];exact World.ownsRow_other HO5.out (by intro hh;have:=HO5.out.block _ hh;omega)
     case measure=>simp [intOf];omega
end Go.Proofs.YtcnjcnjipddgeaaGreat
