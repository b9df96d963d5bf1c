/- Package cut: at, where no number is whole. For TopGaps. Package cut: Search, where no number is whole. For TopGaps. -/
import Derived.Test.YtmepglhdcphffaaGreatCuAA
import Derived.Test.YtmepglhdcphffaaGreatCuHH
import Derived.Test.YtmepglhdcphffaaGreatCuSS
import Derived.Test.YtmepglhdcphffaaGreatCuGG
import Derived.Test.YtmepglhdcphffaaGreatSpEE
namespace Go.Proofs.YtmepglhdcphffaaGreat
set_option maxRecDepth 100000
set_option maxHeartbeats 32000000
set_option linter.unusedSimpArgs false
set_option linter.unusedVariables false
open Go.ChangeShapes Go.WideShapes Go.RowKit Go.Maps
abbrev TBd:TypeId:=287
structure zbt (w0:World)(vr vi:Value)(rows:List Rw)(ints:List Bool):Prop where
 hr:iH w0 vr rows
 hi:dZ w0 vi ints
 n12:ints.length≤12
 m40:rows.length≤40
 ok:∀r∈rows,iA r (ints.length:Int)
def Fz (s:wJ):Prop:=max s.steps.length 3000+2*s.fuel≤7001
def JJ (n:Nat):List Rw→LP:=lpT n 1048576
def Vp (P:Nat→Prop)(w0:World)(bS:Nat)(vr vi:Value)(w:World)(r:rP)(e:Ending)(w':World):Prop:=∃c,e= .returned (.tuple #[.int .i64 r.st,c])∧bC w' w0.heap.size c r.c∧Vs P w0 w' bS vr vi r.s∧KT P w w'
def zem (w0:World)(bS:Nat)(vr vi:Value)(rows:List Rw)(ints:List Bool)(d:Nat):Prop:=∀(P:Nat→Prop) (w:World) (s:wJ) (g:Nat),Vs P w0 w bS vr vi s→IsB w w0.heap.size g []→Zo rows.length ints.length s.atoms→Fz s→
 Calls Tryz.prog 191 #[.pointer (some ⟨bS,0,none⟩),.map (some g)] w (Vp P w0 bS vr vi w (G9 (JJ ints.length) rows ints (d+1) s []))
def YG (m:Nat):List Int:=(List.range m).map fun(i:Nat)=>(i:Int)+1
theorem Vt (m:Nat):YG (m+1)=YG m++ [(m:Int)+1]:=by simp [YG,List.range_succ]
theorem Bw (m:Nat):(YG m).length=m:=by simp [YG]
theorem Zp (m n:Nat)(B:vH):allI m n B=YG m++(iL B n).map CB.id:=by
 unfold allI YG;congr 1
def sgJ (j:Nat):Int:=if j=0 then 1 else -1
def hB (B:vH)(k:Nat):Nat→List CB
 | 0=>iL B k
 | j+1=>hB B k j++(oM B (k:Nat) (sgJ j)).toList
theorem zbu (B:vH)(k:Nat):hB B k 2=iL B (k+1):=by
 simp only [hB,iL];rfl
theorem zbv (B:vH)(k j:Nat)(hk:k<12)(hj:j≤2):(hB B k j).length≤24:=by
 have h1:=zK (B:=B) k;have h2:∀s,(oM B (k:Nat) s).toList.length≤1:=fun s=>by rcases oM B (k:Nat) s with _ | x<;>simp
 have a:=h2 (sgJ 0);have b:=h2 (sgJ 1);obtain rfl | rfl | rfl:j=0∨j=1∨j=2:=om
 ·simp only [hB];omega
 ·simp only [hB,List.length_append];omega
 simp only [hB,List.length_append];omega
structure Vu (w1 wr:World)(rows:List Rw)(CL:List CB)(u6 u7:Value)(zs:List xQ):Prop where
 z:zs.map xQ.r=rows++CL.map CB.row
 ok:∀x∈zs,aR w1 x.sv x.r.of∧dA x.r.kind∧dA x.r.to∧xW x.sv
 a:wr.ownsRow w1.heap.size PL 3 u6 (rows.length+CL.length) (zs.flatMap JK)
 b:wr.ownsRow w1.heap.size TI 1 u7 (rows.length+CL.length) (iv (YG rows.length++CL.map CB.id))
 k:Keep au w1 wr
theorem Vu.keep {w1 wr w':World}{rows:List Rw}{CL:List CB}{u6 u7:Value}{zs:List xQ}(h:Vu w1 wr rows CL u6 u7 zs)(k:Keep au wr w'):Vu w1 w' rows CL u6 u7 zs:=⟨h.z,h.ok,bR h.a k,bR h.b k,h.k.both k⟩
theorem Vu.rows {w1 wr:World}{rows:List Rw}{CL:List CB}{u6 u7:Value}{zs:List xQ}(h:Vu w1 wr rows CL u6 u7 zs):iH wr u6 (rows++CL.map CB.row):=by
 have hl:zs.length=rows.length+CL.length:=by
  have:=congrArg List.length h.z;simpa using this
 have:kC w1 wr w1.heap.size u6 (rows++CL.map CB.row):=⟨zs,h.z,h.ok,by unfold aO;rw [hl];exact h.a⟩;exact this.rows h.k
theorem Vu.ints {w1 wr:World}{rows:List Rw}{CL:List CB}{u6 u7:Value}{zs:List xQ}(h:Vu w1 wr rows CL u6 u7 zs):bC wr w1.heap.size u7 (YG rows.length++CL.map CB.id):=by
 unfold bC;rw [List.length_append,Bw,List.length_map];exact h.b
theorem JL {lp:List Rw→LP}{rows:List Rw}{ints:List Bool}{rc:wJ→vH→rP}{s:wJ}{B:vH}(h:lp (zL rows ints.length B)= .hungry):uq lp rows ints rc s B=⟨3,[],s⟩:=by unfold uq;rw [h]
theorem Zq {lp:List Rw→LP}{rows:List Rw}{ints:List Bool}{rc:wJ→vH→rP}{s:wJ}{B:vH}{l:List Rat}(h:lp (zL rows ints.length B)= .no l):
  (allFit l l.length=true→uq lp rows ints rc s B=⟨2,(gN (cK l (allI rows.length ints.length B))).map (·.1),{s with steps:=s.steps++ [⟨4,(gN (cK l (allI rows.length ints.length B))).map (·.1),(gN (cK l (allI rows.length ints.length B))).map (·.2),Ro⟩]}⟩)∧(allFit l l.length=false→uq lp rows ints rc s B=⟨2,[],{s with much:=true}⟩):=by
 unfold uq;rw [h];exact⟨fun e=>by simp only [e,if_true],fun e=>by simp only [e];rfl⟩
theorem Vv {lp:List Rw→LP}{rows:List Rw}{ints:List Bool}{rc:wJ→vH→rP}{s:wJ}{B:vH}{pt:List Rat}(h:lp (zL rows ints.length B)= .yes pt):
  (uw ints pt=none→uq lp rows ints rc s B=⟨1,[],{s with point:=pt.map eX,much:=s.much || !allFit pt pt.length}⟩)∧(∀k,uw ints pt=some k→uq lp rows ints rc s B=PO rows.length rc s B k (Vw (pt.getD k 0))):=by
 unfold uq;rw [h];exact⟨fun e=>by simp only [e],fun k e=>by simp only [e]⟩
theorem at_root (w0:World)(bS:Nat)(He:Option Addr)(cr:Nat)(oi:Option Addr)(ci:Nat)(rows:List Rw)(ints:List Bool)(hx:zbt w0 (.slice He rows.length cr) (.slice oi ints.length ci) rows ints)(hI:∀i,ints.getD i false=false)(d:Nat):zem w0 bS (.slice He rows.length cr) (.slice oi ints.length ci) rows ints d:=by
 intro P w s g h hBm ha Nh;have hb:Cq rows.length ints.length s.atoms []:=Vx;obtain⟨B,hBe⟩:∃B:vH,B= []:=⟨_,rfl⟩;rw [← hBe]at hBm hb ⊢;have HBE:=zh hBe;have HI:=zh hI;clear hBe hI;obtain⟨va,vt,vp,xs,ys,hc⟩:=h;obtain⟨⟨oa,ca,rfl⟩,⟨ot,ct,rfl⟩,op,cp,rfl⟩:=hc.forms;have HC:=zh hc;have HX:=zh hx;have HBM:=zh hBm;have Ns:=zh ha;have Us:=zh hb;have HPH:=zh Nh;have hn12:ints.length≤12:=hx.n12;have hm40:rows.length≤40:=hx.m40;obtain⟨t0,t1,t2,t3,t4,t5,t6,lS⟩:=yu hc.blk;have t2f:=hc.blk.free 2;clear hc hx hBm ha hb;unfold Vp;by_cases h0:s.fuel=0
 case pos=>
  have rR:Hid (G9 (JJ ints.length) rows ints (d+1) s B=⟨3,[],s⟩):=zh (by unfold G9;rw [if_pos h0]);replace t2:w.cell? ⟨bS,2,none⟩=some (.int .i64 0):=by rw [t2,h0];rfl
  clear h0 Nh;go_enter Tryz.func191,Tryz.ntmps191;go_wp2;refine bodyPost_ret (by simp [results,Tryz.results191,go_sem];rfl) rfl ?_;rw [rR.out];exact⟨_,rfl,bC.nil _ _,⟨_,_,_,_,_,HC.out⟩,KT.refl _⟩
 obtain⟨f,hfu⟩:∃f,s.fuel=f+1:=⟨s.fuel-1,om⟩;replace t2:w.cell? ⟨bS,2,none⟩=some (.int .i64 ((f:Int)+1)):=by rw [t2,hfu];rfl
 have hf2000:f≤2000:=by unfold Fz at Nh;omega
 have e0:((f:Int)+1==0)=false:=by rw [beq_eq_false_iff_ne];omega
 obtain⟨s1,hs1⟩:∃s1:wJ,s1= {s with fuel:=f}:=⟨_,rfl⟩;have rR:Hid (G9 (JJ ints.length) rows ints (d+1) s B=uq (JJ ints.length) rows ints (G9 (JJ ints.length) rows ints d) s1 B):=zh (by unfold G9;rw [if_neg h0,hs1,hfu];rfl);have Ns:Hid (Zo rows.length ints.length s1.atoms):=zh (by rw [hs1];exact Ns.out);have Us:Hid (Cq rows.length ints.length s1.atoms B):=zh (by rw [hs1];exact Us.out);have HPH:Hid (Fz s1):=zh (by have:=HPH.out;unfold Fz at this ⊢;rw [hs1];simp only;omega);have hsl:s1.steps.length≤7001:=by have:=HPH.out;unfold Fz at this;omega
 have Rp:Hid (wW P w0 (w.setCell ⟨bS,2,none⟩ (.int .i64 (f:Int))) bS (.slice He rows.length cr) (.slice oi ints.length ci) s1 (.slice oa s.atoms.length ca) (.slice ot s.steps.length ct) (.slice op s.point.length cp) xs ys):=zh (by
  rw [hs1];exact HC.out.set 2 _ sm rfl rfl HC.out.p)
 have T1:Hid (KT P w (w.setCell ⟨bS,2,none⟩ (.int .i64 (f:Int)))):=zh (KT.set HC.out.b (.inr (.inr rfl)) (fun hp=>(HC.out.av bS hp).2.1 rfl) _);clear h0 Nh hfu hs1 HC;go_enter Tryz.func191,Tryz.ntmps191;go_upto_region 4 with fail;clear t0 t1 t2 t3 t4 t5 t6 lS t2f e0;generalize w.setCell ⟨bS,2,none⟩ (.int .i64 (f:Int))=w1 at *;obtain⟨t0,t1,t2,t3,t4,t5,t6,lS⟩:=yu Rp.out.blk;have CC:=zh (Hf w1 (.slice He rows.length cr) rows (HX.out.hr.keep Rp.out.k) om);go_wp2_with fail;refine CC.out.mono ?_;rintro e w2 ⟨u,rfl,hu2,hk2⟩;have k2:Keep au w1 w2:=Keep.trans kp hk2 fun _ _ _ h=>h;obtain⟨zs0,hz1,hz2,hz3⟩:=hu2;have hzl:zs0.length=rows.length:=by rw [← hz1,List.length_map]
 unfold aO at hz3;rw [hzl]at hz3;obtain⟨ou,cu,rfl⟩:=dJ hz3;have K2:=zh k2;have HZ1:=zh hz1;have HZ2:=zh hz2;have HZ3:=zh hz3;clear hk2 k2 hz1 hz2 hz3 hzl CC t0 t1 t2 t3 t4 t5 t6 lS;go_wp2;go_loopw [41,7] (fun s u wr=>∃k:Nat,k≤rows.length∧s= .int .i64 k∧bC wr w2.heap.size u (YG k)∧Keep au w2 wr) (fun s _ _=>(rows.length-intOf s).toNat)
 case atStart=>exact⟨0,om,rfl,bC.nil _ _,Keep.refl _ _⟩
 obtain⟨k,hk,rfl,hou,hkr⟩:=hrel;have KR:=zh hkr;have zD:=zh hou;obtain⟨ov,cv,hvv⟩:=hou.len;rw [Bw]at hvv;subst hvv;clear hou hkr;by_cases hkl:k<rows.length
 case pos=>
  have hlt:(k:Int)<(rows.length:Int):=om;have ka:Keep au wr (wr.alloc (.cells #[.int .i64 ((k:Int)+1)] TI)):=(Keep.refl _ _).alloc _;obtain⟨v4,w4,hr4,ho4,hg4⟩:=yx (zD.out.keep ka) (Ho wr ((k:Int)+1) (by unfold dA;omega)) (by rw [Bw];simp only [List.length_singleton];omega) (KR.out.both ka).size;have K4:=zh ((KR.out.both ka).grown hg4 fun k hk=>bC.block zD.out k hk);rw [← Vt]at ho4;have Rs:=zh ho4;clear ka ho4 hg4;go_wp2_with (at_builtin;refine aV _ _ 22 _ _ rfl rfl rfl rfl hr4 ?_);go_roundw
  case rel=>exact⟨k+1,om,gn,Rs.out,K4.out⟩
  simp [intOf];omega
 have hlt:¬(k:Int)<(rows.length:Int):=om;obtain rfl:rows.length=k:=om;have HL0:Hid (Vu w1 wr rows (hB B 0 0) (.slice ou rows.length cu) (.slice ov rows.length cv) zs0):=zh ⟨by simp [hB,iL,HZ1.out],HZ2.out,by simp only [hB,iL];exact bR HZ3.out KR.out,by
  simp only [hB,iL,List.map_nil,List.append_nil,List.length_nil,Nat.add_zero];have h:=World.ownsRow_mono zD.out K2.out.size;rw [Bw]at h;exact h,K2.out.both KR.out⟩
 clear HZ1 HZ2 HZ3 zD KR hk;obtain⟨wk,rfl⟩:∃W:World,W=wr:=⟨_,rfl⟩;obtain⟨t0,t1,t2,t3,t4,t5,t6,lS⟩:=yu (Rp.out.keep HL0.out.k).blk;go_wp2;go_loopw [55,6,7] (fun s u v wr=>∃(k:Nat) (zs:List xQ),k≤ints.length∧s= .int .i64 k∧Vu w1 wr rows (hB B k 0) u v zs) (fun s _ _ _=>(ints.length-intOf s).toNat)
 case atStart=>exact⟨0,zs0,om,rfl,HL0.out⟩
 obtain⟨k,zs,hk,rfl,hal⟩:=hrel;have PS:=zh hal;obtain⟨o6,c6,rfl⟩:=dJ hal.a;obtain⟨o7,c7,rfl⟩:=dJ hal.b;have n58:(Value.slice o7 (rows.length+(hB B k 0).length) c7).ownBlock≠some wr.heap.size:=fun e=>by have:=(rH hal.b e).2;omega
 clear hal;by_cases hkl:k<ints.length
 case pos=>
  have hlt:(k:Int)<(ints.length:Int):=om;have ka:Keep au wr (wr.alloc (.cells #[.int .i64 1,.int .i64 (-1)] TI)):=(Keep.refl _ _).alloc _;have zen:Hid ((wr.alloc (.cells #[.int .i64 1,.int .i64 (-1)] TI)).heap[wr.heap.size]? =some (.cells #[.int .i64 1,.int .i64 (-1)] TI (0,0))):=zh (aK _ _ _ rfl);have PS:=zh (PS.out.keep ka);have N58:=zh n58;clear n58 HL0 t0 t1 t2 t3 t4 t5 t6 lS;go_upto_region 15 with fail;clear ka;generalize wr.alloc (.cells #[.int .i64 1,.int .i64 (-1)] TI)=w5 at *;generalize wr.heap.size=b58 at *;have zeo:Hid (w5.heap[b58]? =some (.cells #[.int .i64 1,.int .i64 (-1)] TI (0,0))):=zen;go_loopw [60,6,7] (fun s u v wr=>∃(j:Nat) (zs:List xQ),j≤2∧s= .int .i64 j∧Vu w1 wr rows (hB B k j) u v zs∧wr.heap[b58]? =some (.cells #[.int .i64 1,.int .i64 (-1)] TI (0,0))∧v.ownBlock≠some b58) (fun s _ _ _=>(2-intOf s).toNat)
  case atStart=>exact⟨0,zs,om,rfl,PS.out,zeo.out,N58.out⟩
  obtain⟨j,ys5,hj,rfl,hal,hk58,hn58⟩:=hrel;have Zr:=zh hk58;obtain⟨o8,c8,rfl⟩:=dJ hal.a;obtain⟨o9,c9,rfl⟩:=dJ hal.b;have PS:=zh hal;have zep:=zh hn58;clear hal hk58 hn58;by_cases hj2:j<2
  case neg=>
   have hlt2:¬(j:Int)<2:=om;obtain rfl:j=2:=om;have YH:=PS;rw [zbu]at YH;clear PS;have YH:Hid (Vu w1 wr rows (hB B (k+1) 0) (.slice o8 (rows.length+(hB B k 2).length) c8) (.slice o9 (rows.length+(hB B k 2).length) c9) ys5):=YH;go_wp2;go_roundw
   case rel=>exact⟨k+1,ys5,om,gn,YH.out⟩
   simp [intOf];omega
  have hlt2:(j:Int)<2:=om;have hML:=zbv B k j om om;obtain⟨L,clock,hM,hL⟩:=(HBM.out.kt T1.out);have hMr:=hM.kt (.of (PS.out.k):KT P w1 wr);have HGB:=zh (hL (k:Int) (sgJ j));have HOW:=zh hM.own;have x58:wr.cell? ⟨b58,j,none⟩=some (.int .i64 (sgJ j)):=by
   obtain rfl | rfl:j=0∨j=1:=om
   ·exact cell_of_heap (o:=0) Zr.out rfl
   exact cell_of_heap (o:=1) Zr.out rfl
  have l58:b58<wr.heap.size:=lt_of_heap Zr.out;have zcI:Hid (hB B k (j+1)=hB B k j++(oM B (k:Nat) (sgJ j)).toList):=zh rfl;generalize hsg:sgJ j=sg at *;have HMH:=zh hMr.h;clear hM hL hMr hsg;rcases hg:Bn L (k:Int) sg with _ | en
  case none=>
   rw [hg]at HGB;have HSU:Hid (hB B k (j+1)=hB B k j):=zh (by rw [zcI.out,←HGB.out];simp);have hv:JM L (k:Int) sg= .tuple #[.agg #[.slice none 0 0,.int .i64 0,.int .i64 0,.int .i64 0],.bool false]:=by unfold JM;rw [hg]
   clear HGB zcI hg HOW;go_wp2_with (refine Ht _ rfl _ _ rfl g L clock (k:Int) sg _ rfl rfl HMH.out hv ?_);have ke:Keep au wr (wr.alloc (.cells #[.slice none 0 0,.int .i64 0,.int .i64 0,.int .i64 0] TBd)):=(Keep.refl _ _).alloc _;go_roundw
   case rel=>exact⟨j+1,ys5,om,gn,by rw [HSU.out];exact PS.out.keep ke,(ke.block b58 l58 fun _ h=>h).trans Zr.out,zep.out⟩
   simp [intOf];omega
  rw [hg]at HGB;rw [HBE.out]at HGB;exact absurd HGB.out (by simp [oM])
 have hlt:¬(k:Int)<(ints.length:Int):=om;obtain rfl:ints.length=k:=om;have HRW:=zh (show iH wr (.slice o6 (rows.length+(hB B ints.length 0).length) c6) (zL rows ints.length B)from PS.out.rows);have HIW:=zh (show bC wr w1.heap.size (.slice o7 (rows.length+(hB B ints.length 0).length) c7) (allI rows.length ints.length B)from by rw [Zp];exact PS.out.ints);have Rt:=zh (Zt hn12 HX.out.ok Us.out);have hbl:=zK (B:=B) ints.length;have hRl:(zL rows ints.length B).length=rows.length+(hB B ints.length 0).length:=by simp [zL,hB]
 have hIl:(allI rows.length ints.length B).length=rows.length+(hB B ints.length 0).length:=by simp [allI,hB]
 have h64:(zL rows ints.length B).length≤64:=by rw [hRl];show rows.length+(iL B ints.length).length≤64;omega
 have Zu:=zh (Rp.out.keep PS.out.k);have T2:=zh (T1.out.trans (.of PS.out.k));have zcJ:=zh ((HBM.out.kt T1.out).kt (.of PS.out.k:KT P w1 wr));have CN:=zh (fun w' (k:Keep au wr w')=>Nt w' _ _ ints.length (HRW.out.keep k) Rt.out hn12 h64);have Vy:=zh (zM hn12 h64 Rt.out);have LPO:Hid (zcK ints.length (JJ ints.length)):=zh (za1 hn12 _);obtain⟨R,hR⟩:∃R,zL rows ints.length B=R:=⟨_,rfl⟩;have HR:=zh hR;rw [hR]at HRW Rt CN Vy hRl h64;obtain⟨M,hM⟩:∃M,rows.length+(hB B ints.length 0).length=M:=⟨_,rfl⟩;rw [hM]at HRW HIW CN hRl hIl ⊢;clear hM hR PS Rp T1 HL0 K2 hk t0 t1 t2 t3 t4 t5 t6 lS;obtain⟨t0,t1,t2,t3,t4,t5,t6,lS⟩:=yu Zu.out.blk;go_wp2_with fail;refine(CN.out _ kp).mono ?_;rintro e w3 ⟨bT,rfl,hT⟩;have HT:=zh hT;have K3:Hid (Keep au wr w3):=zh (Keep.trans kp (by obtain⟨L,hL⟩:=hT;exact hL.k) fun _ _ _ h=>h);clear hT CN t0 t1 t2 t3 t4 t5 t6;have CF:=zh (fun w' (k:Keep au w3 w')=>Vz _ w' bT _ ints.length R _ 1048576 (HT.out.keep k) Vy.out (Nat.le_refl _) om);rw [show((1048576:Nat):Int)=1048576 from rfl]at CF;go_wp2_with fail;refine(CF.out _ kp).mono ?_;rintro e w4 hcase;clear CF;rcases hcase with⟨T,nm',hfe,rfl,hT4⟩ | ⟨l,u,hfe,rfl,hu,hk4⟩ | ⟨hfe,rfl,hk4⟩
 case inr.inr=>
  have hl:JJ ints.length R= .hungry:=by unfold JJ lpT;rw [hfe]
  rw [← HR.out]at hl;have VA:=rR.out.trans (JL hl);go_wp2;refine bodyPost_ret (by simp [results,Tryz.results191,go_sem];rfl) rfl ?_;rw [VA];exact⟨_,rfl,bC.nil _ _,⟨_,_,_,_,_,Zu.out.keep hk4⟩,T2.out.trans (.of hk4)⟩
 case inr.inl=>
  have hl:JJ ints.length R= .no l:=by unfold JJ lpT;rw [hfe]
  rw [← HR.out]at hl;have VA:=zh (Zq (rc:=G9 (JJ ints.length) rows ints d) (s:=s1) hl);have Zv:=LPO.out.no _ l (by rw [HR.out];exact h64) (by rw [HR.out];exact Rt.out) hl;obtain⟨Tn,bn,way,hIT,hBK,hEN,hll⟩:=Hu 1048576 _ l Vy.out hfe;have hnb:∀q∈l,NB 1000 q:=by
   rw [hll];have hi:=(qK hBK.mem).1;rw [hIT.wf.bl,hIT.hr]at hi;exact Hw hIT hi hBK.way _ (by rw [hIT.hn,hIT.hr];exact Nat.le_refl _)
  have hlen:l.length=M:=by rw [Zv.1,HR.out,hRl]
  have Zw:=VB Zv.1 (hIl.trans (hRl.symm.trans (by rw [HR.out]))) Zv.2.1;have hne:l≠ []:=by
   intro h0;rw [h0]at Zw;exact Zw (by simp [cK])
  obtain⟨ou',cu',lu,hue,h1,h2,h3,h4⟩:=hu;obtain⟨gu,go,rfl,h5⟩:=h4 hne;have hu:jf w4 u l:=⟨_,cu',lu,hue,h1,h2,h3,fun _=>⟨gu,go,rfl,h5⟩⟩;have CRF:=zh (fun w' (k:Keep au w4 w')=>JN w0 w' bS _ _ s1 u _ l (allI rows.length ints.length B) M ⟨_,_,_,_,_,(Zu.out.keep hk4).keep k⟩ (hu.keep k) hnb (((HIW.out.keep hk4).keep k).ints (fun x hx=>by have:=JO hm40 Ns.out Us.out x hx;unfold dA;omega)) hlen hIl om (JO hm40 Ns.out Us.out) (JQ (Zx Us.out)) Zw om);rw [hlen]at hue VA;have K4:=zh hk4;subst hue;clear hfe HT hIT hBK hEN hll hnb hlen hne h1 h2 h3 h4 h5 hu hk4 hl Zv Zw;have hnil:∀w,Sem.run Tryz.prog (binOp BinOp.neq 86 (Value.slice (some ⟨gu,go,none⟩) M cu') (Value.slice none 0 0)) w= .ok (.bool true) w:=fun w=>rfl;go_wp2_with fail;refine(CRF.out _ kp).mono ?_;rintro e w5 ⟨hyes,hno,kt5⟩;have T5:=zh ((T2.out.trans (.of K4.out)).trans ((KT.of (P:=P) (show Keep au w4 w4 from Keep.refl _ _)).trans kt5));clear CRF hnil kt5 K4 Zu;rcases hfit:allFit l M with _ | _
  case false=>
   obtain⟨rfl,hs5⟩:=hno hfit;have Ia:=zh (rR.out.trans (VA.out.2 hfit));clear hyes hno VA rR;obtain⟨va5,vt5,vp5,xs5,ys5,hc5⟩:=hs5;obtain⟨t0,t1,t2,t3,t4,t5,t6,lS5⟩:=yu hc5.blk;have t6f:=hc5.blk.free 6;have Nu:=zh hc5;clear hc5 t0 t1 t2 t3 t4 t5;have hfin:Vs P w0 (w5.setCell ⟨bS,6,none⟩ (.bool true)) bS (.slice He rows.length cr) (.slice oi ints.length ci) {s1 with much:=true}:=⟨_,_,_,_,_,Nu.out.set 6 _ sm rfl rfl Nu.out.p⟩;have hkt:=T5.out.trans (KT.set Nu.out.b (.inr (.inr rfl)) (fun hp=>(Nu.out.av bS hp).2.1 rfl) (.bool true) (i:=6));have Ct:=zh hfin;have FB:=zh hkt;clear hfin hkt Nu;generalize s1.much=mu at*;rcases mu with _ | _
   case false=>
    go_simp
    repeat go_step
    refine bodyPost_ret (by simp [results,Tryz.results191,go_sem];rfl) rfl ?_;rw [Ia.out];exact⟨_,rfl,bC.nil _ _,Ct.out,FB.out⟩
   go_simp
   repeat go_step
   refine bodyPost_ret (by simp [results,Tryz.results191,go_sem];rfl) rfl ?_;rw [Ia.out];exact⟨_,rfl,bC.nil _ _,Ct.out,FB.out⟩
  obtain⟨u5,rfl,ho5,hs5⟩:=hyes hfit;have Ia:=zh (rR.out.trans (VA.out.1 hfit));clear hyes hno VA rR;obtain⟨ou5,cu5,hv5⟩:=ho5.len;rw [List.length_map]at hv5;subst hv5;obtain⟨va5,vt5,vp5,xs5,ys5,hc5⟩:=hs5;obtain⟨t0,t1,t2,t3,t4,t5,t6,lS5⟩:=yu hc5.blk;have t6f:=hc5.blk.free 6;have kts:KT P w5 (w5.setCell ⟨bS,6,none⟩ (.bool s1.much)):=KT.set hc5.b (.inr (.inr rfl)) (fun hp=>(hc5.av bS hp).2.1 rfl) _;have Ct:=zh (show Vs P w0 (w5.setCell ⟨bS,6,none⟩ (.bool s1.much)) bS (.slice He rows.length cr) (.slice oi ints.length ci) _ from⟨_,_,_,_,_,hc5.set 6 (.bool s1.much) sm rfl rfl hc5.p⟩);have FB:=zh (T5.out.trans kts);have HOF:=zh (kts.ints ho5);clear hc5 t0 t1 t2 t3 t4 t5 kts ho5 T5;generalize s1.much=mu at*;rcases mu with _ | _
  case false=>
   go_simp
   repeat go_step
   refine bodyPost_ret (by simp [results,Tryz.results191,go_sem];rfl) rfl ?_;rw [Ia.out];exact⟨_,rfl,HOF.out,Ct.out,FB.out⟩
  go_simp
  repeat go_step
  refine bodyPost_ret (by simp [results,Tryz.results191,go_sem];rfl) rfl ?_;rw [Ia.out];exact⟨_,rfl,HOF.out,Ct.out,FB.out⟩
 have hl:JJ ints.length R= .yes (T.ptK T.n):=by unfold JJ lpT;rw [hfe]
 rw [← HR.out]at hl;have VA:=zh (Vv (rc:=G9 (JJ ints.length) rows ints d) (s:=s1) hl);have hly:=LPO.out.yes _ _ (by rw [HR.out];exact h64) (by rw [HR.out];exact Rt.out) hl;obtain⟨hIT,_⟩:=Cu 1048576 _ T Vy.out hfe;have HNP:=zh (zbw hIT);have CP:=zh (fun w' (k:Keep au w4 w')=>Ru _ w' bT nm' T (hT4.keep k) hIT.wf hIT.nb);have K4:Hid (Keep au wr w4):=zh (by obtain⟨L,hL⟩:=hT4;exact hL.k);clear hfe HT hT4 hIT hl;obtain⟨pt,hpt⟩:∃pt,T.ptK T.n=pt:=⟨_,rfl⟩;rw [hpt]at VA hly HNP CP;have Zy:=zh hly;have hnil:∀w,Sem.run Tryz.prog (binOp BinOp.neq 86 (Value.slice none 0 0) (Value.slice none 0 0)) w= .ok (.bool false) w:=fun w=>kr;go_wp2_with fail;refine(CP.out _ kp).mono ?_;rintro e w5 ⟨u,rfl,hu5,hk5⟩;have k5:Keep au w4 w5:=Keep.trans kp hk5 fun _ _ _ h=>h;have HU5:=zh hu5;obtain⟨ou,cu',hvu,_,_⟩:=hu5.len;have hpl:pt.length=ints.length:=hly.1;rw [hpl]at hvu;subst hvu;have Nu:=zh ((Zu.out.keep K4.out).keep k5);have T5:=zh (T2.out.trans (.of (K4.out.both k5)));have zcL:=zh (zcJ.out.kt (.of (K4.out.both k5):KT P wr w5));have CO:=zh (fun w' (k:Keep au w5 w')=>VD w' bS _ _ _ _ _ _ _ ints _ pt (Nu.out.keep k).blk (HX.out.hi.keep (Nu.out.keep k).k) (HU5.out.keep k) HNP.out hpl);clear CP hu5 hk5 k5 hly hnil K4 Zu T2 zcJ hpt Vy Rt HRW HIW;go_wp2_with fail;refine(CO.out _ kp).mono ?_;rintro e w6 ⟨rfl,hk6⟩;have k6:Keep au w5 w6:=Keep.trans kp hk6 fun _ _ _ h=>h;have HU6:=zh (HU5.out.keep k6);have HC6:=zh (Nu.out.keep k6);have T6:=zh (T5.out.trans (.of k6));have zeq:=zh (zcL.out.kt (.of k6:KT P w5 w6));clear CO hk6 k6 HU5 Nu T5 zcL;rcases hok:uw ints pt with _ | kk
 case none=>
  have Ia:=zh (rR.out.trans (VA.out.1 hok));have e1:Cv ints pt= -1:=by unfold Cv;rw [hok]
  rw [e1];clear VA rR hok e1;have CT:=zh (fun w' (k:Keep au w6 w')=>Ib w' _ _ (HU6.out.keep k) HNP.out om);go_wp2_with fail;refine(CT.out _ kp).mono ?_;rintro e w7 ⟨u7,rfl,hu7,hk7⟩;have k7:Keep au w6 w7:=Keep.trans kp hk7 fun _ _ _ h=>h;obtain⟨ou7,cu7,hv7⟩:=dJ hu7;rw [List.length_map,hpl]at hv7;subst hv7;have hc7:=HC6.out.keep k7;have zcM:lJ w7 w0.heap.size (.slice ou7 ints.length cu7) (pt.map eX):=World.ownsRow_mono hu7 HC6.out.k.size;obtain⟨t0,t1,t2,t3,t4,t5,t6,lS7⟩:=yu hc7.blk;have t5f:=hc7.blk.free 5;have t6f:=hc7.blk.free 6;have hcA:wW P w0 (w7.setCell ⟨bS,5,none⟩ (.slice ou7 ints.length cu7)) bS (.slice He rows.length cr) (.slice oi ints.length ci) {s1 with point:=pt.map eX} _ _ (.slice ou7 ints.length cu7) _ _:=hc7.set 5 _ sm rfl rfl zcM;have ktA:KT P w7 (w7.setCell ⟨bS,5,none⟩ (.slice ou7 ints.length cu7)):=KT.set hc7.b (.inr (.inr rfl)) (fun hp=>(hc7.av bS hp).2.1 rfl) _;have hcB:=fun(b:Bool)=>show Vs P w0 ((w7.setCell ⟨bS,5,none⟩ (.slice ou7 ints.length cu7)).setCell ⟨bS,6,none⟩ (.bool b)) bS (.slice He rows.length cr) (.slice oi ints.length ci) {s1 with point:=pt.map eX,much:=b}from⟨_,_,_,_,_,hcA.set 6 (.bool b) sm rfl rfl hcA.p⟩;have ktB:=fun(b:Bool)=>(T6.out.trans (.of k7)).trans (ktA.trans (KT.set (P:=P) hcA.b (.inr (.inr rfl)) (fun hp=>(hcA.av bS hp).2.1 rfl) (.bool b) (i:=6)));have HFB:=zh hcB;have EK:=zh ktB;clear hcA ktA hcB ktB hc7 hu7 zcM hk7 k7 t0 t1 t2 t3 t4 CT HC6 T6 HU6 zeq;generalize s1.much=mu at *;generalize allFit pt pt.length=af at*;rcases mu with _ | _<;>rcases af with _ | _
  ·have Ct:=zh (HFB.out true);have FB:=zh (EK.out true);go_simp
   repeat go_step
   refine bodyPost_ret (by simp [results,Tryz.results191,go_sem];rfl) rfl ?_;rw [Ia.out];exact⟨_,rfl,bC.nil _ _,Ct.out,FB.out⟩
  ·have Ct:=zh (HFB.out false);have FB:=zh (EK.out false);go_simp
   repeat go_step
   refine bodyPost_ret (by simp [results,Tryz.results191,go_sem];rfl) rfl ?_;rw [Ia.out];exact⟨_,rfl,bC.nil _ _,Ct.out,FB.out⟩
  ·have Ct:=zh (HFB.out true);have FB:=zh (EK.out true);go_simp
   repeat go_step
   refine bodyPost_ret (by simp [results,Tryz.results191,go_sem];rfl) rfl ?_;rw [Ia.out];exact⟨_,rfl,bC.nil _ _,Ct.out,FB.out⟩
  have Ct:=zh (HFB.out true);have FB:=zh (EK.out true);go_simp
  repeat go_step
  refine bodyPost_ret (by simp [results,Tryz.results191,go_sem];rfl) rfl ?_;rw [Ia.out];exact⟨_,rfl,bC.nil _ _,Ct.out,FB.out⟩
 obtain⟨hk1,hk2,hk3⟩:=Nv hok;exact absurd (HI.out kk) (by rw [hk2];decide)
def yA (w:World)(v:Value)(T:List JR):Prop:=∃(base:Nat) (ys:List ji),ys.map ji.st=T∧(∀y∈ys,JU w base y)∧aO jc 9 zN w base v ys
theorem yA.keep {w w':World}{v:Value}{T:List JR}(h:yA w v T)(k:Keep au w w'):yA w' v T:=by
 obtain⟨b,ys,h1,h2,h3⟩:=h;exact⟨b,ys,h1,fun y hy=>(h2 y hy).kt (.of (P:=fun _=>False) k),h3.keep k⟩
theorem yA.nil (w:World):yA w (.slice none 0 0) []:=⟨0,[],rfl,sm,aO.nil _ _⟩
theorem yA.len {w:World}{v:Value}{T:List JR}(h:yA w v T):∃o c,v= .slice o T.length c:=by
 obtain⟨b,ys,h1,h2,h3⟩:=h;obtain⟨o,c,e⟩:=dJ h3;exact⟨o,c,by rw [← h1,List.length_map];exact e⟩
def Vg (rows:List Rw)(ints:List Bool)(fuel:Nat):rP:=G9 (JJ ints.length) rows ints (fuel+1) ⟨fuel,[],[],[],false⟩ []
def SrP (w:World)(r:rP)(e:Ending)(w':World):Prop:=(r.s.much=true∨3000<r.s.steps.length→e= .returned (.tuple #[.int .i64 0,.slice none 0 0,.slice none 0 0]))∧(¬ (r.s.much=true∨3000<r.s.steps.length)→∃u v,e= .returned (.tuple #[.int .i64 r.st,u,v])∧lJ w' w.heap.size u r.s.point∧yA w' v r.s.steps)∧Keep au w w'
theorem Nw (w:World)(He:Option Addr)(cr:Nat)(oi:Option Addr)(ci:Nat)(rows:List Rw)(ints:List Bool)(hx:zbt w (.slice He rows.length cr) (.slice oi ints.length ci) rows ints)(hI:∀i,ints.getD i false=false)(fuel:Nat)(hf:fuel≤2000):
  Calls Tryz.prog 126 #[.slice He rows.length cr,.slice oi ints.length ci,.int .i64 (fuel:Int)] w (SrP w (Vg rows ints fuel)):=by
 have HA:=zh (at_root w w.heap.size He cr oi ci rows ints hx hI fuel);have h40:=hx.m40;clear hx hI;have hc1:wW (fun _=>False) w (w.alloc (.cells #[.slice He rows.length cr,.slice oi ints.length ci,.int .i64 (fuel:Int),.slice none 0 0,.slice none 0 0,.slice none 0 0,.bool false] TSr)) w.heap.size (.slice He rows.length cr) (.slice oi ints.length ci) ⟨fuel,[],[],[],false⟩ (.slice none 0 0) (.slice none 0 0) (.slice none 0 0) [] []:=
  ⟨(Keep.refl _ _).alloc _,Nat.le_refl _,aK _ _ _ rfl,aO.nil _ _,rfl,sm,aO.nil _ _,rfl,sm,aO.nil _ _,fun c h=>h.elim⟩
 have Rp:=zh hc1;clear hc1;obtain⟨r,hr⟩:∃r,Vg rows ints fuel=r:=⟨_,rfl⟩;rw [hr];unfold SrP;go_enter Tryz.func126,Tryz.ntmps126;go_upto_region 2 with fail;generalize w.alloc (.cells #[.slice He rows.length cr,.slice oi ints.length ci,.int .i64 (fuel:Int),.slice none 0 0,.slice none 0 0,.slice none 0 0,.bool false] TSr)=w1 at *;have k2:Keep au w1 (w1.alloc (.map #[] 0)):=(Keep.refl _ _).alloc _;have hB:IsB (w1.alloc (.map #[] 0)) w.heap.size w1.heap.size []:=⟨[],0,⟨aK _ _ _ rfl,⟨.nil,.nil,sm⟩,sm⟩,fun k s=>rfl⟩;have CA:=zh (HA.out (fun _=>False) _ ⟨fuel,[],[],[],false⟩ _ ⟨_,_,_,_,_,Rp.out.keep k2⟩ hB (VE h40) (by unfold Fz;simp only [List.length_nil];omega));have hmk:(Instr.makeMap 266 none).run Tryz.prog w1= .ok (.map (some w1.heap.size)) (w1.alloc (.map #[] 0)):=rfl;clear k2 hB HA;go_wp2_with fail;refine CA.out.mono ?_;rintro e w3 ⟨c,rfl,ho3,hs3,kt3⟩;rw [show G9 (JJ ints.length) rows ints (fuel+1) ⟨fuel,[],[],[],false⟩ []=r from hr]at ho3 hs3 ⊢;obtain⟨oc,cc,hcv⟩:=ho3.len;subst hcv;obtain⟨va,vt,vp,xs,ys,hc3⟩:=hs3;obtain⟨⟨oa,ca,rfl⟩,⟨ot,ct,rfl⟩,op,cp,rfl⟩:=hc3.forms;obtain⟨t0,t1,t2,t3,t4,t5,t6,lS⟩:=yu hc3.blk;have HC3:=zh hc3;clear CA ho3 hc3 kt3 hr Rp hmk;rcases hmu:r.s.much with _ | _
 case true=>
  rw [hmu]at t6;go_simp
  repeat go_step
  refine bodyPost_ret (by simp [results,Tryz.results126,go_sem];rfl) rfl ?_;exact⟨fun _=>rfl,fun h=>absurd (.inl hmu) h,HC3.out.k⟩
 rw [hmu]at t6;by_cases hl:3000<r.s.steps.length
 case pos=>
  have d1:decide ((3000:Int)<(r.s.steps.length:Int))=true:=cZ om;have d2:(3000:Int)<(r.s.steps.length:Int):=om;go_simp
  repeat go_step
  refine bodyPost_ret (by simp [results,Tryz.results126,go_sem];rfl) rfl ?_;exact⟨fun _=>rfl,fun h=>absurd (.inr hl) h,HC3.out.k⟩
 have d1:decide ((3000:Int)<(r.s.steps.length:Int))=false:=bQ om;have d2:¬(3000:Int)<(r.s.steps.length:Int):=om;go_upto_region 5 with fail;refine aD (fun w'=>Keep au w3 w') [] [] [0,1,2,3,4,5,6,7,8,9,10,11] kr kr kp ?_;intro X W hne hF hcl;have z4:=fun x=>((hF x).cell lS).trans t4;have z5:=fun x=>((hF x).cell lS).trans t5;clear hF hcl;simp only [aW,aJ,zl0,zl1,zl2,aX,Bool.false_eq_true,if_false]
 (repeat(go_big_quiet_step (fail)));refine wpQuiet_nil ?_
 refine NoPanic.normal ?_;have HC4:=zh (HC3.out.keep (Keep.refl au w3).drew);go_simp
 repeat go_step
 refine bodyPost_ret (by simp [results,Tryz.results126,go_sem];rfl) rfl ?_;exact⟨fun h=>absurd h (by rintro(h | h);(rw [hmu]at h;cases h);exact hl h),fun _=>⟨_,_,rfl,HC4.out.p,_,_,HC4.out.tx,HC4.out.ti,HC4.out.t⟩,HC4.out.k⟩
end Go.Proofs.YtmepglhdcphffaaGreat
