/- Package cut: at. -/
import Derived.Test.YtaiffmebphhdaaaGreatCuZ
import Derived.Test.YtaiffmebphhdaaaGreatSpEE
namespace Go.Proofs.YtaiffmebphhdaaaGreat
set_option maxRecDepth 100000
set_option maxHeartbeats 32000000
set_option linter.unusedSimpArgs false
set_option linter.unusedVariables false
open Go.ChangeShapes Go.WideShapes Go.RowKit Go.Maps
variable {P:Nat→Prop}
abbrev TBd:TypeId:=115
def Wx (m:Nat):List Int:=(List.range m).map fun(i:Nat)=>(i:Int)+1
theorem Wy (m:Nat):Wx (m+1)=Wx m++ [(m:Int)+1]:=by simp [Wx,List.range_succ]
theorem Dz (m:Nat):(Wx m).length=m:=by simp [Wx]
theorem YU (m n:Nat)(B:jZ):allI m n B=Wx m++(dI B n).map CB.id:=by
 unfold allI Wx;congr 1
def sgJ (j:Nat):Int:=if j=0 then 1 else -1
def hB (B:jZ)(k:Nat):Nat→List CB
 | 0=>dI B k
 | j+1=>hB B k j++(oH B (k:Nat) (sgJ j)).toList
theorem za4 (B:jZ)(k:Nat):hB B k 2=dI B (k+1):=by
 simp only [hB,dI];rfl
theorem za5 (B:jZ)(k j:Nat)(hk:k<12)(hj:j≤2):(hB B k j).length≤24:=by
 have h1:=kJ (B:=B) k;have h2:∀s,(oH B (k:Nat) s).toList.length≤1:=fun s=>by rcases oH B (k:Nat) s with _ | x<;>simp
 have a:=h2 (sgJ 0);have b:=h2 (sgJ 1);obtain rfl | rfl | rfl:j=0∨j=1∨j=2:=om
 ·simp only [hB];omega
 ·simp only [hB,List.length_append];omega
 simp only [hB,List.length_append];omega
structure Uj (w1 wr:World)(rows:List Rw)(CL:List CB)(u6 u7:Value)(zs:List wL):Prop where
 z:zs.map wL.r=rows++CL.map CB.row
 ok:∀x∈zs,aW w1 x.sv x.r.of∧fT x.r.kind∧fT x.r.to∧pz x.sv
 a:wr.ownsRow w1.heap.size nN 3 u6 (rows.length+CL.length) (zs.flatMap AR)
 b:wr.ownsRow w1.heap.size TI 1 u7 (rows.length+CL.length) (iv (Wx rows.length++CL.map CB.id))
 k:Keep au w1 wr
theorem Uj.keep {w1 wr w':World}{rows:List Rw}{CL:List CB}{u6 u7:Value}{zs:List wL}(h:Uj w1 wr rows CL u6 u7 zs)(k:Keep au wr w'):Uj w1 w' rows CL u6 u7 zs:=⟨h.z,h.ok,fD h.a k,fD h.b k,h.k.both k⟩
theorem Uj.rows {w1 wr:World}{rows:List Rw}{CL:List CB}{u6 u7:Value}{zs:List wL}(h:Uj w1 wr rows CL u6 u7 zs):dD wr u6 (rows++CL.map CB.row):=by
 have hl:zs.length=rows.length+CL.length:=by
  have:=congrArg List.length h.z;simpa using this
 have:jE w1 wr w1.heap.size u6 (rows++CL.map CB.row):=⟨zs,h.z,h.ok,by unfold dR;rw [hl];exact h.a⟩;exact this.rows h.k
theorem Uj.ints {w1 wr:World}{rows:List Rw}{CL:List CB}{u6 u7:Value}{zs:List wL}(h:Uj w1 wr rows CL u6 u7 zs):bD wr w1.heap.size u7 (Wx rows.length++CL.map CB.id):=by
 unfold bD;rw [List.length_append,Dz,List.length_map];exact h.b
structure Ba (w6:World)(vA vB:Value)(fB:Bool)(sB:Value)(w:World):Prop where
 size:w6.heap.size≤w.heap.size
 old:∀(c:Nat) (o:Obj),w6.heap[c]? =some o→vA.ownBlock≠some c→vB.ownBlock≠some c→w.heap[c]? =some o
 new:fB=true→∀c,sB.ownBlock=some c→vB.ownBlock=some c∨w6.heap.size≤c
theorem Ba.start {fB:Bool}{sB:Value}(w:World)(vA vB:Value)(hf:fB=false):Ba w vA vB fB sB w.drew:=⟨(Keep.refl au w).drew.size,fun c o h _ _=>((Keep.refl au w).drew.block c (lt_of_heap h) fun _ h=>h).trans h,fun h=>by rw [hf]at h;cases h⟩
theorem Ba.keep {w6 w w':World}{vA vB sB:Value}{fB:Bool}(h:Ba w6 vA vB fB sB w)(k:Keep au w w'):Ba w6 vA vB fB sB w':=⟨Nat.le_trans h.size k.size,fun c o hc h1 h2=>(k.block c (lt_of_heap (h.old c o hc h1 h2)) fun _ h=>h).trans (h.old c o hc h1 h2),h.new⟩
section
variable {w6 w0 w:World} {eA kA nA eB kB nB:Nat} {vA vB sB:Value} {fB:Bool} {xA cA xB cB:List Value} {gg:Nat} {TG:TypeId} {arr:Value→Value→Array Value} {gx:Nat} {ox:Obj} {bA aA bB aB s1 s2:Bool} {G9 DJ He DK:Value}
theorem Ba.appA {YV:TypeId}(h:Ba w6 vA vB fB sB w)(hap:Ck YV eA kA)(hl:cA.length=kA)(h1:∀u∈cA,u.oneCell'=true)(hn:nA≤100000)(hC:kM w0 eA kA nA eB kB nB vA vB xA cA xB cB gg TG arr gx ox bA aA bB aB s1 s2 G9 DJ He DK w)(hb:bA=true)(ha:aA=false){v':Value}{w':World}(hr:(Builtin.append_ #[YV,YV] YV #[vA,G9]).run Tryz.prog w= .ok v' w'):Ba w6 vA vB fB sB w':=by
 obtain⟨b,rfl,hbk,hbv⟩:=hC.pa hb ha;obtain⟨v2,w2,hr2,ho,hg,hv⟩:=hap.app w _ vA nA xA b cA (hC.a0 ha) hbk hl h1 hn hC.k.size;rw [hr2]at hr;injection hr with q1 q2;subst q2;exact⟨Nat.le_trans h.size hg.size,fun c o hc g1 g2=>(hg.block c (lt_of_heap (h.old c o hc g1 g2)) fun e=>g1 e.symm).trans (h.old c o hc g1 g2),h.new⟩
theorem Ba.appB {YW:TypeId}(h:Ba w6 vA vB fB sB w)(hap:Ck YW eB kB)(hl:cB.length=kB)(h1:∀u∈cB,u.oneCell'=true)(hn:nB≤100000)(hC:kM w0 eA kA nA eB kB nB vA vB xA cA xB cB gg TG arr gx ox bA aA bB aB s1 s2 G9 DJ He DK w)(hb:bB=true)(ha:aB=false){v':Value}{w':World}(hr:(Builtin.append_ #[YW,YW] YW #[vB,He]).run Tryz.prog w= .ok v' w'):Ba w6 vA vB true v' w':=by
 obtain⟨b,rfl,hbk,hbv⟩:=hC.pb hb ha;obtain⟨v2,w2,hr2,ho,hg,hv⟩:=hap.app w _ vB nB xB b cB (hC.b0 ha) hbk hl h1 hn hC.k.size;rw [hr2]at hr;injection hr with q1 q2;subst q1 q2;refine⟨Nat.le_trans h.size hg.size,fun c o hc g1 g2=>(hg.block c (lt_of_heap (h.old c o hc g1 g2)) fun e=>g2 e.symm).trans (h.old c o hc g1 g2),fun _ c hc=> ?_⟩;rcases hv with hv | hv
 ·exact .inl (hv ▸ hc)
 rw [hv]at hc;cases hc;exact .inr h.size
end
def pvO (vA vB vR:Value)(b12:Nat)(id:Int):Nat→Value→Prop
 | 0,v=>v=vA
 | 1,v=>v= .pointer (some ⟨b12,0,none⟩)
 | 2,v=>v=vR
 | 5,v=>v=vB
 | 6,v=>v= .pointer (some ⟨b12,3,none⟩)
 | 7,v=>v= .int .i64 id
 | _,_=>True
theorem Mi {lp:List Rw→LP}{rows:List Rw}{ints:List Bool}{rc:jh→jZ→mI}{s:jh}{B:jZ}(h:lp (jo rows ints.length B)= .hungry):rQ lp rows ints rc s B=⟨3,[],s⟩:=by unfold rQ;rw [h]
theorem YX {lp:List Rw→LP}{rows:List Rw}{ints:List Bool}{rc:jh→jZ→mI}{s:jh}{B:jZ}{l:List Rat}(h:lp (jo rows ints.length B)= .no l):
  (allFit l l.length=true→rQ lp rows ints rc s B=⟨2,(cO (bH l (allI rows.length ints.length B))).map (·.1),{s with steps:=s.steps++ [⟨4,(cO (bH l (allI rows.length ints.length B))).map (·.1),(cO (bH l (allI rows.length ints.length B))).map (·.2),wU⟩]}⟩)∧(allFit l l.length=false→rQ lp rows ints rc s B=⟨2,[],{s with much:=true}⟩):=by
 unfold rQ;rw [h];exact⟨fun e=>by simp only [e,if_true],fun e=>by simp only [e];rfl⟩
theorem Wz {lp:List Rw→LP}{rows:List Rw}{ints:List Bool}{rc:jh→jZ→mI}{s:jh}{B:jZ}{pt:List Rat}(h:lp (jo rows ints.length B)= .yes pt):
  (qI ints pt=none→rQ lp rows ints rc s B=⟨1,[],{s with point:=pt.map cZ,much:=s.much || !allFit pt pt.length}⟩)∧(∀k,qI ints pt=some k→rQ lp rows ints rc s B=gI rows.length rc s B k (jT (pt.getD k 0))):=by
 unfold rQ;rw [h];exact⟨fun e=>by simp only [e],fun k e=>by simp only [e]⟩
theorem WA {j:Nat}{q:Rat}(h:NB j q)(hj:1≤j):NB j ((jT q:Int):Rat):=by
 refine⟨?_,?_⟩
 ·rw [Rat.num_intCast];refine Nat.le_trans (oF ?_) h.1;unfold jT;exact Int.natAbs_ediv_le_natAbs _ _
 rw [Rat.den_intCast];exact Nat.le_trans (rO (k:=1) dc) hj
theorem OH (w0 w:World)(bS:Nat)(lD:Option Addr)(cr:Nat)(oi:Option Addr)(ci:Nat)(rows:List Rw)(ints:List Bool)(hx:Sr w0 (.slice lD rows.length cr) (.slice oi ints.length ci) rows ints)(d:Nat)(hA:AtC w0 bS (.slice lD rows.length cr) (.slice oi ints.length ci) rows ints d)
  (s:jh) (B:jZ) (g k:Nat) (z:Int) (xb:Bool) (xS:ByteArray) (xc:Bool) (xU:ByteArray) (h:BO P w0 w bS (.slice lD rows.length cr) (.slice oi ints.length ci) s) (hB:VZ w w0.heap.size g B) (ha:kC rows.length ints.length s.atoms) (hb:gZ rows.length ints.length s.atoms B) (hk:k<ints.length)
  (hz:bO (.agg #[.bool xb,.string xS,.bool xc,.string xU]) (z:Rat)) (hzn:NB 4000 (z:Rat)) (hf:s.fuel<d) (Sv:qJ s) (hsl:s.steps.length≤7001) (hS:KO rows ints s B (gI rows.length (uL (uM ints.length) rows ints d) s B k z)):
  Calls Tryz.prog 62 #[.pointer (some ⟨bS,0,none⟩),.map (some g),.int .i64 (k:Int),.agg #[.bool xb,.string xS,.bool xc,.string xU]] w (yA P w0 bS (.slice lD rows.length cr) (.slice oi ints.length ci) w (gI rows.length (uL (uM ints.length) rows ints d) s B k z)):=by
 by_cases hbad:z< -1000000∨1000000≤z∨3000<s.steps.length+8∨120<rows.length+s.atoms.length+2
 ·exact SH w0 w bS lD cr oi ci rows ints hx d hA s B g k z xb xS xc xU h hB ha hb hk hz hzn hf Sv hsl hbad
 exact Sn w0 w bS lD cr oi ci rows ints hx d hA s B g k z xb xS xc xU h hB ha hb hk hz hzn hf Sv hsl hbad hS
theorem YZ (w0:World)(bS:Nat)(lD:Option Addr)(cr:Nat)(oi:Option Addr)(ci:Nat)(rows:List Rw)(ints:List Bool)(hx:Sr w0 (.slice lD rows.length cr) (.slice oi ints.length ci) rows ints)(d:Nat)(hA:AtC w0 bS (.slice lD rows.length cr) (.slice oi ints.length ci) rows ints d):AtC w0 bS (.slice lD rows.length cr) (.slice oi ints.length ci) rows ints (d+1):=by
 intro P w s B g h hBm ha hb hf Sv;obtain⟨va,vt,vp,xs,ys,hc⟩:=h;obtain⟨⟨oa,ca,rfl⟩,⟨ot,ct,rfl⟩,op,cp,rfl⟩:=hc.forms;have HC:=zh hc;have HX:=zh hx;have HAC:=zh hA;have HBM:=zh hBm;have I9:=zh ha;have FK:=zh hb;have YF:=zh Sv;have hn12:ints.length≤12:=hx.n12;have hm40:rows.length≤40:=hx.m40;obtain⟨t0,t1,t2,t3,t4,t5,t6,lS⟩:=lQ hc.blk;have t2f:=hc.blk.free 2;clear hc hx hA hBm ha hb;unfold yA;by_cases h0:s.fuel=0
 case pos=>
  have gQ:Hid (uL (uM ints.length) rows ints (d+1) s B=⟨3,[],s⟩):=zh (by unfold uL;rw [if_pos h0]);replace t2:w.cell? ⟨bS,2,none⟩=some (.int .i64 0):=by rw [t2,h0];rfl
  clear h0 hf Sv;go_enter Tryz.func33,Tryz.ntmps33;go_wp2;refine bodyPost_ret (by simp [results,Tryz.results33,go_sem];rfl) rfl ?_;rw [gQ.out];exact⟨_,rfl,bD.nil _ _,⟨_,_,_,_,_,HC.out⟩,KT.refl _⟩
 obtain⟨f,hfu⟩:∃f,s.fuel=f+1:=⟨s.fuel-1,om⟩;replace t2:w.cell? ⟨bS,2,none⟩=some (.int .i64 ((f:Int)+1)):=by rw [t2,hfu];rfl
 have hf2000:f≤2000:=by unfold qJ at Sv;omega
 have e0:((f:Int)+1==0)=false:=by rw [beq_eq_false_iff_ne];omega
 obtain⟨s1,hs1⟩:∃s1:jh,s1= {s with fuel:=f}:=⟨_,rfl⟩;have gQ:Hid (uL (uM ints.length) rows ints (d+1) s B=rQ (uM ints.length) rows ints (uL (uM ints.length) rows ints d) s1 B):=zh (by unfold uL;rw [if_neg h0,hs1,hfu];rfl);have I9:Hid (kC rows.length ints.length s1.atoms):=zh (by rw [hs1];exact I9.out);have FK:Hid (gZ rows.length ints.length s1.atoms B):=zh (by rw [hs1];exact FK.out);have YF:Hid (qJ s1):=zh (by have:=YF.out;unfold qJ at this ⊢;rw [hs1];simp only;omega);have HFD:Hid (s1.fuel<d):=zh (by rw [hs1];simp only;omega);have hsl:s1.steps.length≤7001:=by have:=YF.out;unfold qJ at this;omega
 have Ns:Hid (uI P w0 (w.setCell ⟨bS,2,none⟩ (.int .i64 (f:Int))) bS (.slice lD rows.length cr) (.slice oi ints.length ci) s1 (.slice oa s.atoms.length ca) (.slice ot s.steps.length ct) (.slice op s.point.length cp) xs ys):=zh (by
  rw [hs1];exact HC.out.set 2 _ sm rfl rfl HC.out.p)
 have T1:Hid (KT P w (w.setCell ⟨bS,2,none⟩ (.int .i64 (f:Int)))):=zh (KT.set HC.out.b (.inr (.inr rfl)) (fun hp=>(HC.out.av bS hp).2.1 rfl) _);clear h0 hf Sv hfu hs1 HC;go_enter Tryz.func33,Tryz.ntmps33;go_upto_region 4 with fail;clear t0 t1 t2 t3 t4 t5 t6 lS t2f e0;generalize w.setCell ⟨bS,2,none⟩ (.int .i64 (f:Int))=w1 at *;obtain⟨t0,t1,t2,t3,t4,t5,t6,lS⟩:=lQ Ns.out.blk;have CC:=zh (Jl w1 (.slice lD rows.length cr) rows (HX.out.hr.keep Ns.out.k) om);go_wp2_with fail;refine CC.out.mono ?_;rintro e w2 ⟨u,rfl,hu2,hk2⟩;have k2:Keep au w1 w2:=Keep.trans kp hk2 fun _ _ _ h=>h;obtain⟨zs0,hz1,hz2,hz3⟩:=hu2;have hzl:zs0.length=rows.length:=by rw [← hz1,List.length_map]
 unfold dR at hz3;rw [hzl]at hz3;obtain⟨ou,cu,rfl⟩:=dL hz3;have K2:=zh k2;have HZ1:=zh hz1;have HZ2:=zh hz2;have HZ3:=zh hz3;clear hk2 k2 hz1 hz2 hz3 hzl CC t0 t1 t2 t3 t4 t5 t6 lS;go_wp2;go_loopw [41,7] (fun s u wr=>∃k:Nat,k≤rows.length∧s= .int .i64 k∧bD wr w2.heap.size u (Wx k)∧Keep au w2 wr) (fun s _ _=>(rows.length-intOf s).toNat)
 case atStart=>exact⟨0,om,rfl,bD.nil _ _,Keep.refl _ _⟩
 obtain⟨k,hk,rfl,hou,hkr⟩:=hrel;have KR:=zh hkr;have kN:=zh hou;obtain⟨ov,cv,hvv⟩:=hou.len;rw [Dz]at hvv;subst hvv;clear hou hkr;by_cases hkl:k<rows.length
 case pos=>
  have hlt:(k:Int)<(rows.length:Int):=om;have ka:Keep au wr (wr.alloc (.cells #[.int .i64 ((k:Int)+1)] TI)):=(Keep.refl _ _).alloc _;obtain⟨v4,w4,hr4,ho4,hg4⟩:=jd (kN.out.keep ka) (qC wr ((k:Int)+1) (by unfold fT;omega)) (by rw [Dz];simp only [List.length_singleton];omega) (KR.out.both ka).size;have K4:=zh ((KR.out.both ka).grown hg4 fun k hk=>bD.block kN.out k hk);rw [← Wy]at ho4;have Nr:=zh ho4;clear ka ho4 hg4;go_wp2_with (at_builtin;refine aY _ _ 38 _ _ rfl rfl rfl rfl hr4 ?_);go_roundw
  case rel=>exact⟨k+1,om,gn,Nr.out,K4.out⟩
  simp [intOf];omega
 have hlt:¬(k:Int)<(rows.length:Int):=om;obtain rfl:rows.length=k:=om;have HL0:Hid (Uj w1 wr rows (hB B 0 0) (.slice ou rows.length cu) (.slice ov rows.length cv) zs0):=zh ⟨by simp [hB,dI,HZ1.out],HZ2.out,by simp only [hB,dI];exact fD HZ3.out KR.out,by
  simp only [hB,dI,List.map_nil,List.append_nil,List.length_nil,Nat.add_zero];have h:=World.ownsRow_mono kN.out K2.out.size;rw [Dz]at h;exact h,K2.out.both KR.out⟩
 clear HZ1 HZ2 HZ3 kN KR hk;obtain⟨wk,rfl⟩:∃W:World,W=wr:=⟨_,rfl⟩;obtain⟨t0,t1,t2,t3,t4,t5,t6,lS⟩:=lQ (Ns.out.keep HL0.out.k).blk;go_wp2;go_loopw [55,6,7] (fun s u v wr=>∃(k:Nat) (zs:List wL),k≤ints.length∧s= .int .i64 k∧Uj w1 wr rows (hB B k 0) u v zs) (fun s _ _ _=>(ints.length-intOf s).toNat)
 case atStart=>exact⟨0,zs0,om,rfl,HL0.out⟩
 obtain⟨k,zs,hk,rfl,hal⟩:=hrel;have Mj:=zh hal;obtain⟨o6,c6,rfl⟩:=dL hal.a;obtain⟨o7,c7,rfl⟩:=dL hal.b;have n58:(Value.slice o7 (rows.length+(hB B k 0).length) c7).ownBlock≠some wr.heap.size:=fun e=>by have:=(EW hal.b e).2;omega
 clear hal;by_cases hkl:k<ints.length
 case pos=>
  have hlt:(k:Int)<(ints.length:Int):=om;have ka:Keep au wr (wr.alloc (.cells #[.int .i64 1,.int .i64 (-1)] TI)):=(Keep.refl _ _).alloc _;have zdb:Hid ((wr.alloc (.cells #[.int .i64 1,.int .i64 (-1)] TI)).heap[wr.heap.size]? =some (.cells #[.int .i64 1,.int .i64 (-1)] TI (0,0))):=zh (aX _ _ _ rfl);have Mj:=zh (Mj.out.keep ka);have N58:=zh n58;clear n58 HL0 t0 t1 t2 t3 t4 t5 t6 lS;go_upto_region 15 with fail;clear ka;generalize wr.alloc (.cells #[.int .i64 1,.int .i64 (-1)] TI)=w5 at *;generalize wr.heap.size=b58 at *;have zdc:Hid (w5.heap[b58]? =some (.cells #[.int .i64 1,.int .i64 (-1)] TI (0,0))):=zdb;go_loopw [60,6,7] (fun s u v wr=>∃(j:Nat) (zs:List wL),j≤2∧s= .int .i64 j∧Uj w1 wr rows (hB B k j) u v zs∧wr.heap[b58]? =some (.cells #[.int .i64 1,.int .i64 (-1)] TI (0,0))∧v.ownBlock≠some b58) (fun s _ _ _=>(2-intOf s).toNat)
  case atStart=>exact⟨0,zs,om,rfl,Mj.out,zdc.out,N58.out⟩
  obtain⟨j,ys5,hj,rfl,hal,hk58,hn58⟩:=hrel;have OI:=zh hk58;obtain⟨o8,c8,rfl⟩:=dL hal.a;obtain⟨o9,c9,rfl⟩:=dL hal.b;have Mj:=zh hal;have za6:=zh hn58;clear hal hk58 hn58;by_cases hj2:j<2
  case neg=>
   have hlt2:¬(j:Int)<2:=om;obtain rfl:j=2:=om;have HAN:=Mj;rw [za4]at HAN;clear Mj;have HAN:Hid (Uj w1 wr rows (hB B (k+1) 0) (.slice o8 (rows.length+(hB B k 2).length) c8) (.slice o9 (rows.length+(hB B k 2).length) c9) ys5):=HAN;go_wp2;go_roundw
   case rel=>exact⟨k+1,ys5,om,gn,HAN.out⟩
   simp [intOf];omega
  have hlt2:(j:Int)<2:=om;have hML:=za5 B k j om om;obtain⟨L,clock,hM,hL⟩:=(HBM.out.kt T1.out);have hMr:=hM.kt (.of (Mj.out.k):KT P w1 wr);have Ya:=zh (hL (k:Int) (sgJ j));have HOW:=zh hM.own;have x58:wr.cell? ⟨b58,j,none⟩=some (.int .i64 (sgJ j)):=by
   obtain rfl | rfl:j=0∨j=1:=om
   ·exact cell_of_heap (o:=0) OI.out rfl
   exact cell_of_heap (o:=1) OI.out rfl
  have l58:b58<wr.heap.size:=lt_of_heap OI.out;have zD:Hid (hB B k (j+1)=hB B k j++(oH B (k:Nat) (sgJ j)).toList):=zh rfl;generalize hsg:sgJ j=sg at *;have HMH:=zh hMr.h;clear hM hL hMr hsg;rcases hg:jr L (k:Int) sg with _ | en
  case none=>
   rw [hg]at Ya;have Ci:Hid (hB B k (j+1)=hB B k j):=zh (by rw [zD.out,←Ya.out];simp);have hv:Cm L (k:Int) sg= .tuple #[.agg #[.slice none 0 0,.int .i64 0,.int .i64 0,.int .i64 0],.bool false]:=by unfold Cm;rw [hg]
   clear Ya zD hg HOW;go_wp2_with (refine zJ _ rfl _ _ rfl g L clock (k:Int) sg _ rfl rfl HMH.out hv ?_);have ke:Keep au wr (wr.alloc (.cells #[.slice none 0 0,.int .i64 0,.int .i64 0,.int .i64 0] TBd)):=(Keep.refl _ _).alloc _;go_roundw
   case rel=>exact⟨j+1,ys5,om,gn,by rw [Ci.out];exact Mj.out.keep ke,(ke.block b58 l58 fun _ h=>h).trans OI.out,za6.out⟩
   simp [intOf];omega
  rw [hg]at Ya;obtain⟨hen,hek,hes⟩:=zK hg;have hv:Cm L (k:Int) sg= .tuple #[en.v,.bool true]:=by unfold Cm;rw [hg]
  have hown:=HOW.out en hen;obtain⟨ek,es,esv,⟨⟨eof,SI,SK⟩,SQ⟩,eb⟩:=en;simp only at hek hes hown;obtain⟨kq,sq,zq,iq,g1,g2,g3,g4⟩:=FK.out.b _ (vO (Ya.out.symm.trans rfl));have hfit:=Du g1;have hia:=(List.getElem?_eq_some_iff.1 g4).1;have hcap:=I9.out.cap;simp only at g3 hfit;have hid:0≤SQ∧SQ≤200:=om;have Ci:Hid (hB B k (j+1)=hB B k j++ [⟨⟨eof,SI,SK⟩,SQ⟩]):=zh (by rw [zD.out,←Ya.out];rfl);have HNW:Hid (aW w1 esv eof∧fT SI∧fT SK∧pz esv):=zh ⟨hown.ints hfit.o,hfit.k,hfit.t,hown.cap⟩;obtain⟨oe,ce,hev⟩:=hown.len;subst hev;clear Ya zD hg HOW g1 g2 g3 g4 hfit hia hcap hown hen hek hes;have hv:Cm L (k:Int) sg= .tuple #[.agg #[.slice oe eof.length ce,.int .i64 SI,.int .i64 SK,.int .i64 SQ],.bool true]:=hv;go_upto_region 19 with(refine zJ _ rfl _ _ rfl g L clock (k:Int) sg _ rfl rfl HMH.out hv ?_);have ke:Keep au wr (wr.alloc (.cells #[.slice oe eof.length ce,.int .i64 SI,.int .i64 SK,.int .i64 SQ] TBd)):=(Keep.refl _ _).alloc _;have HX6:Hid ((wr.alloc (.cells #[.slice oe eof.length ce,.int .i64 SI,.int .i64 SK,.int .i64 SQ] TBd)).heap[wr.heap.size]? =some (.cells #[.slice oe eof.length ce,.int .i64 SI,.int .i64 SK,.int .i64 SQ] TBd (0,0))):=zh (aX _ _ _ rfl);have Ui:=zh (Mj.out.keep ke);have FH:=zh ((ke.block b58 l58 fun _ h=>h).trans OI.out);have HQA:Hid ((Value.slice o8 (rows.length+(hB B k j).length) c8).ownBlock≠some b58):=zh fun e=>by
   obtain⟨A,e1⟩:=gF Mj.out.a e;rw [OI.out]at e1;exact absurd (Obj.cells.inj (Option.some.inj e1)).2.1 dc
  obtain⟨M,hM⟩:∃M,rows.length+(hB B k j).length=M:=⟨_,rfl⟩;have hA6:=Ui.out.a;have hB6:=Ui.out.b;rw [hM]at hA6 hB6 ⊢;have HAA:=zh hA6;have HBB:=zh hB6;have hMM:M≤64:=om;have HM:=zh hM;clear ke Mj x58 l58 hv HMH hM hA6 hB6 OI;generalize wr.alloc (.cells #[.slice oe eof.length ce,.int .i64 SI,.int .i64 SK,.int .i64 SQ] TBd)=w6 at *;obtain⟨b12,hb12⟩:∃b12,wr.heap.size=b12:=⟨_,rfl⟩;rw [hb12]at HX6 ⊢;clear hb12;refine jX (fun S σ w'=>kM w1 nN 3 M TI 1 M (.slice o8 M c8) (.slice o9 M c9) (ys5.flatMap AR) [.slice oe eof.length ce,.int .i64 SI,.int .i64 SK] (iv (Wx rows.length++(hB B k j).map CB.id)) [.int .i64 SQ] b12 TBd (fun _ _=> #[.slice oe eof.length ce,.int .i64 SI,.int .i64 SK,.int .i64 SQ]) b12 (.cells #[.slice oe eof.length ce,.int .i64 SI,.int .i64 SK,.int .i64 SQ] TBd (0,0)) (S 3) (S 4) (S 8) (S 9) false false (σ 3) (σ 4) (σ 8) (σ 9) w'∧(S 10=true→σ 10=σ 4)∧(S 11=true→σ 11=σ 9)∧Ba w6 (.slice o8 M c8) (.slice o9 M c9) (S 9) (σ 9) w') (fun S d v w=>pvO (.slice o8 M c8) (.slice o9 M c9) (.agg #[.slice oe eof.length ce,.int .i64 SI,.int .i64 SK]) b12 SQ d v) kr kr kr kr (fun S σ hS=>⟨kM.start (hS 3) (hS 4) (hS 8) (hS 9) rfl rfl (⟨Ui.out.k.size,Ui.out.k,HAA.out,HBB.out,HX6.out,HX6.out⟩),fun h=>(by rw [hS 10]at h;cases h),fun h=>(by rw [hS 11]at h;cases h),Ba.start _ _ _ (hS 9)⟩) _ (fun σ=>by
   show dA _ σ [0,1,2,3,4,5,6,7,8,9,10,11] _=_;simp only [dA,zl0,zl1,zl2,Act.put,List.setIfInBounds_toArray,List.set_cons_zero,List.set_cons_succ];rfl) ?_ ?_
  ·intro S σ wz hC hall e he HK;have he:e<12:=he;obtain rfl | rfl | rfl | rfl | rfl | rfl | rfl | rfl | rfl | rfl | rfl | rfl:e=0∨e=1∨e=2∨e=3∨e=4∨e=5∨e=6∨e=7∨e=8∨e=9∨e=10∨e=11:=om
   ·refine ay rfl rfl fun K hK=> ?_;go_simp;exact hK _ _ ⟨_,hC,fun d _ _ h=>h,rfl,HK.init 10 (HK.down 10 kr)⟩
   ·refine ay rfl rfl fun K hK=> ?_;go_simp;exact hK _ _ ⟨_,hC,fun d _ _ h=>h,rfl,rfl⟩
   ·have h1:σ 1= .pointer (some ⟨b12,0,none⟩):=HK.post 1 kr;rw [h1];have m0:=cell_of_heap (o:=0) hC.1.blk rfl;have m1:=cell_of_heap (o:=1) hC.1.blk rfl;have m2:=cell_of_heap (o:=2) hC.1.blk rfl;have ml:=lt_of_heap hC.1.blk;refine ay rfl rfl fun K hK=> ?_;go_simp;exact hK _ _ ⟨_,hC,fun d _ _ h=>h,rfl,rfl⟩
   ·have h2:σ 2=(.agg #[.slice oe eof.length ce,.int .i64 SI,.int .i64 SK]):=HK.post 2 kr;rw [h2];refine ay rfl rfl fun K hK=> ?_;go_simp;exact hK _ _ ⟨_,⟨hC.1.buildA ((Keep.refl _ _).alloc _) (b:=wz.heap.size) (aP _ _ rfl) (Nat.le_refl _),hC.2.1,hC.2.2.1,hC.2.2.2.keep ((Keep.refl _ _).alloc _)⟩,fun d _ _ h=>h,rfl,trivial⟩
   ·obtain ⟨v',w2,hr,hc2⟩:=hC.1.appA Ql dc dc (fun A f h=>absurd (Obj.cells.inj h).2.1 dc) rfl (by intro u hu;simp at hu;rcases hu with rfl | rfl | rfl<;>rfl) om (HK.up 3 kr) HK.self rfl;have h0:σ 0=(.slice o8 M c8):=HK.post 0 kr;rw [h0];refine ay rfl rfl fun K hK=> ?_;refine dM _ _ 22 _ _ rfl rfl rfl hr ?_;exact hK _ _ ⟨_,⟨hc2,fun h=>absurd (show S 10=true from h) (by rw [HK.down 10 kr];decide),hC.2.2.1,hC.2.2.2.appA Ql rfl (by intro u hu;simp at hu;rcases hu with rfl | rfl | rfl<;>rfl) om hC.1 (HK.up 3 kr) HK.self hr⟩,fun d _ _ h=>h,rfl,trivial⟩
   ·refine ay rfl rfl fun K hK=> ?_;go_simp;exact hK _ _ ⟨_,hC,fun d _ _ h=>h,rfl,HK.init 11 (HK.down 11 kr)⟩
   ·refine ay rfl rfl fun K hK=> ?_;go_simp;exact hK _ _ ⟨_,hC,fun d _ _ h=>h,rfl,rfl⟩
   ·have h6:σ 6= .pointer (some ⟨b12,3,none⟩):=HK.post 6 kr;rw [h6];have m0:=cell_of_heap (o:=3) hC.1.blk rfl;have ml:=lt_of_heap hC.1.blk;refine ay rfl rfl fun K hK=> ?_;go_simp;exact hK _ _ ⟨_,hC,fun d _ _ h=>h,rfl,rfl⟩
   ·have h7:σ 7= .int .i64 SQ:=HK.post 7 kr;rw [h7];refine ay rfl rfl fun K hK=> ?_;go_simp;exact hK _ _ ⟨_,⟨hC.1.buildB ((Keep.refl _ _).alloc _) (b:=wz.heap.size) (aP _ _ rfl) (Nat.le_refl _),hC.2.1,hC.2.2.1,hC.2.2.2.keep ((Keep.refl _ _).alloc _)⟩,fun d _ _ h=>h,rfl,trivial⟩
   ·obtain ⟨v',w2,hr,hc2⟩:=hC.1.appB Dl dc dc rfl (by intro u hu;simp at hu;subst hu;rfl) om (HK.up 8 kr) HK.self rfl;have h5:σ 5=(.slice o9 M c9):=HK.post 5 kr;rw [h5];refine ay rfl rfl fun K hK=> ?_;refine dM _ _ 38 _ _ rfl rfl rfl hr ?_;exact hK _ _ ⟨_,⟨hc2,hC.2.1,fun h=>absurd (show S 11=true from h) (by rw [HK.down 11 kr];decide),hC.2.2.2.appB Dl rfl (by intro u hu;simp at hu;subst hu;rfl) om hC.1 (HK.up 8 kr) HK.self hr⟩,fun d _ _ h=>h,rfl,trivial⟩
   ·refine ay rfl rfl fun K hK=> ?_;go_simp;exact hK _ _ ⟨_,⟨hC.1,fun _=>rfl,hC.2.2⟩,fun d _ _ h=>h,rfl,trivial⟩
   refine ay rfl rfl fun K hK=> ?_;go_simp;exact hK _ _ ⟨_,⟨hC.1,hC.2.1,fun _=>rfl,hC.2.2.2⟩,fun d _ _ h=>h,rfl,trivial⟩
  intro S σ w9 Ej hS hP;have hT:=Ej.1.done (hS 3 (show 3<12 from om)) (hS 4 (show 4<12 from om)) (hS 8 (show 8<12 from om)) (hS 9 (show 9<12 from om));obtain⟨oA,cA',UQ⟩:=dL hT.a;obtain⟨oB,cB',hvB⟩:=dL hT.b;have UU:σ 10=_:=(Ej.2.1 (hS 10 (show 10<12 from om))).trans UQ;have UW:σ 11=_:=(Ej.2.2.1 (hS 11 (show 11<12 from om))).trans hvB;rw [UU,UW];refine NoPanic.normal ?_;have zce:Hid (M+1=rows.length+(hB B k (j+1)).length):=zh (by rw [Ci.out,List.length_append,List.length_singleton];have:=HM.out;omega);have Ue:Hid (Uj w1 w9 rows (hB B k (j+1)) (.slice oA (M+1) cA') (.slice oB (M+1) cB') (ys5++ [⟨.slice oe eof.length ce,⟨eof,SI,SK⟩⟩])):=zh ⟨by rw [Ci.out,List.map_append,List.map_append,Ui.out.z,List.append_assoc];rfl,fun x hx=>by
   rcases List.mem_append.1 hx with hx | hx
   ·exact Ui.out.ok x hx
   ·rw [List.mem_singleton.1 hx];exact HNW.out,by
   rw [← zce.out,List.flatMap_append,←UQ];exact hT.a,by
   rw [← zce.out,Ci.out,List.map_append,←List.append_assoc,D9,←hvB];exact hT.b,hT.k⟩
  have HK9:=zh (Ej.2.2.2.old b58 _ FH.out (by have h:=HQA.out;rw [HM.out]at h;exact h) (by have h:=za6.out;rw [HM.out]at h;exact h));have HN9:Hid ((Value.slice oB (M+1) cB').ownBlock≠some b58):=zh fun e=>by
   rcases Ej.2.2.2.new (hS 9 (show 9<12 from om)) b58 (by rw [hvB];exact e)with h | h
   ·have h5:=za6.out;rw [HM.out]at h5;exact h5 h
   have:=lt_of_heap FH.out;omega
  clear hT UQ hvB UU UW hP hS Ej;go_wp2;go_roundw
  case rel=>exact⟨j+1,_,om,gn,Ue.out,HK9.out,HN9.out⟩
  simp [intOf];omega
 have hlt:¬(k:Int)<(ints.length:Int):=om;obtain rfl:ints.length=k:=om;have HRW:=zh (show dD wr (.slice o6 (rows.length+(hB B ints.length 0).length) c6) (jo rows ints.length B)from Mj.out.rows);have HIW:=zh (show bD wr w1.heap.size (.slice o7 (rows.length+(hB B ints.length 0).length) c7) (allI rows.length ints.length B)from by rw [YU];exact Mj.out.ints);have SV:=zh (wI hn12 HX.out.ok FK.out);have hbl:=kJ (B:=B) ints.length;have hRl:(jo rows ints.length B).length=rows.length+(hB B ints.length 0).length:=by simp [jo,hB]
 have hIl:(allI rows.length ints.length B).length=rows.length+(hB B ints.length 0).length:=by simp [allI,hB]
 have h64:(jo rows ints.length B).length≤64:=by rw [hRl];show rows.length+(dI B ints.length).length≤64;omega
 have X7:=zh (Ns.out.keep Mj.out.k);have T2:=zh (T1.out.trans (.of Mj.out.k));have zcf:=zh ((HBM.out.kt T1.out).kt (.of Mj.out.k:KT P w1 wr));have CN:=zh (fun w' (k:Keep au wr w')=>NY w' _ _ ints.length (HRW.out.keep k) SV.out hn12 h64);have WB:=zh (wJ hn12 h64 SV.out);have LPO:Hid (F5 ints.length (uM ints.length)):=zh (Ld hn12 _);obtain⟨R,hR⟩:∃R,jo rows ints.length B=R:=⟨_,rfl⟩;have HR:=zh hR;rw [hR]at HRW SV CN WB hRl h64;obtain⟨M,hM⟩:∃M,rows.length+(hB B ints.length 0).length=M:=⟨_,rfl⟩;rw [hM]at HRW HIW CN hRl hIl ⊢;clear hM hR Mj Ns T1 HL0 K2 hk t0 t1 t2 t3 t4 t5 t6 lS;obtain⟨t0,t1,t2,t3,t4,t5,t6,lS⟩:=lQ X7.out.blk;go_wp2_with fail;refine(CN.out _ kp).mono ?_;rintro e w3 ⟨bT,rfl,hT⟩;have HT:=zh hT;have K3:Hid (Keep au wr w3):=zh (Keep.trans kp (by obtain⟨L,hL⟩:=hT;exact hL.k) fun _ _ _ h=>h);clear hT CN t0 t1 t2 t3 t4 t5 t6;have CF:=zh (fun w' (k:Keep au w3 w')=>Uq _ w' bT _ ints.length R _ 1048576 (HT.out.keep k) WB.out (Nat.le_refl _) om);rw [show((1048576:Nat):Int)=1048576 from rfl]at CF;go_wp2_with fail;refine(CF.out _ kp).mono ?_;rintro e w4 hcase;clear CF;rcases hcase with⟨T,nm',hfe,rfl,hT4⟩ | ⟨l,u,hfe,rfl,hu,hk4⟩ | ⟨hfe,rfl,hk4⟩
 case inr.inr=>
  have hl:uM ints.length R= .hungry:=by unfold uM Z4;rw [hfe]
  rw [← HR.out]at hl;have S9:=gQ.out.trans (Mi hl);go_wp2;refine bodyPost_ret (by simp [results,Tryz.results33,go_sem];rfl) rfl ?_;rw [S9];exact⟨_,rfl,bD.nil _ _,⟨_,_,_,_,_,X7.out.keep hk4⟩,T2.out.trans (.of hk4)⟩
 case inr.inl=>
  have hl:uM ints.length R= .no l:=by unfold uM Z4;rw [hfe]
  rw [← HR.out]at hl;have S9:=zh (YX (rc:=uL (uM ints.length) rows ints d) (s:=s1) hl);have Y0:=LPO.out.no _ l (by rw [HR.out];exact h64) (by rw [HR.out];exact SV.out) hl;obtain⟨Tn,bn,way,hIT,hBK,hEN,hll⟩:=Dq 1048576 _ l WB.out hfe;have hnb:∀q∈l,NB 1000 q:=by
   rw [hll];have hi:=(rC hBK.mem).1;rw [hIT.wf.bl,hIT.hr]at hi;exact Jm hIT hi hBK.way _ (by rw [hIT.hn,hIT.hr];exact Nat.le_refl _)
  have hlen:l.length=M:=by rw [Y0.1,HR.out,hRl]
  have Y1:=VL Y0.1 (hIl.trans (hRl.symm.trans (by rw [HR.out]))) Y0.2.1;have hne:l≠ []:=by
   intro h0;rw [h0]at Y1;exact Y1 (by simp [bH])
  obtain⟨ou',cu',lu,hue,h1,h2,h3,h4⟩:=hu;obtain⟨gu,go,rfl,h5⟩:=h4 hne;have hu:jQ w4 u l:=⟨_,cu',lu,hue,h1,h2,h3,fun _=>⟨gu,go,rfl,h5⟩⟩;have CRF:=zh (fun w' (k:Keep au w4 w')=>Kq w0 w' bS _ _ s1 u _ l (allI rows.length ints.length B) M ⟨_,_,_,_,_,(X7.out.keep hk4).keep k⟩ (hu.keep k) hnb (((HIW.out.keep hk4).keep k).ints (fun x hx=>by have:=Li hm40 I9.out FK.out x hx;unfold fT;omega)) hlen hIl om (Li hm40 I9.out FK.out) (Lh (PS FK.out)) Y1 om);rw [hlen]at hue S9;have K4:=zh hk4;subst hue;clear hfe HT hIT hBK hEN hll hnb hlen hne h1 h2 h3 h4 h5 hu hk4 hl Y0 Y1;have hnil:∀w,Sem.run Tryz.prog (binOp BinOp.neq 64 (Value.slice (some ⟨gu,go,none⟩) M cu') (Value.slice none 0 0)) w= .ok (.bool true) w:=fun w=>rfl;go_wp2_with fail;refine(CRF.out _ kp).mono ?_;rintro e w5 ⟨hyes,hno,kt5⟩;have T5:=zh ((T2.out.trans (.of K4.out)).trans ((KT.of (P:=P) (show Keep au w4 w4 from Keep.refl _ _)).trans kt5));clear CRF hnil kt5 K4 X7;rcases hfit:allFit l M with _ | _
  case false=>
   obtain⟨rfl,hs5⟩:=hno hfit;have Qm:=zh (gQ.out.trans (S9.out.2 hfit));clear hyes hno S9 gQ;obtain⟨va5,vt5,vp5,xs5,ys5,hc5⟩:=hs5;obtain⟨t0,t1,t2,t3,t4,t5,t6,lS5⟩:=lQ hc5.blk;have t6f:=hc5.blk.free 6;have P9:=zh hc5;clear hc5 t0 t1 t2 t3 t4 t5;have hfin:BO P w0 (w5.setCell ⟨bS,6,none⟩ (.bool true)) bS (.slice lD rows.length cr) (.slice oi ints.length ci) {s1 with much:=true}:=⟨_,_,_,_,_,P9.out.set 6 _ sm rfl rfl P9.out.p⟩;have hkt:=T5.out.trans (KT.set P9.out.b (.inr (.inr rfl)) (fun hp=>(P9.out.av bS hp).2.1 rfl) (.bool true) (i:=6));have wE:=zh hfin;have Gn:=zh hkt;clear hfin hkt P9;generalize s1.much=mu at*;rcases mu with _ | _
   case false=>
    go_simp
    repeat go_step
    refine bodyPost_ret (by simp [results,Tryz.results33,go_sem];rfl) rfl ?_;rw [Qm.out];exact⟨_,rfl,bD.nil _ _,wE.out,Gn.out⟩
   go_simp
   repeat go_step
   refine bodyPost_ret (by simp [results,Tryz.results33,go_sem];rfl) rfl ?_;rw [Qm.out];exact⟨_,rfl,bD.nil _ _,wE.out,Gn.out⟩
  obtain⟨u5,rfl,ho5,hs5⟩:=hyes hfit;have Qm:=zh (gQ.out.trans (S9.out.1 hfit));clear hyes hno S9 gQ;obtain⟨ou5,cu5,hv5⟩:=ho5.len;rw [List.length_map]at hv5;subst hv5;obtain⟨va5,vt5,vp5,xs5,ys5,hc5⟩:=hs5;obtain⟨t0,t1,t2,t3,t4,t5,t6,lS5⟩:=lQ hc5.blk;have t6f:=hc5.blk.free 6;have kts:KT P w5 (w5.setCell ⟨bS,6,none⟩ (.bool s1.much)):=KT.set hc5.b (.inr (.inr rfl)) (fun hp=>(hc5.av bS hp).2.1 rfl) _;have wE:=zh (show BO P w0 (w5.setCell ⟨bS,6,none⟩ (.bool s1.much)) bS (.slice lD rows.length cr) (.slice oi ints.length ci) _ from⟨_,_,_,_,_,hc5.set 6 (.bool s1.much) sm rfl rfl hc5.p⟩);have Gn:=zh (T5.out.trans kts);have HOF:=zh (kts.ints ho5);clear hc5 t0 t1 t2 t3 t4 t5 kts ho5 T5;generalize s1.much=mu at*;rcases mu with _ | _
  case false=>
   go_simp
   repeat go_step
   refine bodyPost_ret (by simp [results,Tryz.results33,go_sem];rfl) rfl ?_;rw [Qm.out];exact⟨_,rfl,HOF.out,wE.out,Gn.out⟩
  go_simp
  repeat go_step
  refine bodyPost_ret (by simp [results,Tryz.results33,go_sem];rfl) rfl ?_;rw [Qm.out];exact⟨_,rfl,HOF.out,wE.out,Gn.out⟩
 have hl:uM ints.length R= .yes (T.ptK T.n):=by unfold uM Z4;rw [hfe]
 rw [← HR.out]at hl;have S9:=zh (Wz (rc:=uL (uM ints.length) rows ints d) (s:=s1) hl);have ZN:=LPO.out.yes _ _ (by rw [HR.out];exact h64) (by rw [HR.out];exact SV.out) hl;obtain⟨hIT,_⟩:=zk 1048576 _ T WB.out hfe;have Qn:=zh (za7 hIT);have CP:=zh (fun w' (k:Keep au w4 w')=>Ta _ w' bT nm' T (hT4.keep k) hIT.wf hIT.nb);have K4:Hid (Keep au wr w4):=zh (by obtain⟨L,hL⟩:=hT4;exact hL.k);clear hfe HT hT4 hIT hl;obtain⟨pt,hpt⟩:∃pt,T.ptK T.n=pt:=⟨_,rfl⟩;rw [hpt]at S9 ZN Qn CP;have D6:=zh ZN;have hnil:∀w,Sem.run Tryz.prog (binOp BinOp.neq 64 (Value.slice none 0 0) (Value.slice none 0 0)) w= .ok (.bool false) w:=fun w=>kr;go_wp2_with fail;refine(CP.out _ kp).mono ?_;rintro e w5 ⟨u,rfl,hu5,hk5⟩;have k5:Keep au w4 w5:=Keep.trans kp hk5 fun _ _ _ h=>h;have HU5:=zh hu5;obtain⟨ou,cu',hvu,_,_⟩:=hu5.len;have hpl:pt.length=ints.length:=ZN.1;rw [hpl]at hvu;subst hvu;have P9:=zh ((X7.out.keep K4.out).keep k5);have T5:=zh (T2.out.trans (.of (K4.out.both k5)));have zcg:=zh (zcf.out.kt (.of (K4.out.both k5):KT P wr w5));have CO:=zh (fun w' (k:Keep au w5 w')=>WC w' bS _ _ _ _ _ _ _ ints _ pt (P9.out.keep k).blk (HX.out.hi.keep (P9.out.keep k).k) (HU5.out.keep k) Qn.out hpl);clear CP hu5 hk5 k5 ZN hnil K4 X7 T2 zcf hpt WB SV HRW HIW;go_wp2_with fail;refine(CO.out _ kp).mono ?_;rintro e w6 ⟨rfl,hk6⟩;have k6:Keep au w5 w6:=Keep.trans kp hk6 fun _ _ _ h=>h;have HU6:=zh (HU5.out.keep k6);have XU:=zh (P9.out.keep k6);have T6:=zh (T5.out.trans (.of k6));have za8:=zh (zcg.out.kt (.of k6:KT P w5 w6));clear CO hk6 k6 HU5 P9 T5 zcg;rcases hok:qI ints pt with _ | kk
 case none=>
  have Qm:=zh (gQ.out.trans (S9.out.1 hok));have e1:zL ints pt= -1:=by unfold zL;rw [hok]
  rw [e1];clear S9 gQ hok e1;have CT:=zh (fun w' (k:Keep au w6 w')=>Jo w' _ _ (HU6.out.keep k) Qn.out om);go_wp2_with fail;refine(CT.out _ kp).mono ?_;rintro e w7 ⟨u7,rfl,hu7,hk7⟩;have k7:Keep au w6 w7:=Keep.trans kp hk7 fun _ _ _ h=>h;obtain⟨ou7,cu7,hv7⟩:=dL hu7;rw [List.length_map,hpl]at hv7;subst hv7;have hc7:=XU.out.keep k7;have zch:pK w7 w0.heap.size (.slice ou7 ints.length cu7) (pt.map cZ):=World.ownsRow_mono hu7 XU.out.k.size;obtain⟨t0,t1,t2,t3,t4,t5,t6,lS7⟩:=lQ hc7.blk;have t5f:=hc7.blk.free 5;have t6f:=hc7.blk.free 6;have hcA:uI P w0 (w7.setCell ⟨bS,5,none⟩ (.slice ou7 ints.length cu7)) bS (.slice lD rows.length cr) (.slice oi ints.length ci) {s1 with point:=pt.map cZ} _ _ (.slice ou7 ints.length cu7) _ _:=hc7.set 5 _ sm rfl rfl zch;have ktA:KT P w7 (w7.setCell ⟨bS,5,none⟩ (.slice ou7 ints.length cu7)):=KT.set hc7.b (.inr (.inr rfl)) (fun hp=>(hc7.av bS hp).2.1 rfl) _;have hcB:=fun(b:Bool)=>show BO P w0 ((w7.setCell ⟨bS,5,none⟩ (.slice ou7 ints.length cu7)).setCell ⟨bS,6,none⟩ (.bool b)) bS (.slice lD rows.length cr) (.slice oi ints.length ci) {s1 with point:=pt.map cZ,much:=b}from⟨_,_,_,_,_,hcA.set 6 (.bool b) sm rfl rfl hcA.p⟩;have ktB:=fun(b:Bool)=>(T6.out.trans (.of k7)).trans (ktA.trans (KT.set (P:=P) hcA.b (.inr (.inr rfl)) (fun hp=>(hcA.av bS hp).2.1 rfl) (.bool b) (i:=6)));have HFB:=zh hcB;have zZ:=zh ktB;clear hcA ktA hcB ktB hc7 hu7 zch hk7 k7 t0 t1 t2 t3 t4 CT XU T6 HU6 za8;generalize s1.much=mu at *;generalize allFit pt pt.length=af at*;rcases mu with _ | _<;>rcases af with _ | _
  ·have wE:=zh (HFB.out true);have Gn:=zh (zZ.out true);go_simp
   repeat go_step
   refine bodyPost_ret (by simp [results,Tryz.results33,go_sem];rfl) rfl ?_;rw [Qm.out];exact⟨_,rfl,bD.nil _ _,wE.out,Gn.out⟩
  ·have wE:=zh (HFB.out false);have Gn:=zh (zZ.out false);go_simp
   repeat go_step
   refine bodyPost_ret (by simp [results,Tryz.results33,go_sem];rfl) rfl ?_;rw [Qm.out];exact⟨_,rfl,bD.nil _ _,wE.out,Gn.out⟩
  ·have wE:=zh (HFB.out true);have Gn:=zh (zZ.out true);go_simp
   repeat go_step
   refine bodyPost_ret (by simp [results,Tryz.results33,go_sem];rfl) rfl ?_;rw [Qm.out];exact⟨_,rfl,bD.nil _ _,wE.out,Gn.out⟩
  have wE:=zh (HFB.out true);have Gn:=zh (zZ.out true);go_simp
  repeat go_step
  refine bodyPost_ret (by simp [results,Tryz.results33,go_sem];rfl) rfl ?_;rw [Qm.out];exact⟨_,rfl,bD.nil _ _,wE.out,Gn.out⟩
 have Qm:=zh (gQ.out.trans (S9.out.2 kk hok));obtain⟨hk1,hk2,hk3⟩:=tK hok;have e1:zL ints pt=(kk:Int):=by unfold zL;rw [hok]
 rw [e1];have hlk:¬(kk:Int)<0:=om;have hkI:(kk:Int)<(ints.length:Int):=om;have Yt:=zh (EI I9.out FK.out hk1 hk2 hk3 (fun r hr=>D6.out.2 r hr) (fun s B h1 h2=>tL LPO.out hn12 hm40 HX.out.ok d s B h1 h2));have hkp:kk<pt.length:=om;obtain⟨bp,opp,rfl,hbp,pb,pS,pc,pU,p0,p1,p2,p3,hxp⟩:=HU6.out.at hkp;have eg:pt.getD kk 0=pt[kk]:=by rw [dX,fG hkp];rfl
 rw [eg]at Qm Yt;have hnp:=Qn.out _ (List.getElem_mem hkp);clear S9 gQ hok e1 hk2 hk3 D6 HU6 Qn eg;generalize pt[kk]=q at *;clear hkp;have CFL:=zh (fun w'=>Lm w' _ _ hxp (hnp.mono om));have Io:=zh ((WA hnp om).mono (k:=4000) om);obtain⟨z,hz⟩:∃z,jT q=z:=⟨_,rfl⟩;have hz':q.num/(q.den:Int)=z:=hz;rw [hz]at Qm Yt Io;rw [hz']at CFL;obtain⟨⟨zb,zS,zc,zU⟩,hzv,hzn⟩:=qQ z;rw [hzv]at CFL;unfold NV.v at CFL hzn;simp only at CFL hzn;have HZN:=zh hzn;clear hz hz' hzv hzn hxp hnp;go_wp2_with fail;refine(CFL.out _).mono ?_;rintro e w7 ⟨rfl,hk7⟩;have k7:Keep au w6 w7:=Keep.trans kp hk7 fun _ _ _ h=>h;have CBR:=zh (OH w0 w7 bS lD cr oi ci rows ints HX.out d HAC.out s1 B g kk z zb zS zc zU ⟨_,_,_,_,_,XU.out.keep k7⟩ (za8.out.kt (.of k7:KT P w6 w7)) I9.out FK.out hk1 HZN.out Io.out HFD.out YF.out hsl Yt.out);have T7:=zh (T6.out.trans (.of k7));clear k7 hk7 CFL XU T6 za8 p0 p1 p2 p3;go_wp2_with fail;refine CBR.out.mono ?_;rintro e w8 ⟨c8,rfl,ho8,hs8,kt8⟩;have HO8:=zh ho8;have HS8:=zh hs8;have T8:=zh (T7.out.trans kt8);obtain⟨oc8,cc8,hv8⟩:=ho8.len;subst hv8;clear CBR ho8 hs8 kt8 T7;go_simp
 repeat go_step
 refine bodyPost_ret (by simp [results,Tryz.results33,go_sem];rfl) rfl ?_;rw [Qm.out];exact⟨_,rfl,HO8.out,HS8.out,T8.out⟩
theorem WE (w0:World)(bS:Nat)(lD:Option Addr)(cr:Nat)(oi:Option Addr)(ci:Nat)(rows:List Rw)(ints:List Bool)(hx:Sr w0 (.slice lD rows.length cr) (.slice oi ints.length ci) rows ints):∀d,AtC w0 bS (.slice lD rows.length cr) (.slice oi ints.length ci) rows ints d
 | 0=>fun P w s B g _ _ _ _ h _=>absurd h om
 | d+1=>YZ w0 bS lD cr oi ci rows ints hx d (WE w0 bS lD cr oi ci rows ints hx d)
end Go.Proofs.YtaiffmebphhdaaaGreat
