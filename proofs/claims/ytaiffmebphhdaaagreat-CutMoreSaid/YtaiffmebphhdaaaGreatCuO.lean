/- Package cut: at. -/
import Derived.Test.YtaiffmebphhdaaaGreatCuZ
import Derived.Test.YtaiffmebphhdaaaGreatSpEE
namespace Go.Proofs.YtaiffmebphhdaaaGreat
set_option maxRecDepth 100000
set_option maxHeartbeats 32000000
set_option linter.unusedSimpArgs false
set_option linter.unusedVariables false
open Go.ChangeShapes Go.WideShapes Go.RowKit Go.Maps
variable {P:Nat→Prop}
abbrev TBd:TypeId:=115
def Vb (m:Nat):List Int:=(List.range m).map fun(i:Nat)=>(i:Int)+1
theorem Vd (m:Nat):Vb (m+1)=Vb m++ [(m:Int)+1]:=by simp [Vb,List.range_succ]
theorem Dm (m:Nat):(Vb m).length=m:=by simp [Vb]
theorem XF (m n:Nat)(B:jo):allI m n B=Vb m++(dL B n).map CB.id:=by
 unfold allI Vb
 congr 1
def sgJ (j:Nat):Int:=if j=0 then 1 else -1
def hB (B:jo)(k:Nat):Nat→List CB
 | 0=>dL B k
 | j+1=>hB B k j++(lK B (k:Nat) (sgJ j)).toList
theorem zax (B:jo)(k:Nat):hB B k 2=dL B (k+1):=by
 simp only [hB,dL];rfl
theorem zay (B:jo)(k j:Nat)(hk:k<12)(hj:j≤2):(hB B k j).length≤24:=by
 have h1:=mH (B:=B) k;have h2:∀s,(lK B (k:Nat) s).toList.length≤1:=fun s=>by rcases lK B (k:Nat) s with _ | x<;>simp
 have a:=h2 (sgJ 0);have b:=h2 (sgJ 1);obtain rfl | rfl | rfl:j=0∨j=1∨j=2:=by omega
 ·simp only [hB];omega
 ·simp only [hB,List.length_append];omega
 ·simp only [hB,List.length_append];omega
structure Sj (w1 wr:World)(rows:List Rw)(CL:List CB)(u6 u7:Value)(zs:List vZ):Prop where
 z:zs.map vZ.r=rows++CL.map CB.row
 ok:∀x∈zs,bC w1 x.sv x.r.of∧fK x.r.kind∧fK x.r.to∧pz x.sv
 a:wr.ownsRow w1.heap.size tZ 3 u6 (rows.length+CL.length) (zs.flatMap AQ)
 b:wr.ownsRow w1.heap.size TI 1 u7 (rows.length+CL.length) (iv (Vb rows.length++CL.map CB.id))
 k:Keep au w1 wr
theorem Sj.keep {w1 wr w':World}{rows:List Rw}{CL:List CB}{u6 u7:Value}{zs:List vZ}(h:Sj w1 wr rows CL u6 u7 zs)(k:Keep au wr w'):Sj w1 w' rows CL u6 u7 zs:=⟨h.z,h.ok,fq h.a k,fq h.b k,h.k.both k⟩
theorem Sj.rows {w1 wr:World}{rows:List Rw}{CL:List CB}{u6 u7:Value}{zs:List vZ}(h:Sj w1 wr rows CL u6 u7 zs):bW wr u6 (rows++CL.map CB.row):=by
 have hl:zs.length=rows.length+CL.length:=by
  have:=congrArg List.length h.z
  simpa using this
 have:jQ w1 wr w1.heap.size u6 (rows++CL.map CB.row):=⟨zs,h.z,h.ok,by unfold dO;rw [hl];exact h.a⟩
 exact this.rows h.k
theorem Sj.ints {w1 wr:World}{rows:List Rw}{CL:List CB}{u6 u7:Value}{zs:List vZ}(h:Sj w1 wr rows CL u6 u7 zs):bD wr w1.heap.size u7 (Vb rows.length++CL.map CB.id):=by
 unfold bD;rw [List.length_append,Dm,List.length_map];exact h.b
structure AU (w6:World)(vA vB:Value)(fB:Bool)(sB:Value)(w:World):Prop where
 size:w6.heap.size≤w.heap.size
 old:∀(c:Nat) (o:Obj),w6.heap[c]? =some o→vA.ownBlock≠some c→vB.ownBlock≠some c→w.heap[c]? =some o
 new:fB=true→∀c,sB.ownBlock=some c→vB.ownBlock=some c∨w6.heap.size≤c
theorem AU.start {fB:Bool}{sB:Value}(w:World)(vA vB:Value)(hf:fB=false):AU w vA vB fB sB w.drew:=⟨(Keep.refl au w).drew.size,fun c o h _ _=>((Keep.refl au w).drew.block c (lt_of_heap h) fun _ h=>h).trans h,fun h=>by rw [hf]at h;cases h⟩
theorem AU.keep {w6 w w':World}{vA vB sB:Value}{fB:Bool}(h:AU w6 vA vB fB sB w)(k:Keep au w w'):AU w6 vA vB fB sB w':=⟨Nat.le_trans h.size k.size,fun c o hc h1 h2=>(k.block c (lt_of_heap (h.old c o hc h1 h2)) fun _ h=>h).trans (h.old c o hc h1 h2),h.new⟩
section
variable {w6 w0 w:World} {eA kA nA eB kB nB:Nat} {vA vB sB:Value} {fB:Bool} {xA cA xB cB:List Value} {gg:Nat} {TG:TypeId} {arr:Value→Value→Array Value} {gx:Nat} {ox:Obj} {bA aA bB aB s1 s2:Bool} {GX Dn GY Dp:Value}
theorem AU.appA {XG:TypeId}(h:AU w6 vA vB fB sB w)(hap:Ca XG eA kA)(hl:cA.length=kA)(h1:∀u∈cA,u.oneCell'=true)(hn:nA≤100000)(hC:kF w0 eA kA nA eB kB nB vA vB xA cA xB cB gg TG arr gx ox bA aA bB aB s1 s2 GX Dn GY Dp w)(hb:bA=true)(ha:aA=false){v':Value}{w':World}(hr:(Builtin.append_ #[XG,XG] XG #[vA,GX]).run Tryz.prog w= .ok v' w'):AU w6 vA vB fB sB w':=by
 obtain⟨b,rfl,hbk,hbv⟩:=hC.pa hb ha;obtain⟨v2,w2,hr2,ho,hg,hv⟩:=hap.app w _ vA nA xA b cA (hC.a0 ha) hbk hl h1 hn hC.k.size;rw [hr2]at hr
 injection hr with q1 q2
 subst q2;exact⟨Nat.le_trans h.size hg.size,fun c o hc g1 g2=>(hg.block c (lt_of_heap (h.old c o hc g1 g2)) fun e=>g1 e.symm).trans (h.old c o hc g1 g2),h.new⟩
theorem AU.appB {XH:TypeId}(h:AU w6 vA vB fB sB w)(hap:Ca XH eB kB)(hl:cB.length=kB)(h1:∀u∈cB,u.oneCell'=true)(hn:nB≤100000)(hC:kF w0 eA kA nA eB kB nB vA vB xA cA xB cB gg TG arr gx ox bA aA bB aB s1 s2 GX Dn GY Dp w)(hb:bB=true)(ha:aB=false){v':Value}{w':World}(hr:(Builtin.append_ #[XH,XH] XH #[vB,GY]).run Tryz.prog w= .ok v' w'):AU w6 vA vB true v' w':=by
 obtain⟨b,rfl,hbk,hbv⟩:=hC.pb hb ha;obtain⟨v2,w2,hr2,ho,hg,hv⟩:=hap.app w _ vB nB xB b cB (hC.b0 ha) hbk hl h1 hn hC.k.size;rw [hr2]at hr
 injection hr with q1 q2
 subst q1 q2;refine⟨Nat.le_trans h.size hg.size,fun c o hc g1 g2=>(hg.block c (lt_of_heap (h.old c o hc g1 g2)) fun e=>g2 e.symm).trans (h.old c o hc g1 g2),fun _ c hc=> ?_⟩
 rcases hv with hv | hv
 ·exact .inl (hv ▸ hc)
 ·rw [hv]at hc;cases hc;exact .inr h.size
end
def pvO (vA vB vR:Value)(b12:Nat)(id:Int):Nat→Value→Prop
 | 0,v=>v=vA
 | 1,v=>v= .pointer (some ⟨b12,0,none⟩)
 | 2,v=>v=vR
 | 5,v=>v=vB
 | 6,v=>v= .pointer (some ⟨b12,3,none⟩)
 | 7,v=>v= .int .i64 id
 | _,_=>True
theorem Lp {lp:List Rw→LP}{rows:List Rw}{ints:List Bool}{rc:jm→jo→mY}{s:jm}{B:jo}(h:lp (kG rows ints.length B)= .hungry):rP lp rows ints rc s B=⟨3,[],s⟩:=by unfold rP;rw [h]
theorem XI {lp:List Rw→LP}{rows:List Rw}{ints:List Bool}{rc:jm→jo→mY}{s:jm}{B:jo}{l:List Rat}(h:lp (kG rows ints.length B)= .no l):
  (allFit l l.length=true→rP lp rows ints rc s B=⟨2,(gD (dB l (allI rows.length ints.length B))).map (·.1),{s with steps:=s.steps++ [⟨4,(gD (dB l (allI rows.length ints.length B))).map (·.1),(gD (dB l (allI rows.length ints.length B))).map (·.2),xK⟩]}⟩)∧(allFit l l.length=false→rP lp rows ints rc s B=⟨2,[],{s with much:=true}⟩):=by
 unfold rP;rw [h];exact⟨fun e=>by simp only [e,if_true],fun e=>by simp only [e];rfl⟩
theorem Ve {lp:List Rw→LP}{rows:List Rw}{ints:List Bool}{rc:jm→jo→mY}{s:jm}{B:jo}{pt:List Rat}(h:lp (kG rows ints.length B)= .yes pt):
  (nO ints pt=none→rP lp rows ints rc s B=⟨1,[],{s with point:=pt.map dQ,much:=s.much || !allFit pt pt.length}⟩)∧(∀k,nO ints pt=some k→rP lp rows ints rc s B=gH rows.length rc s B k (jP (pt.getD k 0))):=by
 unfold rP;rw [h];exact⟨fun e=>by simp only [e],fun k e=>by simp only [e]⟩
theorem Vf {j:Nat}{q:Rat}(h:NB j q)(hj:1≤j):NB j ((jP q:Int):Rat):=by
 refine⟨?_,?_⟩
 ·rw [Rat.num_intCast]
  refine Nat.le_trans (nW ?_) h.1;unfold jP;exact Int.natAbs_ediv_le_natAbs _ _
 ·rw [Rat.den_intCast]
  exact Nat.le_trans (rF (k:=1) (by decide)) hj
theorem NK (w0 w:World)(bS:Nat)(lU:Option Addr)(cr:Nat)(oi:Option Addr)(ci:Nat)(rows:List Rw)(ints:List Bool)(hx:Q5 w0 (.slice lU rows.length cr) (.slice oi ints.length ci) rows ints)(d:Nat)(hA:AtC w0 bS (.slice lU rows.length cr) (.slice oi ints.length ci) rows ints d)
  (s:jm) (B:jo) (g k:Nat) (z:Int) (xb:Bool) (xS:ByteArray) (xc:Bool) (xU:ByteArray) (h:BI P w0 w bS (.slice lU rows.length cr) (.slice oi ints.length ci) s) (hB:UH w w0.heap.size g B) (ha:jV rows.length ints.length s.atoms) (hb:iA rows.length ints.length s.atoms B) (hk:k<ints.length)
  (hz:bM (.agg #[.bool xb,.string xS,.bool xc,.string xU]) (z:Rat)) (hzn:NB 4000 (z:Rat)) (hf:s.fuel<d) (Q6:qE s) (hsl:s.steps.length≤7001) (hS:MG rows ints s B (gH rows.length (uw (uy ints.length) rows ints d) s B k z)):
  Calls Tryz.prog 62 #[.pointer (some ⟨bS,0,none⟩),.map (some g),.int .i64 (k:Int),.agg #[.bool xb,.string xS,.bool xc,.string xU]] w (xV P w0 bS (.slice lU rows.length cr) (.slice oi ints.length ci) w (gH rows.length (uw (uy ints.length) rows ints d) s B k z)):=by
 by_cases hbad:z< -1000000∨1000000≤z∨3000<s.steps.length+8∨120<rows.length+s.atoms.length+2
 ·exact Rj w0 w bS lU cr oi ci rows ints hx d hA s B g k z xb xS xc xU h hB ha hb hk hz hzn hf Q6 hsl hbad
 ·exact Q0 w0 w bS lU cr oi ci rows ints hx d hA s B g k z xb xS xc xU h hB ha hb hk hz hzn hf Q6 hsl hbad hS
theorem XJ (w0:World)(bS:Nat)(lU:Option Addr)(cr:Nat)(oi:Option Addr)(ci:Nat)(rows:List Rw)(ints:List Bool)(hx:Q5 w0 (.slice lU rows.length cr) (.slice oi ints.length ci) rows ints)(d:Nat)(hA:AtC w0 bS (.slice lU rows.length cr) (.slice oi ints.length ci) rows ints d):AtC w0 bS (.slice lU rows.length cr) (.slice oi ints.length ci) rows ints (d+1):=by
 intro P w s B g h hBm ha hb hf Q6;obtain⟨va,vt,vp,xs,ys,hc⟩:=h;obtain⟨⟨oa,ca,rfl⟩,⟨ot,ct,rfl⟩,op,cp,rfl⟩:=hc.forms;have HC:=zh hc;have HX:=zh hx;have HAC:=zh hA;have HBM:=zh hBm;have IZ:=zh ha;have J2:=zh hb;have Xp:=zh Q6;have hn12:ints.length≤12:=hx.n12;have hm40:rows.length≤40:=hx.m40;obtain⟨t0,t1,t2,t3,t4,t5,t6,lS⟩:=lM hc.blk;have t2f:=hc.blk.free 2;clear hc hx hA hBm ha hb;unfold xV
 by_cases h0:s.fuel=0
 case pos=>
  have gT:Hid (uw (uy ints.length) rows ints (d+1) s B=⟨3,[],s⟩):=zh (by unfold uw;rw [if_pos h0])
  replace t2:w.cell? ⟨bS,2,none⟩=some (.int .i64 0):=by rw [t2,h0];rfl
  clear h0 hf Q6;go_enter Tryz.func33,Tryz.ntmps33;go_wp2;refine bodyPost_ret (by simp [results,Tryz.results33,go_sem];rfl) rfl ?_
  rw [gT.out];exact⟨_,rfl,bD.nil _ _,⟨_,_,_,_,_,HC.out⟩,KT.refl _⟩
 case neg=>
 obtain⟨f,hfu⟩:∃f,s.fuel=f+1:=⟨s.fuel-1,by omega⟩
 replace t2:w.cell? ⟨bS,2,none⟩=some (.int .i64 ((f:Int)+1)):=by rw [t2,hfu];rfl
 have hf2000:f≤2000:=by unfold qE at Q6;omega
 have e0:((f:Int)+1==0)=false:=by rw [beq_eq_false_iff_ne];omega
 obtain⟨s1,hs1⟩:∃s1:jm,s1= {s with fuel:=f}:=⟨_,rfl⟩
 have gT:Hid (uw (uy ints.length) rows ints (d+1) s B=rP (uy ints.length) rows ints (uw (uy ints.length) rows ints d) s1 B):=zh (by unfold uw;rw [if_neg h0,hs1,hfu];rfl)
 have IZ:Hid (jV rows.length ints.length s1.atoms):=zh (by rw [hs1];exact IZ.out)
 have J2:Hid (iA rows.length ints.length s1.atoms B):=zh (by rw [hs1];exact J2.out)
 have Xp:Hid (qE s1):=zh (by have:=Xp.out;unfold qE at this ⊢;rw [hs1];simp only;omega)
 have HFD:Hid (s1.fuel<d):=zh (by rw [hs1];simp only;omega)
 have hsl:s1.steps.length≤7001:=by have:=Xp.out;unfold qE at this;omega
 have O7:Hid (ug P w0 (w.setCell ⟨bS,2,none⟩ (.int .i64 (f:Int))) bS (.slice lU rows.length cr) (.slice oi ints.length ci) s1 (.slice oa s.atoms.length ca) (.slice ot s.steps.length ct) (.slice op s.point.length cp) xs ys):=zh (by
  rw [hs1];exact HC.out.set 2 _ (by simp) rfl rfl HC.out.p)
 have T1:Hid (KT P w (w.setCell ⟨bS,2,none⟩ (.int .i64 (f:Int)))):=zh (KT.set HC.out.b (.inr (.inr rfl)) (fun hp=>(HC.out.av bS hp).2.1 rfl) _)
 clear h0 hf Q6 hfu hs1 HC;go_enter Tryz.func33,Tryz.ntmps33;go_upto_region 4 with fail
 clear t0 t1 t2 t3 t4 t5 t6 lS t2f e0;generalize w.setCell ⟨bS,2,none⟩ (.int .i64 (f:Int))=w1 at *;obtain⟨t0,t1,t2,t3,t4,t5,t6,lS⟩:=lM O7.out.blk;have CC:=zh (Jg w1 (.slice lU rows.length cr) rows (HX.out.hr.keep O7.out.k) (by omega))
 go_wp2_with fail;refine CC.out.mono ?_;rintro e w2 ⟨u,rfl,hu2,hk2⟩;have k2:Keep au w1 w2:=Keep.trans kp hk2 fun _ _ _ h=>h
 obtain⟨zs0,hz1,hz2,hz3⟩:=hu2;have hzl:zs0.length=rows.length:=by rw [← hz1,List.length_map]
 unfold dO at hz3;rw [hzl]at hz3;obtain⟨ou,cu,rfl⟩:=dx hz3;have K2:=zh k2;have HZ1:=zh hz1;have HZ2:=zh hz2;have HZ3:=zh hz3;clear hk2 k2 hz1 hz2 hz3 hzl CC t0 t1 t2 t3 t4 t5 t6 lS;go_wp2;go_loopw [41,7] (fun s u wr=>∃k:Nat,k≤rows.length∧s= .int .i64 k∧bD wr w2.heap.size u (Vb k)∧Keep au w2 wr) (fun s _ _=>(rows.length-intOf s).toNat)
 case atStart=>exact⟨0,by omega,rfl,bD.nil _ _,Keep.refl _ _⟩
 case round=>
 obtain⟨k,hk,rfl,hou,hkr⟩:=hrel;have KR:=zh hkr;have sH:=zh hou;obtain⟨ov,cv,hvv⟩:=hou.len;rw [Dm]at hvv;subst hvv;clear hou hkr
 by_cases hkl:k<rows.length
 case pos=>
  have hlt:(k:Int)<(rows.length:Int):=by omega
  have ka:Keep au wr (wr.alloc (.cells #[.int .i64 ((k:Int)+1)] TI)):=(Keep.refl _ _).alloc _;obtain⟨v4,w4,hr4,ho4,hg4⟩:=jc (sH.out.keep ka) (qA wr ((k:Int)+1) (by unfold fK;omega)) (by rw [Dm];simp only [List.length_singleton];omega) (KR.out.both ka).size
  have K4:=zh ((KR.out.both ka).grown hg4 fun k hk=>bD.block sH.out k hk)
  rw [← Vd]at ho4;have MF:=zh ho4;clear ka ho4 hg4;go_wp2_with (at_builtin;refine bG _ _ 38 _ _ rfl rfl rfl rfl hr4 ?_);go_roundw
  case rel=>exact⟨k+1,by omega,by go_num,MF.out,K4.out⟩
  case measure=>simp [intOf];omega
 case neg=>
 have hlt:¬(k:Int)<(rows.length:Int):=by omega
 obtain rfl:rows.length=k:=by omega
 have HL0:Hid (Sj w1 wr rows (hB B 0 0) (.slice ou rows.length cu) (.slice ov rows.length cv) zs0):=zh ⟨by simp [hB,dL,HZ1.out],HZ2.out,by simp only [hB,dL];exact fq HZ3.out KR.out,by
  simp only [hB,dL,List.map_nil,List.append_nil,List.length_nil,Nat.add_zero];have h:=World.ownsRow_mono sH.out K2.out.size;rw [Dm]at h;exact h,K2.out.both KR.out⟩
 clear HZ1 HZ2 HZ3 sH KR hk;obtain⟨wk,rfl⟩:∃W:World,W=wr:=⟨_,rfl⟩;obtain⟨t0,t1,t2,t3,t4,t5,t6,lS⟩:=lM (O7.out.keep HL0.out.k).blk;go_wp2;go_loopw [55,6,7] (fun s u v wr=>∃(k:Nat) (zs:List vZ),k≤ints.length∧s= .int .i64 k∧Sj w1 wr rows (hB B k 0) u v zs) (fun s _ _ _=>(ints.length-intOf s).toNat)
 case atStart=>exact⟨0,zs0,by omega,rfl,HL0.out⟩
 case round=>
 obtain⟨k,zs,hk,rfl,hal⟩:=hrel;have Aa:=zh hal;obtain⟨o6,c6,rfl⟩:=dx hal.a;obtain⟨o7,c7,rfl⟩:=dx hal.b;have n58:(Value.slice o7 (rows.length+(hB B k 0).length) c7).ownBlock≠some wr.heap.size:=fun e=>by have:=(EY hal.b e).2;omega
 clear hal
 by_cases hkl:k<ints.length
 case pos=>
  have hlt:(k:Int)<(ints.length:Int):=by omega
  have ka:Keep au wr (wr.alloc (.cells #[.int .i64 1,.int .i64 (-1)] TI)):=(Keep.refl _ _).alloc _;have zcR:Hid ((wr.alloc (.cells #[.int .i64 1,.int .i64 (-1)] TI)).heap[wr.heap.size]? =some (.cells #[.int .i64 1,.int .i64 (-1)] TI (0,0))):=zh (aZ _ _ _ rfl);have Aa:=zh (Aa.out.keep ka);have N58:=zh n58;clear n58 HL0 t0 t1 t2 t3 t4 t5 t6 lS;go_upto_region 15 with fail
  clear ka;generalize wr.alloc (.cells #[.int .i64 1,.int .i64 (-1)] TI)=w5 at *;generalize wr.heap.size=b58 at *;have zcS:Hid (w5.heap[b58]? =some (.cells #[.int .i64 1,.int .i64 (-1)] TI (0,0))):=zcR;go_loopw [60,6,7] (fun s u v wr=>∃(j:Nat) (zs:List vZ),j≤2∧s= .int .i64 j∧Sj w1 wr rows (hB B k j) u v zs∧wr.heap[b58]? =some (.cells #[.int .i64 1,.int .i64 (-1)] TI (0,0))∧v.ownBlock≠some b58) (fun s _ _ _=>(2-intOf s).toNat)
  case atStart=>exact⟨0,zs,by omega,rfl,Aa.out,zcS.out,N58.out⟩
  case round=>
   obtain⟨j,ys5,hj,rfl,hal,hk58,hn58⟩:=hrel;have NM:=zh hk58;obtain⟨o8,c8,rfl⟩:=dx hal.a;obtain⟨o9,c9,rfl⟩:=dx hal.b;have Aa:=zh hal;have zaz:=zh hn58;clear hal hk58 hn58
   by_cases hj2:j<2
   case neg=>
    have hlt2:¬(j:Int)<2:=by omega
    obtain rfl:j=2:=by omega
    have Zl:=Aa;rw [zax]at Zl;clear Aa;have Zl:Hid (Sj w1 wr rows (hB B (k+1) 0) (.slice o8 (rows.length+(hB B k 2).length) c8) (.slice o9 (rows.length+(hB B k 2).length) c9) ys5):=Zl;go_wp2;go_roundw
    case rel=>exact⟨k+1,ys5,by omega,by go_num,Zl.out⟩
    case measure=>simp [intOf];omega
   case pos=>
    have hlt2:(j:Int)<2:=by omega
    have hML:=zay B k j (by omega) (by omega)
    obtain⟨L,clock,hM,hL⟩:=(HBM.out.kt T1.out);have hMr:=hM.kt (.of (Aa.out.k):KT P w1 wr);have WH:=zh (hL (k:Int) (sgJ j));have HOW:=zh hM.own;have x58:wr.cell? ⟨b58,j,none⟩=some (.int .i64 (sgJ j)):=by
     obtain rfl | rfl:j=0∨j=1:=by omega
     ·exact cell_of_heap (o:=0) NM.out rfl
     ·exact cell_of_heap (o:=1) NM.out rfl
    have l58:b58<wr.heap.size:=lt_of_heap NM.out;have zy:Hid (hB B k (j+1)=hB B k j++(lK B (k:Nat) (sgJ j)).toList):=zh rfl;generalize hsg:sgJ j=sg at *;have HMH:=zh hMr.h;clear hM hL hMr hsg
    rcases hg:jw L (k:Int) sg with _ | en
    case none=>
     rw [hg]at WH;have F3:Hid (hB B k (j+1)=hB B k j):=zh (by rw [zy.out,←WH.out];simp)
     have hv:Cb L (k:Int) sg= .tuple #[.agg #[.slice none 0 0,.int .i64 0,.int .i64 0,.int .i64 0],.bool false]:=by unfold Cb;rw [hg]
     clear WH zy hg HOW;go_wp2_with (refine zG _ rfl _ _ rfl g L clock (k:Int) sg _ rfl rfl HMH.out hv ?_);have ke:Keep au wr (wr.alloc (.cells #[.slice none 0 0,.int .i64 0,.int .i64 0,.int .i64 0] TBd)):=(Keep.refl _ _).alloc _;go_roundw
     case rel=>exact⟨j+1,ys5,by omega,by go_num,by rw [F3.out];exact Aa.out.keep ke,(ke.block b58 l58 fun _ h=>h).trans NM.out,zaz.out⟩
     case measure=>simp [intOf];omega
    case some=>
     rw [hg]at WH;obtain⟨hen,hek,hes⟩:=zH hg;have hv:Cb L (k:Int) sg= .tuple #[en.v,.bool true]:=by unfold Cb;rw [hg]
     have hown:=HOW.out en hen;obtain⟨ek,es,esv,⟨⟨eof,Rl,Rm⟩,Rn⟩,eb⟩:=en;simp only at hek hes hown;obtain⟨kq,sq,zq,iq,g1,g2,g3,g4⟩:=J2.out.b _ (pQ (WH.out.symm.trans rfl));have hfit:=Dj g1;have hia:=(List.getElem?_eq_some_iff.1 g4).1;have hcap:=IZ.out.cap;simp only at g3 hfit;have hid:0≤Rn∧Rn≤200:=by omega
     have F3:Hid (hB B k (j+1)=hB B k j++ [⟨⟨eof,Rl,Rm⟩,Rn⟩]):=zh (by rw [zy.out,←WH.out];rfl)
     have HNW:Hid (bC w1 esv eof∧fK Rl∧fK Rm∧pz esv):=zh ⟨hown.ints hfit.o,hfit.k,hfit.t,hown.cap⟩;obtain⟨oe,ce,hev⟩:=hown.len;subst hev;clear WH zy hg HOW g1 g2 g3 g4 hfit hia hcap hown hen hek hes;have hv:Cb L (k:Int) sg= .tuple #[.agg #[.slice oe eof.length ce,.int .i64 Rl,.int .i64 Rm,.int .i64 Rn],.bool true]:=hv;go_upto_region 19 with(refine zG _ rfl _ _ rfl g L clock (k:Int) sg _ rfl rfl HMH.out hv ?_)
     have ke:Keep au wr (wr.alloc (.cells #[.slice oe eof.length ce,.int .i64 Rl,.int .i64 Rm,.int .i64 Rn] TBd)):=(Keep.refl _ _).alloc _;have HX6:Hid ((wr.alloc (.cells #[.slice oe eof.length ce,.int .i64 Rl,.int .i64 Rm,.int .i64 Rn] TBd)).heap[wr.heap.size]? =some (.cells #[.slice oe eof.length ce,.int .i64 Rl,.int .i64 Rm,.int .i64 Rn] TBd (0,0))):=zh (aZ _ _ _ rfl);have R8:=zh (Aa.out.keep ke);have FK:=zh ((ke.block b58 l58 fun _ h=>h).trans NM.out)
     have HQA:Hid ((Value.slice o8 (rows.length+(hB B k j).length) c8).ownBlock≠some b58):=zh fun e=>by
      obtain⟨A,e1⟩:=iy Aa.out.a e;rw [NM.out]at e1;exact absurd (Obj.cells.inj (Option.some.inj e1)).2.1 (by decide)
     obtain⟨M,hM⟩:∃M,rows.length+(hB B k j).length=M:=⟨_,rfl⟩;have hA6:=R8.out.a;have hB6:=R8.out.b;rw [hM]at hA6 hB6 ⊢;have HAA:=zh hA6;have SB:=zh hB6;have hMM:M≤64:=by omega
     have HM:=zh hM;clear ke Aa x58 l58 hv HMH hM hA6 hB6 NM;generalize wr.alloc (.cells #[.slice oe eof.length ce,.int .i64 Rl,.int .i64 Rm,.int .i64 Rn] TBd)=w6 at *;obtain⟨b12,hb12⟩:∃b12,wr.heap.size=b12:=⟨_,rfl⟩;rw [hb12]at HX6 ⊢;clear hb12;refine jg (fun S σ w'=>kF w1 tZ 3 M TI 1 M (.slice o8 M c8) (.slice o9 M c9) (ys5.flatMap AQ) [.slice oe eof.length ce,.int .i64 Rl,.int .i64 Rm] (iv (Vb rows.length++(hB B k j).map CB.id)) [.int .i64 Rn] b12 TBd (fun _ _=> #[.slice oe eof.length ce,.int .i64 Rl,.int .i64 Rm,.int .i64 Rn]) b12 (.cells #[.slice oe eof.length ce,.int .i64 Rl,.int .i64 Rm,.int .i64 Rn] TBd (0,0)) (S 3) (S 4) (S 8) (S 9) false false (σ 3) (σ 4) (σ 8) (σ 9) w'∧(S 10=true→σ 10=σ 4)∧(S 11=true→σ 11=σ 9)∧AU w6 (.slice o8 M c8) (.slice o9 M c9) (S 9) (σ 9) w') (fun S d v w=>pvO (.slice o8 M c8) (.slice o9 M c9) (.agg #[.slice oe eof.length ce,.int .i64 Rl,.int .i64 Rm]) b12 Rn d v) (by kernel_rfl) (by kernel_rfl) (by kernel_rfl) (by kernel_rfl) (fun S σ hS=>⟨kF.start (hS 3) (hS 4) (hS 8) (hS 9) rfl rfl (⟨R8.out.k.size,R8.out.k,HAA.out,SB.out,HX6.out,HX6.out⟩),fun h=>(by rw [hS 10]at h;cases h),fun h=>(by rw [hS 11]at h;cases h),AU.start _ _ _ (hS 9)⟩) _ (fun σ=>by
      show bV _ σ [0,1,2,3,4,5,6,7,8,9,10,11] _=_;simp only [bV,zl0,zl1,zl2,Act.put,List.setIfInBounds_toArray,List.set_cons_zero,List.set_cons_succ];rfl) ?_ ?_
     ·intro S σ wz hC hall e he HK
      have he:e<12:=he;obtain rfl | rfl | rfl | rfl | rfl | rfl | rfl | rfl | rfl | rfl | rfl | rfl:e=0∨e=1∨e=2∨e=3∨e=4∨e=5∨e=6∨e=7∨e=8∨e=9∨e=10∨e=11:=by omega
      ·refine ay rfl rfl fun K hK=> ?_
       go_simp;exact hK _ _ ⟨_,hC,fun d _ _ h=>h,rfl,HK.init 10 (HK.down 10 (by kernel_rfl))⟩
      ·refine ay rfl rfl fun K hK=> ?_
       go_simp;exact hK _ _ ⟨_,hC,fun d _ _ h=>h,rfl,rfl⟩
      ·have h1:σ 1= .pointer (some ⟨b12,0,none⟩):=HK.post 1 (by kernel_rfl)
       rw [h1];have m0:=cell_of_heap (o:=0) hC.1.blk rfl;have m1:=cell_of_heap (o:=1) hC.1.blk rfl;have m2:=cell_of_heap (o:=2) hC.1.blk rfl;have ml:=lt_of_heap hC.1.blk;refine ay rfl rfl fun K hK=> ?_
       go_simp;exact hK _ _ ⟨_,hC,fun d _ _ h=>h,rfl,rfl⟩
      ·have h2:σ 2=(.agg #[.slice oe eof.length ce,.int .i64 Rl,.int .i64 Rm]):=HK.post 2 (by kernel_rfl)
       rw [h2];refine ay rfl rfl fun K hK=> ?_
       go_simp;exact hK _ _ ⟨_,⟨hC.1.buildA ((Keep.refl _ _).alloc _) (b:=wz.heap.size) (aR _ _ rfl) (Nat.le_refl _),hC.2.1,hC.2.2.1,hC.2.2.2.keep ((Keep.refl _ _).alloc _)⟩,fun d _ _ h=>h,rfl,trivial⟩
      ·obtain ⟨v',w2,hr,hc2⟩:=hC.1.appA O8 (by decide) (by decide) (fun A f h=>absurd (Obj.cells.inj h).2.1 (by decide)) rfl (by intro u hu;simp at hu;rcases hu with rfl | rfl | rfl<;>rfl) (by omega) (HK.up 3 (by kernel_rfl)) HK.self rfl
       have h0:σ 0=(.slice o8 M c8):=HK.post 0 (by kernel_rfl)
       rw [h0];refine ay rfl rfl fun K hK=> ?_
       refine bZ _ _ 22 _ _ rfl rfl rfl hr ?_;exact hK _ _ ⟨_,⟨hc2,fun h=>absurd (show S 10=true from h) (by rw [HK.down 10 (by kernel_rfl)];decide),hC.2.2.1,hC.2.2.2.appA O8 rfl (by intro u hu;simp at hu;rcases hu with rfl | rfl | rfl<;>rfl) (by omega) hC.1 (HK.up 3 (by kernel_rfl)) HK.self hr⟩,fun d _ _ h=>h,rfl,trivial⟩
      ·refine ay rfl rfl fun K hK=> ?_
       go_simp;exact hK _ _ ⟨_,hC,fun d _ _ h=>h,rfl,HK.init 11 (HK.down 11 (by kernel_rfl))⟩
      ·refine ay rfl rfl fun K hK=> ?_
       go_simp;exact hK _ _ ⟨_,hC,fun d _ _ h=>h,rfl,rfl⟩
      ·have h6:σ 6= .pointer (some ⟨b12,3,none⟩):=HK.post 6 (by kernel_rfl)
       rw [h6];have m0:=cell_of_heap (o:=3) hC.1.blk rfl;have ml:=lt_of_heap hC.1.blk;refine ay rfl rfl fun K hK=> ?_
       go_simp;exact hK _ _ ⟨_,hC,fun d _ _ h=>h,rfl,rfl⟩
      ·have h7:σ 7= .int .i64 Rn:=HK.post 7 (by kernel_rfl)
       rw [h7];refine ay rfl rfl fun K hK=> ?_
       go_simp;exact hK _ _ ⟨_,⟨hC.1.buildB ((Keep.refl _ _).alloc _) (b:=wz.heap.size) (aR _ _ rfl) (Nat.le_refl _),hC.2.1,hC.2.2.1,hC.2.2.2.keep ((Keep.refl _ _).alloc _)⟩,fun d _ _ h=>h,rfl,trivial⟩
      ·obtain ⟨v',w2,hr,hc2⟩:=hC.1.appB Db (by decide) (by decide) rfl (by intro u hu;simp at hu;subst hu;rfl) (by omega) (HK.up 8 (by kernel_rfl)) HK.self rfl
       have h5:σ 5=(.slice o9 M c9):=HK.post 5 (by kernel_rfl)
       rw [h5];refine ay rfl rfl fun K hK=> ?_
       refine bZ _ _ 38 _ _ rfl rfl rfl hr ?_;exact hK _ _ ⟨_,⟨hc2,hC.2.1,fun h=>absurd (show S 11=true from h) (by rw [HK.down 11 (by kernel_rfl)];decide),hC.2.2.2.appB Db rfl (by intro u hu;simp at hu;subst hu;rfl) (by omega) hC.1 (HK.up 8 (by kernel_rfl)) HK.self hr⟩,fun d _ _ h=>h,rfl,trivial⟩
      ·refine ay rfl rfl fun K hK=> ?_
       go_simp;exact hK _ _ ⟨_,⟨hC.1,fun _=>rfl,hC.2.2⟩,fun d _ _ h=>h,rfl,trivial⟩
      ·refine ay rfl rfl fun K hK=> ?_
       go_simp;exact hK _ _ ⟨_,⟨hC.1,hC.2.1,fun _=>rfl,hC.2.2.2⟩,fun d _ _ h=>h,rfl,trivial⟩
     ·intro S σ w9 Ap hS hP
      have hT:=Ap.1.done (hS 3 (show 3<12 by omega)) (hS 4 (show 4<12 by omega)) (hS 8 (show 8<12 by omega)) (hS 9 (show 9<12 by omega))
      obtain⟨oA,cA',Tw⟩:=dx hT.a;obtain⟨oB,ZI,hvB⟩:=dx hT.b;have Tx:σ 10=_:=(Ap.2.1 (hS 10 (show 10<12 by omega))).trans Tw
      have Tz:σ 11=_:=(Ap.2.2.1 (hS 11 (show 11<12 by omega))).trans hvB
      rw [Tx,Tz];refine NoPanic.normal ?_;have zbQ:Hid (M+1=rows.length+(hB B k (j+1)).length):=zh (by rw [F3.out,List.length_append,List.length_singleton];have:=HM.out;omega)
      have R5:Hid (Sj w1 w9 rows (hB B k (j+1)) (.slice oA (M+1) cA') (.slice oB (M+1) ZI) (ys5++ [⟨.slice oe eof.length ce,⟨eof,Rl,Rm⟩⟩])):=zh ⟨by rw [F3.out,List.map_append,List.map_append,R8.out.z,List.append_assoc];rfl,fun x hx=>by
       rcases List.mem_append.1 hx with hx | hx
       ·exact R8.out.ok x hx
       ·rw [List.mem_singleton.1 hx];exact HNW.out,by
       rw [← zbQ.out,List.flatMap_append,←Tw];exact hT.a,by
       rw [← zbQ.out,F3.out,List.map_append,←List.append_assoc,DZ,←hvB];exact hT.b,hT.k⟩
      have HK9:=zh (Ap.2.2.2.old b58 _ FK.out (by have h:=HQA.out;rw [HM.out]at h;exact h) (by have h:=zaz.out;rw [HM.out]at h;exact h))
      have HN9:Hid ((Value.slice oB (M+1) ZI).ownBlock≠some b58):=zh fun e=>by
       rcases Ap.2.2.2.new (hS 9 (show 9<12 by omega)) b58 (by rw [hvB];exact e)with h | h
       ·have h5:=zaz.out;rw [HM.out]at h5;exact h5 h
       ·have:=lt_of_heap FK.out;omega
      clear hT Tw hvB Tx Tz hP hS Ap;go_wp2;go_roundw
      case rel=>exact⟨j+1,_,by omega,by go_num,R5.out,HK9.out,HN9.out⟩
      case measure=>simp [intOf];omega
 case neg=>
 have hlt:¬(k:Int)<(ints.length:Int):=by omega
 obtain rfl:ints.length=k:=by omega
 have HRW:=zh (show bW wr (.slice o6 (rows.length+(hB B ints.length 0).length) c6) (kG rows ints.length B)from Aa.out.rows)
 have HIW:=zh (show bD wr w1.heap.size (.slice o7 (rows.length+(hB B ints.length 0).length) c7) (allI rows.length ints.length B)from by rw [XF];exact Aa.out.ints)
 have Ro:=zh (zf hn12 HX.out.ok J2.out);have hbl:=mH (B:=B) ints.length;have hRl:(kG rows ints.length B).length=rows.length+(hB B ints.length 0).length:=by simp [kG,hB]
 have hIl:(allI rows.length ints.length B).length=rows.length+(hB B ints.length 0).length:=by simp [allI,hB]
 have h64:(kG rows ints.length B).length≤64:=by rw [hRl];show rows.length+(dL B ints.length).length≤64;omega
 have WC:=zh (O7.out.keep Aa.out.k);have T2:=zh (T1.out.trans (.of Aa.out.k));have zbR:=zh ((HBM.out.kt T1.out).kt (.of Aa.out.k:KT P w1 wr));have CN:=zh (fun w' (k:Keep au wr w')=>Nr w' _ _ ints.length (HRW.out.keep k) Ro.out hn12 h64)
 have Vg:=zh (vW hn12 h64 Ro.out);have LPO:Hid (EC ints.length (uy ints.length)):=zh (KM hn12 _);obtain⟨R,hR⟩:∃R,kG rows ints.length B=R:=⟨_,rfl⟩;have HR:=zh hR;rw [hR]at HRW Ro CN Vg hRl h64;obtain⟨M,hM⟩:∃M,rows.length+(hB B ints.length 0).length=M:=⟨_,rfl⟩;rw [hM]at HRW HIW CN hRl hIl ⊢;clear hM hR Aa O7 T1 HL0 K2 hk t0 t1 t2 t3 t4 t5 t6 lS;obtain⟨t0,t1,t2,t3,t4,t5,t6,lS⟩:=lM WC.out.blk;go_wp2_with fail;refine(CN.out _ kp).mono ?_;rintro e w3 ⟨bT,rfl,hT⟩;have HT:=zh hT;have K3:Hid (Keep au wr w3):=zh (Keep.trans kp (by obtain⟨L,hL⟩:=hT;exact hL.k) fun _ _ _ h=>h)
 clear hT CN t0 t1 t2 t3 t4 t5 t6;have CF:=zh (fun w' (k:Keep au w3 w')=>Sn _ w' bT _ ints.length R _ 1048576 (HT.out.keep k) Vg.out (Nat.le_refl _) (by omega))
 rw [show((1048576:Nat):Int)=1048576 from rfl]at CF
 go_wp2_with fail;refine(CF.out _ kp).mono ?_;rintro e w4 hcase;clear CF
 rcases hcase with⟨T,nm',hfe,rfl,hT4⟩ | ⟨l,u,hfe,rfl,hu,hk4⟩ | ⟨hfe,rfl,hk4⟩
 case inr.inr=>
  have hl:uy ints.length R= .hungry:=by unfold uy Xk;rw [hfe]
  rw [← HR.out]at hl;have Rp:=gT.out.trans (Lp hl);go_wp2;refine bodyPost_ret (by simp [results,Tryz.results33,go_sem];rfl) rfl ?_
  rw [Rp];exact⟨_,rfl,bD.nil _ _,⟨_,_,_,_,_,WC.out.keep hk4⟩,T2.out.trans (.of hk4)⟩
 case inr.inl=>
  have hl:uy ints.length R= .no l:=by unfold uy Xk;rw [hfe]
  rw [← HR.out]at hl;have Rp:=zh (XI (rc:=uw (uy ints.length) rows ints d) (s:=s1) hl);have XK:=LPO.out.no _ l (by rw [HR.out];exact h64) (by rw [HR.out];exact Ro.out) hl
  obtain⟨Tn,bn,way,hIT,hBK,hEN,hll⟩:=Di 1048576 _ l Vg.out hfe;have hnb:∀q∈l,NB 1000 q:=by
   rw [hll];have hi:=(lW hBK.mem).1;rw [hIT.wf.bl,hIT.hr]at hi;exact Jh hIT hi hBK.way _ (by rw [hIT.hn,hIT.hr];exact Nat.le_refl _)
  have hlen:l.length=M:=by rw [XK.1,HR.out,hRl]
  have XL:=UF XK.1 (hIl.trans (hRl.symm.trans (by rw [HR.out]))) XK.2.1
  have hne:l≠ []:=by
   intro h0;rw [h0]at XL;exact XL (by simp [dB])
  obtain⟨ou',cu',lu,hue,h1,h2,h3,h4⟩:=hu;obtain⟨gu,go,rfl,h5⟩:=h4 hne;have hu:jN w4 u l:=⟨_,cu',lu,hue,h1,h2,h3,fun _=>⟨gu,go,rfl,h5⟩⟩
  have CRF:=zh (fun w' (k:Keep au w4 w')=>Kh w0 w' bS _ _ s1 u _ l (allI rows.length ints.length B) M ⟨_,_,_,_,_,(WC.out.keep hk4).keep k⟩ (hu.keep k) hnb (((HIW.out.keep hk4).keep k).ints (fun x hx=>by have:=KU hm40 IZ.out J2.out x hx;unfold fK;omega)) hlen hIl (by omega) (KU hm40 IZ.out J2.out) (UE (Xl J2.out)) XL (by omega))
  rw [hlen]at hue Rp;have K4:=zh hk4;subst hue;clear hfe HT hIT hBK hEN hll hnb hlen hne h1 h2 h3 h4 h5 hu hk4 hl XK XL;have hnil:∀w,Sem.run Tryz.prog (binOp BinOp.neq 64 (Value.slice (some ⟨gu,go,none⟩) M cu') (Value.slice none 0 0)) w= .ok (.bool true) w:=fun w=>rfl
  go_wp2_with fail;refine(CRF.out _ kp).mono ?_;rintro e w5 ⟨hyes,hno,kt5⟩;have T5:=zh ((T2.out.trans (.of K4.out)).trans ((KT.of (P:=P) (show Keep au w4 w4 from Keep.refl _ _)).trans kt5))
  clear CRF hnil kt5 K4 WC
  rcases hfit:allFit l M with _ | _
  case false=>
   obtain⟨rfl,hs5⟩:=hno hfit;have O9:=zh (gT.out.trans (Rp.out.2 hfit));clear hyes hno Rp gT;obtain⟨va5,vt5,vp5,xs5,ys5,hc5⟩:=hs5;obtain⟨t0,t1,t2,t3,t4,t5,t6,lS5⟩:=lM hc5.blk;have t6f:=hc5.blk.free 6;have OY:=zh hc5;clear hc5 t0 t1 t2 t3 t4 t5;have hfin:BI P w0 (w5.setCell ⟨bS,6,none⟩ (.bool true)) bS (.slice lU rows.length cr) (.slice oi ints.length ci) {s1 with much:=true}:=⟨_,_,_,_,_,OY.out.set 6 _ (by simp) rfl rfl OY.out.p⟩
   have hkt:=T5.out.trans (KT.set OY.out.b (.inr (.inr rfl)) (fun hp=>(OY.out.av bS hp).2.1 rfl) (.bool true) (i:=6))
   have vP:=zh hfin;have Gd:=zh hkt;clear hfin hkt OY;generalize s1.much=mu at*
   rcases mu with _ | _
   case false=>
    go_simp
    repeat go_step
    refine bodyPost_ret (by simp [results,Tryz.results33,go_sem];rfl) rfl ?_
    rw [O9.out];exact⟨_,rfl,bD.nil _ _,vP.out,Gd.out⟩
   case true=>
    go_simp
    repeat go_step
    refine bodyPost_ret (by simp [results,Tryz.results33,go_sem];rfl) rfl ?_
    rw [O9.out];exact⟨_,rfl,bD.nil _ _,vP.out,Gd.out⟩
  case true=>
   obtain⟨u5,rfl,ho5,hs5⟩:=hyes hfit;have O9:=zh (gT.out.trans (Rp.out.1 hfit));clear hyes hno Rp gT;obtain⟨ou5,cu5,hv5⟩:=ho5.len;rw [List.length_map]at hv5;subst hv5;obtain⟨va5,vt5,vp5,xs5,ys5,hc5⟩:=hs5;obtain⟨t0,t1,t2,t3,t4,t5,t6,lS5⟩:=lM hc5.blk;have t6f:=hc5.blk.free 6;have kts:KT P w5 (w5.setCell ⟨bS,6,none⟩ (.bool s1.much)):=KT.set hc5.b (.inr (.inr rfl)) (fun hp=>(hc5.av bS hp).2.1 rfl) _
   have vP:=zh (show BI P w0 (w5.setCell ⟨bS,6,none⟩ (.bool s1.much)) bS (.slice lU rows.length cr) (.slice oi ints.length ci) _ from⟨_,_,_,_,_,hc5.set 6 (.bool s1.much) (by simp) rfl rfl hc5.p⟩)
   have Gd:=zh (T5.out.trans kts);have HOF:=zh (kts.ints ho5);clear hc5 t0 t1 t2 t3 t4 t5 kts ho5 T5;generalize s1.much=mu at*
   rcases mu with _ | _
   case false=>
    go_simp
    repeat go_step
    refine bodyPost_ret (by simp [results,Tryz.results33,go_sem];rfl) rfl ?_
    rw [O9.out];exact⟨_,rfl,HOF.out,vP.out,Gd.out⟩
   case true=>
    go_simp
    repeat go_step
    refine bodyPost_ret (by simp [results,Tryz.results33,go_sem];rfl) rfl ?_
    rw [O9.out];exact⟨_,rfl,HOF.out,vP.out,Gd.out⟩
 case inl=>
  have hl:uy ints.length R= .yes (T.ptK T.n):=by unfold uy Xk;rw [hfe]
  rw [← HR.out]at hl;have Rp:=zh (Ve (rc:=uw (uy ints.length) rows ints d) (s:=s1) hl);have Yx:=LPO.out.yes _ _ (by rw [HR.out];exact h64) (by rw [HR.out];exact Ro.out) hl
  obtain⟨hIT,_⟩:=zn 1048576 _ T Vg.out hfe;have XM:=zh (zaA hIT);have CP:=zh (fun w' (k:Keep au w4 w')=>Rs _ w' bT nm' T (hT4.keep k) hIT.wf hIT.nb)
  have K4:Hid (Keep au wr w4):=zh (by obtain⟨L,hL⟩:=hT4;exact hL.k)
  clear hfe HT hT4 hIT hl;obtain⟨pt,hpt⟩:∃pt,T.ptK T.n=pt:=⟨_,rfl⟩;rw [hpt]at Rp Yx XM CP;have DL:=zh Yx;have hnil:∀w,Sem.run Tryz.prog (binOp BinOp.neq 64 (Value.slice none 0 0) (Value.slice none 0 0)) w= .ok (.bool false) w:=fun w=>by kernel_rfl
  go_wp2_with fail;refine(CP.out _ kp).mono ?_;rintro e w5 ⟨u,rfl,hu5,hk5⟩;have k5:Keep au w4 w5:=Keep.trans kp hk5 fun _ _ _ h=>h
  have HU5:=zh hu5;obtain⟨ou,cu',hvu,_,_⟩:=hu5.len;have hpl:pt.length=ints.length:=Yx.1;rw [hpl]at hvu;subst hvu;have OY:=zh ((WC.out.keep K4.out).keep k5);have T5:=zh (T2.out.trans (.of (K4.out.both k5)));have zbS:=zh (zbR.out.kt (.of (K4.out.both k5):KT P wr w5));have CO:=zh (fun w' (k:Keep au w5 w')=>Vh w' bS _ _ _ _ _ _ _ ints _ pt (OY.out.keep k).blk (HX.out.hi.keep (OY.out.keep k).k) (HU5.out.keep k) XM.out hpl)
  clear CP hu5 hk5 k5 Yx hnil K4 WC T2 zbR hpt Vg Ro HRW HIW;go_wp2_with fail;refine(CO.out _ kp).mono ?_;rintro e w6 ⟨rfl,hk6⟩;have k6:Keep au w5 w6:=Keep.trans kp hk6 fun _ _ _ h=>h
  have HU6:=zh (HU5.out.keep k6);have Wv:=zh (OY.out.keep k6);have T6:=zh (T5.out.trans (.of k6));have zaB:=zh (zbS.out.kt (.of k6:KT P w5 w6));clear CO hk6 k6 HU5 OY T5 zbS
  rcases hok:nO ints pt with _ | kk
  case none=>
   have O9:=zh (gT.out.trans (Rp.out.1 hok));have e1:zI ints pt= -1:=by unfold zI;rw [hok]
   rw [e1];clear Rp gT hok e1;have CT:=zh (fun w' (k:Keep au w6 w')=>Ji w' _ _ (HU6.out.keep k) XM.out (by omega))
   go_wp2_with fail;refine(CT.out _ kp).mono ?_;rintro e w7 ⟨u7,rfl,hu7,hk7⟩;have k7:Keep au w6 w7:=Keep.trans kp hk7 fun _ _ _ h=>h
   obtain⟨ou7,cu7,hv7⟩:=dx hu7;rw [List.length_map,hpl]at hv7;subst hv7;have hc7:=Wv.out.keep k7;have zbT:jl w7 w0.heap.size (.slice ou7 ints.length cu7) (pt.map dQ):=World.ownsRow_mono hu7 Wv.out.k.size;obtain⟨t0,t1,t2,t3,t4,t5,t6,lS7⟩:=lM hc7.blk;have t5f:=hc7.blk.free 5;have t6f:=hc7.blk.free 6;have hcA:ug P w0 (w7.setCell ⟨bS,5,none⟩ (.slice ou7 ints.length cu7)) bS (.slice lU rows.length cr) (.slice oi ints.length ci) {s1 with point:=pt.map dQ} _ _ (.slice ou7 ints.length cu7) _ _:=hc7.set 5 _ (by simp) rfl rfl zbT
   have ktA:KT P w7 (w7.setCell ⟨bS,5,none⟩ (.slice ou7 ints.length cu7)):=KT.set hc7.b (.inr (.inr rfl)) (fun hp=>(hc7.av bS hp).2.1 rfl) _
   have hcB:=fun(b:Bool)=>show BI P w0 ((w7.setCell ⟨bS,5,none⟩ (.slice ou7 ints.length cu7)).setCell ⟨bS,6,none⟩ (.bool b)) bS (.slice lU rows.length cr) (.slice oi ints.length ci) {s1 with point:=pt.map dQ,much:=b}from⟨_,_,_,_,_,hcA.set 6 (.bool b) (by simp) rfl rfl hcA.p⟩
   have ktB:=fun(b:Bool)=>(T6.out.trans (.of k7)).trans (ktA.trans (KT.set (P:=P) hcA.b (.inr (.inr rfl)) (fun hp=>(hcA.av bS hp).2.1 rfl) (.bool b) (i:=6)))
   have HFB:=zh hcB;have FJ:=zh ktB;clear hcA ktA hcB ktB hc7 hu7 zbT hk7 k7 t0 t1 t2 t3 t4 CT Wv T6 HU6 zaB;generalize s1.much=mu at *;generalize allFit pt pt.length=af at*
   rcases mu with _ | _<;>rcases af with _ | _
   ·have vP:=zh (HFB.out true)
    have Gd:=zh (FJ.out true);go_simp
    repeat go_step
    refine bodyPost_ret (by simp [results,Tryz.results33,go_sem];rfl) rfl ?_
    rw [O9.out];exact⟨_,rfl,bD.nil _ _,vP.out,Gd.out⟩
   ·have vP:=zh (HFB.out false)
    have Gd:=zh (FJ.out false);go_simp
    repeat go_step
    refine bodyPost_ret (by simp [results,Tryz.results33,go_sem];rfl) rfl ?_
    rw [O9.out];exact⟨_,rfl,bD.nil _ _,vP.out,Gd.out⟩
   ·have vP:=zh (HFB.out true)
    have Gd:=zh (FJ.out true);go_simp
    repeat go_step
    refine bodyPost_ret (by simp [results,Tryz.results33,go_sem];rfl) rfl ?_
    rw [O9.out];exact⟨_,rfl,bD.nil _ _,vP.out,Gd.out⟩
   ·have vP:=zh (HFB.out true)
    have Gd:=zh (FJ.out true);go_simp
    repeat go_step
    refine bodyPost_ret (by simp [results,Tryz.results33,go_sem];rfl) rfl ?_
    rw [O9.out];exact⟨_,rfl,bD.nil _ _,vP.out,Gd.out⟩
  case some=>
   have O9:=zh (gT.out.trans (Rp.out.2 kk hok));obtain⟨hk1,hk2,hk3⟩:=sN hok;have e1:zI ints pt=(kk:Int):=by unfold zI;rw [hok]
   rw [e1];have hlk:¬(kk:Int)<0:=by omega
   have hkI:(kk:Int)<(ints.length:Int):=by omega
   have Xc:=zh (EG IZ.out J2.out hk1 hk2 hk3 (fun r hr=>DL.out.2 r hr) (fun s B h1 h2=>vE LPO.out hn12 hm40 HX.out.ok d s B h1 h2))
   have hkp:kk<pt.length:=by omega
   obtain⟨bp,opp,rfl,hbp,pb,pS,pc,pU,p0,p1,p2,p3,hxp⟩:=HU6.out.at hkp;have eg:pt.getD kk 0=pt[kk]:=by rw [eG,iw hkp];rfl
   rw [eg]at O9 Xc;have hnp:=XM.out _ (List.getElem_mem hkp);clear Rp gT hok e1 hk2 hk3 DL HU6 XM eg;generalize pt[kk]=q at *;clear hkp;have CFL:=zh (fun w'=>La w' _ _ hxp (hnp.mono (by omega)))
   have Ib:=zh ((Vf hnp (by omega)).mono (k:=4000) (by omega))
   obtain⟨z,hz⟩:∃z,jP q=z:=⟨_,rfl⟩;have hz':q.num/(q.den:Int)=z:=hz;rw [hz]at O9 Xc Ib;rw [hz']at CFL;obtain⟨⟨zb,zS,zc,zU⟩,hzv,hzn⟩:=qL z;rw [hzv]at CFL;unfold NV.v at CFL hzn;simp only at CFL hzn;have HZN:=zh hzn;clear hz hz' hzv hzn hxp hnp;go_wp2_with fail;refine(CFL.out _).mono ?_;rintro e w7 ⟨rfl,hk7⟩;have k7:Keep au w6 w7:=Keep.trans kp hk7 fun _ _ _ h=>h
   have CBR:=zh (NK w0 w7 bS lU cr oi ci rows ints HX.out d HAC.out s1 B g kk z zb zS zc zU ⟨_,_,_,_,_,Wv.out.keep k7⟩ (zaB.out.kt (.of k7:KT P w6 w7)) IZ.out J2.out hk1 HZN.out Ib.out HFD.out Xp.out hsl Xc.out);have T7:=zh (T6.out.trans (.of k7));clear k7 hk7 CFL Wv T6 zaB p0 p1 p2 p3;go_wp2_with fail;refine CBR.out.mono ?_;rintro e w8 ⟨c8,rfl,ho8,hs8,kt8⟩;have HO8:=zh ho8;have HS8:=zh hs8;have T8:=zh (T7.out.trans kt8);obtain⟨oc8,cc8,hv8⟩:=ho8.len;subst hv8;clear CBR ho8 hs8 kt8 T7;go_simp
   repeat go_step
   refine bodyPost_ret (by simp [results,Tryz.results33,go_sem];rfl) rfl ?_
   rw [O9.out];exact⟨_,rfl,HO8.out,HS8.out,T8.out⟩
theorem Vi (w0:World)(bS:Nat)(lU:Option Addr)(cr:Nat)(oi:Option Addr)(ci:Nat)(rows:List Rw)(ints:List Bool)(hx:Q5 w0 (.slice lU rows.length cr) (.slice oi ints.length ci) rows ints):∀d,AtC w0 bS (.slice lU rows.length cr) (.slice oi ints.length ci) rows ints d
 | 0=>fun P w s B g _ _ _ _ h _=>absurd h (by omega)
 | d+1=>XJ w0 bS lU cr oi ci rows ints hx d (Vi w0 bS lU cr oi ci rows ints hx d)
end Go.Proofs.YtaiffmebphhdaaaGreat
