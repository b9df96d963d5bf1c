/- Package cut: branch, both ways. -/
import Derived.Test.YtaiffmebphhdaaaGreatCuWW
namespace Go.Proofs.YtaiffmebphhdaaaGreat
set_option maxRecDepth 100000
set_option maxHeartbeats 32000000
set_option linter.unusedSimpArgs false
set_option linter.unusedVariables false
open Go.ChangeShapes Go.WideShapes Go.RowKit
variable {P:Nat→Prop}
theorem Xo {base:Nat}(w:World)(x y:Int)(hb:base≤w.heap.size):bD (w.alloc (.cells #[.int .i64 x,.int .i64 y] TI)) base (.slice (some ⟨w.heap.size,0,none⟩) 2 2) [x,y]:=
 ⟨by simp [iv],.inr ⟨w.heap.size,2,_,rfl,hb,aZ _ _ _ rfl,Nat.le_refl _,by unfold maxLen;omega,by simp,by simp [iv]⟩⟩
theorem Q0 (w0 w:World)(bS:Nat)(lU:Option Addr)(cr:Nat)(oi:Option Addr)(ci:Nat)(rows:List Rw)(ints:List Bool)(hx:Q5 w0 (.slice lU rows.length cr) (.slice oi ints.length ci) rows ints)(d:Nat)(hA:AtC w0 bS (.slice lU rows.length cr) (.slice oi ints.length ci) rows ints d)
  (s:jm) (B:jo) (g k:Nat) (z:Int) (xb:Bool) (xS:ByteArray) (xc:Bool) (xU:ByteArray) (h:BI P w0 w bS (.slice lU rows.length cr) (.slice oi ints.length ci) s) (hB:UH w w0.heap.size g B) (ha:jV rows.length ints.length s.atoms) (hb:iA rows.length ints.length s.atoms B) (hk:k<ints.length)
  (hz:bM (.agg #[.bool xb,.string xS,.bool xc,.string xU]) (z:Rat)) (hzn:NB 4000 (z:Rat)) (hf:s.fuel<d) (Q6:qE s) (hsl:s.steps.length≤7001) (hbad:¬(z< -1000000∨1000000≤z∨3000<s.steps.length+8∨120<rows.length+s.atoms.length+2)) (hS:MG rows ints s B (gH rows.length (uw (uy ints.length) rows ints d) s B k z)):
  Calls Tryz.prog 62 #[.pointer (some ⟨bS,0,none⟩),.map (some g),.int .i64 (k:Int),.agg #[.bool xb,.string xS,.bool xc,.string xU]] w (xV P w0 bS (.slice lU rows.length cr) (.slice oi ints.length ci) w (gH rows.length (uw (uy ints.length) rows ints d) s B k z)):=by
 obtain⟨sA,sB,a,b,hp⟩:=Lb ha hb hk hbad;have BR:=zh (fun r hr=>UJ hp hbad (r:=r) (rc:=uw (uy ints.length) rows ints d) hr)
 have HP:=zh hp;have HS:=zh hS;have h64:is64 z:=by unfold is64;omega
 have d1:decide (z< -1000000)=false:=aW (by omega)
 have d2:decide (1000000≤z)=false:=aW (by omega)
 have d3:decide ((3000:Int)<(s.steps.length:Int)+8)=false:=aW (by omega)
 have d4:decide ((120:Int)<(rows.length:Int)+(s.atoms.length:Int)+2)=false:=aW (by omega)
 have hz1: -1000000≤z:=by omega
 have hz2:z<1000000:=by omega
 clear hp hS hbad;obtain⟨va,vt,vp,xs,ys,hc⟩:=h;obtain⟨⟨oa,ca,rfl⟩,⟨ot,ct,rfl⟩,op,cp,rfl⟩:=hc.forms;have HC:=zh hc;have HX:=zh hx;have HAC:=zh hA;have HB:=zh hB;have IZ:=zh ha;have J2:=zh hb;have HF:=zh hf;have Xp:=zh Q6;have hal:rows.length+s.atoms.length≤120:=ha.cap;have hm40:rows.length≤40:=hx.m40;have hk12:k<12:=by have:=hx.n12;omega
 have CL:=fun w=>zh (BU w _ _ hz hzn)
 have e0:vH ((z:Int):Rat)= .tuple #[.int .i64 (if is64 z then z else 0),.bool (decide (is64 z))]:=by
  unfold vH;simp [Rat.num_intCast,Rat.den_intCast];exact⟨rfl,rfl⟩
 rw [e0]at CL;rw [if_pos h64,decide_eq_true h64]at CL;clear hc hx hA hB ha hb hf Q6 e0 hz h64;unfold xV;go_enter Tryz.func62,Tryz.ntmps62;go_upto_region 1 with fail
 have k1:Keep au w (w.alloc (.cells #[.bool xb,.string xS,.bool xc,.string xU] 93)):=(Keep.refl _ _).alloc _;have nE:Hid (aL (w.alloc (.cells #[.bool xb,.string xS,.bool xc,.string xU] 93)) w.heap.size #[.bool xb,.string xS,.bool xc,.string xU]):=zh (aR _ _ rfl);have K1:=zh k1;clear k1;generalize w.alloc (.cells #[.bool xb,.string xS,.bool xc,.string xU] 93)=w1 at *;obtain⟨b7,hb7⟩:∃b7,w.heap.size=b7:=⟨_,rfl⟩;rw [hb7]at nE ⊢;clear hb7;obtain⟨y0,y1,y2,y3,_,_,_,_,yl⟩:=nE.out.four;go_wp2_with fail;refine(CL _).out.mono ?_;rintro e w2 ⟨rfl,hk2⟩;have K2:=zh (K1.out.both hk2);clear hk2 y0 y1 y2 y3 yl nE K1 CL;have Gm:=zh (HC.out.keep K2.out);obtain⟨t0,t1,t2,t3,t4,t5,t6,lS⟩:=lM Gm.out.blk;have t6f:=Gm.out.blk.free 6;have CL:=();have sz2:w0.heap.size≤w2.heap.size:=Gm.out.k.size;go_upto_region 2 with fail
 refine aD (fun w'=>Keep au w2 w') [] [] [0,1,2,3,4,5,6,7,8,9,10,11,12,13,14,15,16,17,18,19,20,21,22,23,24,25,26,27,28,29,30,31,32,33] (by kernel_rfl) (by kernel_rfl) kp ?_
 intro X W hne hF hcl;have z0:=fun x=>((hF x).cell lS).trans t0
 have z3:=fun x=>((hF x).cell lS).trans t3
 have z4:=fun x=>((hF x).cell lS).trans t4
 clear hF hcl;simp only [aO,aJ,zl0,zl1,zl2,aV,Bool.false_eq_true,if_false]
 (repeat(go_big_quiet_step (fail)));refine wpQuiet_nil ?_
 refine NoPanic.normal ?_;clear z0 z3 z4;clear d1 d2 d3 d4 t0 t1 t2 t3 t4 t5 t6 t6f CL;go_wp2_with fail;refine(GR _ k 1 z (by omega)).mono ?_
 rintro e w3 ⟨b3,rfl,ho3,hk3⟩;have k3:Keep au w2 w3:=Keep.trans kp hk3 fun _ _ _ h=>h
 have OX:Hid (bD w3 w0.heap.size (.slice (some ⟨b3,0,none⟩) (k+1) (k+1)) (aK k 1 z).of):=zh (World.ownsRow_mono ho3 sz2);have K3:=zh k3;clear hk3 k3 ho3;go_wp2_with fail;refine(GR _ k (-1) (-z-1) (by omega)).mono ?_
 rintro e w4 ⟨b4,rfl,ho4,hk4⟩;have k4:Keep au w3 w4:=Keep.trans kp hk4 fun _ _ _ h=>h
 have MF:Hid (bD w4 w0.heap.size (.slice (some ⟨b4,0,none⟩) (k+1) (k+1)) (aK k (-1) (-z-1)).of):=zh (World.ownsRow_mono ho4 (Nat.le_trans sz2 K3.out.size));have OX:=zh (OX.out.keep k4);have K4:=zh (K3.out.both k4);clear hk4 k4 ho4 K3;go_upto_region 6 with fail
 have k12:Keep au w4 (w4.alloc (Obj.cells #[.slice (some ⟨b3,0,none⟩) (k+1) (k+1),.int .i64 1,.int .i64 z] tZ)):=(Keep.refl _ _).alloc _;have k13:Keep au (w4.alloc (Obj.cells #[.slice (some ⟨b3,0,none⟩) (k+1) (k+1),.int .i64 1,.int .i64 z] tZ)) ((w4.alloc (Obj.cells #[.slice (some ⟨b3,0,none⟩) (k+1) (k+1),.int .i64 1,.int .i64 z] tZ)).alloc (Obj.cells #[.slice (some ⟨b4,0,none⟩) (k+1) (k+1),.int .i64 1,.int .i64 (-z-1)] tZ)):=(Keep.refl _ _).alloc _;have OY:=zh ((Gm.out.guard (K4.out.both k12) (b:=w4.heap.size) K4.out.size (by simp)).guard k13 (b:=w4.heap.size+1) (by simp) (by simp))
 have yj:Hid (((w4.alloc (Obj.cells #[.slice (some ⟨b3,0,none⟩) (k+1) (k+1),.int .i64 1,.int .i64 z] tZ)).alloc (Obj.cells #[.slice (some ⟨b4,0,none⟩) (k+1) (k+1),.int .i64 1,.int .i64 (-z-1)] tZ)).heap[w4.heap.size]? =some (.cells #[.slice (some ⟨b3,0,none⟩) (k+1) (k+1),.int .i64 1,.int .i64 z] tZ (0,0))):=zh ((k13.block _ (by simp) fun _ h=>h).trans (aZ _ _ _ rfl))
 have Xq:Hid (((w4.alloc (Obj.cells #[.slice (some ⟨b3,0,none⟩) (k+1) (k+1),.int .i64 1,.int .i64 z] tZ)).alloc (Obj.cells #[.slice (some ⟨b4,0,none⟩) (k+1) (k+1),.int .i64 1,.int .i64 (-z-1)] tZ)).heap[w4.heap.size+1]? =some (.cells #[.slice (some ⟨b4,0,none⟩) (k+1) (k+1),.int .i64 1,.int .i64 (-z-1)] tZ (0,0))):=zh (aZ _ _ _ (by simp))
 have K5:Hid (Keep au w ((w4.alloc (Obj.cells #[.slice (some ⟨b3,0,none⟩) (k+1) (k+1),.int .i64 1,.int .i64 z] tZ)).alloc (Obj.cells #[.slice (some ⟨b4,0,none⟩) (k+1) (k+1),.int .i64 1,.int .i64 (-z-1)] tZ))):=zh (((K2.out.both K4.out).both k12).both k13);have OX:=zh ((OX.out.keep k12).keep k13);have MF:=zh ((MF.out.keep k12).keep k13);clear k12 k13 K4 Gm K2;generalize (w4.alloc (Obj.cells #[.slice (some ⟨b3,0,none⟩) (k+1) (k+1),.int .i64 1,.int .i64 z] tZ)).alloc (Obj.cells #[.slice (some ⟨b4,0,none⟩) (k+1) (k+1),.int .i64 1,.int .i64 (-z-1)] tZ)=w5 at *;obtain⟨b12,hb12⟩:∃b12,w4.heap.size=b12:=⟨_,rfl⟩;rw [hb12]at OY yj Xq ⊢;clear hb12;obtain⟨b13,hb13⟩:∃b13,b12+1=b13:=⟨_,rfl⟩;rw [hb13]at OY Xq ⊢;clear hb13;have hll:(aK k 1 z).of.length=k+1:=by simp [aK]
 have hlh:(aK k (-1) (-z-1)).of.length=k+1:=by simp [aK]
 have CA:=fun w' (kt:KT (fun c=>(P c∨c=b12)∨c=b13) w5 w') (h:BI (fun c=>(P c∨c=b12)∨c=b13) w0 w' bS (.slice lU rows.length cr) (.slice oi ints.length ci) s)=>Lc w0 w' bS rows.length lU cr (.slice oi ints.length ci) s (some ⟨b3,0,none⟩) (k+1) (aK k 1 z) h (by rw [hll];exact kt.ints OX.out) (Dj HP.out.limA) IZ.out.fit (by omega) (by omega) (by omega)
 have CB:=fun w' (kt:KT (fun c=>(P c∨c=b12)∨c=b13) w5 w') (h:BI (fun c=>(P c∨c=b12)∨c=b13) w0 w' bS (.slice lU rows.length cr) (.slice oi ints.length ci) sA)=>Lc w0 w' bS rows.length lU cr (.slice oi ints.length ci) sA (some ⟨b4,0,none⟩) (k+1) (aK k (-1) (-z-1)) h (by rw [hlh];exact kt.ints MF.out) (Dj HP.out.limB) HP.out.okA.fit (by have:=HP.out.okA.cap;omega) (by have:=HP.out.lA;omega) (by omega)
 rw [hll,HP.out.hA]at CA;rw [hlh,HP.out.hB]at CB;have CA:=zh CA;have CB:=zh CB;refine aD (fun w'=>KT (fun c=>(P c∨c=b12)∨c=b13) w5 w') [] [([0,1,3,4],2),([],5)] [6,7] (by kernel_rfl) (by kernel_rfl) (.of (Keep.refl au w5).drew) ?_
 intro X W hne hF hcl;have aQ:=zh hcl;have h12:=fun x=>(hF x).same _ _ yj.out (.inr (.inl (.inr rfl)))
 have h13:=fun x=>(hF x).same _ _ Xq.out (.inr (.inr rfl))
 have l0:=fun x=>cell_of_heap (o:=0) (h12 x) rfl
 have l1:=fun x=>cell_of_heap (o:=1) (h12 x) rfl
 have l2:=fun x=>cell_of_heap (o:=2) (h12 x) rfl
 have lz:=fun x=>lt_of_heap (h12 x)
 have m0:=fun x=>cell_of_heap (o:=0) (h13 x) rfl
 have m1:=fun x=>cell_of_heap (o:=1) (h13 x) rfl
 have m2:=fun x=>cell_of_heap (o:=2) (h13 x) rfl
 have mz:=fun x=>lt_of_heap (h13 x)
 clear hF hcl h12 h13;simp only [aO,aJ,zl0,zl1,zl2,aV,Bool.false_eq_true,if_false]
 (repeat(quiet_step (fail)));refine wpQuiet_nil ?_
 refine ay rfl rfl fun K hK=> ?_
 go_simp;refine(CA.out _ (.of (Keep.refl au w5).drew) ⟨_,_,_,_,_,OY.out.keep (Keep.refl au w5).drew⟩).mono ?_;rintro e w6 ⟨rfl,hs6,kt6⟩;have T6:=zh ((KT.of (P:=fun c=>(P c∨c=b12)∨c=b13) (Keep.refl au w5).drew).trans kt6)
 have HS6:Hid (BI (fun c=>(P c∨c=b12)∨c=b13) w0 w6 bS (.slice lU rows.length cr) (.slice oi ints.length ci) sA):=zh hs6
 refine hK _ _ ⟨fun _=>aQ.out _ T6.out,?_⟩
 clear hK kt6 hs6 CA
 (repeat(quiet_step (fail)));refine wpQuiet_nil ?_
 refine ay rfl rfl fun K hK=> ?_
 go_simp;refine(CB.out _ T6.out HS6.out).mono ?_;rintro e w7 ⟨rfl,hs7,kt7⟩;have T7:=zh (T6.out.trans kt7);have MJ:Hid (BI (fun c=>(P c∨c=b12)∨c=b13) w0 w7 bS (.slice lU rows.length cr) (.slice oi ints.length ci) sB):=zh hs7
 refine hK _ _ ⟨fun _=>aQ.out _ T7.out,?_⟩
 clear hK kt7 hs7 CB T6 HS6
 (repeat(quiet_step (fail)));refine wpQuiet_nil ?_
 refine NoPanic.normal ?_;clear hne l0 l1 l2 lz m0 m1 m2 mz aQ X W;go_upto_region 8 with fail
 obtain⟨va7,vt7,vp7,xs7,ys7,hc7⟩:=MJ.out;obtain⟨⟨oa7,ca7,rfl⟩,⟨ot7,ct7,rfl⟩,op7,cp7,rfl⟩:=hc7.forms;have k8:Keep au w7 (w7.alloc (Obj.cells #[.int .i64 (min a b),.int .i64 (max a b)] 3)):=(Keep.refl _ _).alloc _;have MC:Hid (bD (w7.alloc (Obj.cells #[.int .i64 (min a b),.int .i64 (max a b)] 3)) w0.heap.size (.slice (some ⟨w7.heap.size,0,none⟩) 2 2) [min a b,max a b]):=zh (Xo _ _ _ hc7.k.size);have HC8:=zh (hc7.keep k8);have T8:=zh (T7.out.trans (.of k8));clear k8 hc7 MJ T7;generalize w7.alloc (Obj.cells #[.int .i64 (min a b),.int .i64 (max a b)] 3)=w8 at *;obtain⟨bg,hbg⟩:∃bg,w7.heap.size=bg:=⟨_,rfl⟩;rw [hbg]at MC ⊢;clear hbg;have k9:Keep au w8 (w8.alloc (Obj.cells #[.int .i64 6,.slice (some ⟨bg,0,none⟩) 2 2,.slice none 0 0,.int .i64 0,.int .i64 0,.int .i64 0,.slice none 0 0,.int .i64 0,.int .i64 0] Da)):=(Keep.refl _ _).alloc _;obtain⟨v9,w9,hr9,hv9,hc9,kt9,hb9,hg9⟩:=(HC8.out.keep k9).pushT (y:=⟨.slice (some ⟨bg,0,none⟩) 2 2,.slice none 0 0,.slice none 0 0,⟨6,[min a b,max a b],[],xK⟩⟩) ⟨MC.out.keep k9,dO.nil _ _,bD.nil _ _⟩ (b:=w8.heap.size) (aR _ _ rfl) (by have:=HP.out.lB;omega)
 obtain⟨o9,c9,rfl⟩:=hv9;have Ay:aL w9 bS #[.slice lU rows.length cr,.slice oi ints.length ci,.int .i64 (sB.fuel:Int),.slice oa7 sB.atoms.length ca7,.slice ot7 sB.steps.length ct7,.slice op7 sB.point.length cp7,.bool sB.much]:=⟨_,hb9.trans (HC8.out.keep k9).b⟩;have g4:=Ay.cell 4;have ZY:=Ay.free 4;have gl:=Ay.lt;obtain⟨t0,t1,t2,t3,t4,t5,t6,lS8⟩:=lM HC8.out.blk;have Z0:=zh hc9;have T9:=zh ((T8.out.trans (.of k9)).trans kt9);clear k9 hc9 kt9 hb9 hg9 Ay HC8 T8 MC;go_upto_region 9 with(at_builtin;refine bG _ _ 26 _ _ rfl rfl rfl rfl hr9 ?_)
 clear hr9 g4 ZY gl t0 t1 t2 t3 t4 t5 t6 lS8;generalize w9.setCell ⟨bS,4,none⟩ (.slice o9 (sB.steps.length+1) c9)=wz at *;have LPO:Hid (EC ints.length (uy ints.length)):=zh (KM HX.out.n12 _);obtain⟨ha1,ha2⟩:=HP.out.ar;obtain⟨hb1,hb2⟩:=HP.out.br;have UL:=zh (T9.out.same _ _ yj.out (.inr (.inl (.inr rfl))));have l0:=cell_of_heap (o:=0) UL.out rfl;have l1:=cell_of_heap (o:=1) UL.out rfl;have l2:=cell_of_heap (o:=2) UL.out rfl;have lz:=lt_of_heap UL.out;have CW:=zh (Ld wz w0.heap.size g (k:Int) 1 (.slice (some ⟨b3,0,none⟩) (k+1) (k+1)) ⟨aK k 1 z,a⟩ B ((HB.out.kt (.of K5.out:KT P w w5)).kt T9.out) (T9.out.ints OX.out));go_wp2_with fail;refine CW.out.mono ?_;rintro e w10 ⟨g10,rfl,hb10,hk10⟩;have k10:Keep au wz w10:=Keep.trans kp hk10 fun _ _ _ h=>h
 have T10:=zh (T9.out.trans (.of k10));have HSN:=HAC.out (fun c=>(P c∨c=b12)∨c=b13) w10 (OZ sB a b) (dn B (k:Int) 1 ⟨aK k 1 z,a⟩) g10 ((show BI (fun c=>(P c∨c=b12)∨c=b13) w0 wz bS (.slice lU rows.length cr) (.slice oi ints.length ci) (OZ sB a b)from⟨_,_,_,_,_,Z0.out⟩).keep k10) hb10 HP.out.okB HP.out.b1 (by show sB.fuel<d;rw [HP.out.fB];exact HF.out) (by unfold qE;have h1:=Xp.out;unfold qE at h1;have h2:=HP.out.lB;have h3:=HP.out.fB;show max (sB.steps++ [_]).length 3000+2*sB.fuel≤7001;rw [List.length_append];simp only [List.length_singleton];omega)
 have hsr:=vE LPO.out HX.out.n12 hm40 HX.out.ok d (OZ sB a b) (dn B (k:Int) 1 ⟨aK k 1 z,a⟩) HP.out.okB HP.out.b1;have hwr:=UD LPO.out HX.out.n12 hm40 HX.out.ok d (OZ sB a b) (dn B (k:Int) 1 ⟨aK k 1 z,a⟩) HP.out.okB HP.out.b1;obtain⟨r,hrr⟩:∃r,uw (uy ints.length) rows ints d (OZ sB a b) (dn B (k:Int) 1 ⟨aK k 1 z,a⟩)=r:=⟨_,rfl⟩;rw [hrr]at HSN hsr hwr;have BEr:=zh (BR.out r hrr);have CR:=zh HSN;have Xr:=zh hsr;have HWr:=zh hwr;have Xt:=zh (fun h2 hm=>Xr.out.idb hm40 (by obtain⟨q,hq⟩:=Xr.out.more;rw [hq];exact iA.more HP.out.b1) h2 hm)
 clear hb10 hk10 k10 l0 l1 l2 lz CW HSN hsr hwr hrr UL;go_wp2_with fail;refine CR.out.mono ?_;rintro e w11 ⟨c10,rfl,ho10,hs10,kt10⟩;have T11:=zh (T10.out.trans ((KT.of (P:=(fun c=>(P c∨c=b12)∨c=b13)) (show Keep au w10 w10 from Keep.refl _ _)).trans kt10))
 have UM:=zh ho10;have Xu:=zh hs10;obtain⟨va10,vt10,vp10,xs10,ys10,hc10⟩:=hs10;obtain⟨t0,t1,t2,t3,t4,t5,t6,zcI⟩:=lM hc10.blk;obtain⟨oc10,cc10,hv10⟩:=ho10.len;subst hv10;clear hc10 ho10 kt10 CR T10 t0 t1 t2 t3 t4 t5
 by_cases h2:r.st=2
 case neg=>
  have lF:=BEr.out.1 (.inl h2);have e2:(r.st != 2)=true:=by rw [bne_iff_ne];exact h2
  go_wp2;refine bodyPost_ret (by simp [results,Tryz.results62,go_sem];rfl) rfl ?_
  rw [lF];exact⟨_,rfl,UM.out,(Xu.out).weak fun c hc=> .inl (.inl hc),(KT.of K5.out).trans ((T11.out).weak fun c hc=> .inl (.inl hc))⟩
 case pos=>
 have Le:=zh h2;rw [h2]
 rcases hmu:r.s.much with _ | _
 case true=>
  have lF:=BEr.out.1 (.inr (.inl hmu));rw [hmu]at t6;clear hmu;go_wp2;refine bodyPost_ret (by simp [results,Tryz.results62,go_sem];rfl) rfl ?_
  rw [lF,Le.out];exact⟨_,rfl,UM.out,(Xu.out).weak fun c hc=> .inl (.inl hc),(KT.of K5.out).trans ((T11.out).weak fun c hc=> .inl (.inl hc))⟩
 case false=>
 rw [hmu]at t6;have Q7:=zh hmu;have zbw:=zh (UM.out.ints (fun x hx=>by obtain⟨id,e,h⟩:=Xt.out Le.out Q7.out x hx;unfold fK;omega))
 have CC:=zh (fun w' (k':Keep au w11 w')=>pX w' _ _ (-a) (zbw.out.keep k'))
 clear hmu h2;go_wp2_with fail;refine(CC.out _ kp).mono ?_;rintro e w12 ⟨rfl,hk12⟩;have k12:Keep au w11 w12:=Keep.trans kp hk12 fun _ _ _ h=>h
 have T12:=zh (T11.out.trans (.of k12));have zbx:=zh (Xu.out.keep k12);have zai:=zh (UM.out.keep k12);clear hk12 k12 t6 zcI Xu UM T11 zbw CC
 by_cases hin: -a∈r.c
 case neg=>
  have lF:=BEr.out.1 (.inr (.inr hin));rw [decide_eq_false hin];clear hin;go_wp2;refine bodyPost_ret (by simp [results,Tryz.results62,go_sem];rfl) rfl ?_
  rw [lF,Le.out];exact⟨_,rfl,zai.out,(zbx.out).weak fun c hc=> .inl (.inl hc),(KT.of K5.out).trans ((T12.out).weak fun c hc=> .inl (.inl hc))⟩
 case pos=>
 rw [decide_eq_true hin];have zby:Hid (¬Xv r a):=zh (by
  unfold Xv;rw [Le.out,Q7.out];rintro(h | h | h)
  ·exact h rfl
  ·cases h
  ·exact h hin)
 clear hin;have UN:=zh (T12.out.same _ _ Xq.out (.inr (.inr rfl)));have l0:=cell_of_heap (o:=0) UN.out rfl;have l1:=cell_of_heap (o:=1) UN.out rfl;have l2:=cell_of_heap (o:=2) UN.out rfl;have lz:=lt_of_heap UN.out;have CW:=zh (Ld w12 w0.heap.size g (k:Int) (-1) (.slice (some ⟨b4,0,none⟩) (k+1) (k+1)) ⟨aK k (-1) (-z-1),b⟩ B ((HB.out.kt (.of K5.out:KT P w w5)).kt T12.out) (T12.out.ints MF.out));go_wp2_with fail;refine CW.out.mono ?_;rintro e w13 ⟨g13,rfl,hb13,hk13⟩;have k13:Keep au w12 w13:=Keep.trans kp hk13 fun _ _ _ h=>h
 have T13:=zh (T12.out.trans (.of k13));have zbz:=zh (zai.out.keep k13);have HSN:=HAC.out (fun c=>(P c∨c=b12)∨c=b13) w13 r.s (dn B (k:Int) (-1) ⟨aK k (-1) (-z-1),b⟩) g13 (zbx.out.keep k13) hb13 Xr.out.ok (by obtain⟨q,hq⟩:=Xr.out.more;rw [hq];exact HP.out.b2 q) (by have h0:=HWr.out.fl;have h1:(OZ sB a b).fuel=sB.fuel:=rfl;have h2:=HP.out.fB;have:=HF.out;omega) (by unfold qE;have h0:=HWr.out.phi;have h1:=Xp.out;unfold qE at h1;have h2:=HP.out.lB;have h3:=HP.out.fB;have h4:(OZ sB a b).steps.length=sB.steps.length+1:=(by simp [OZ]);have h5:(OZ sB a b).fuel=sB.fuel:=rfl;omega)
 have hst:=vE LPO.out HX.out.n12 hm40 HX.out.ok d r.s (dn B (k:Int) (-1) ⟨aK k (-1) (-z-1),b⟩) Xr.out.ok (by obtain⟨q,hq⟩:=Xr.out.more;rw [hq];exact HP.out.b2 q)
 have hwt:=UD LPO.out HX.out.n12 hm40 HX.out.ok d r.s (dn B (k:Int) (-1) ⟨aK k (-1) (-z-1),b⟩) Xr.out.ok (by obtain⟨q,hq⟩:=Xr.out.more;rw [hq];exact HP.out.b2 q)
 obtain⟨t,hrt⟩:∃t,uw (uy ints.length) rows ints d r.s (dn B (k:Int) (-1) ⟨aK k (-1) (-z-1),b⟩)=t:=⟨_,rfl⟩;rw [hrt]at HSN hst hwt;have BEt:=zh ((BEr.out.2 zby.out) t hrt);have CR:=zh HSN;have HSt:=zh hst;have HWt:=zh hwt;have Xw:=zh (fun h2 hm=>HSt.out.idb hm40 (by obtain⟨q,hq⟩:=HSt.out.more;rw [hq];exact iA.more (by obtain⟨q,hq⟩:=Xr.out.more;rw [hq];exact HP.out.b2 q)) h2 hm)
 clear hb13 hk13 k13 l0 l1 l2 lz CW HSN hst hwt hrt UN;go_wp2_with fail;refine CR.out.mono ?_;rintro e w14 ⟨c13,rfl,ho13,hs13,kt13⟩;have T14:=zh (T13.out.trans ((KT.of (P:=(fun c=>(P c∨c=b12)∨c=b13)) (show Keep au w13 w13 from Keep.refl _ _)).trans kt13))
 have zbA:=zh (kt13.ints zbz.out);have UO:=zh ho13;have Xx:=zh hs13;obtain⟨va13,vt13,vp13,xs13,ys13,hc13⟩:=hs13;obtain⟨t0,t1,t2,t3,t4,t5,t6,zcJ⟩:=lM hc13.blk;obtain⟨oc13,cc13,hv13⟩:=ho13.len;subst hv13;clear hc13 ho13 kt13 CR T13 t0 t1 t2 t3 t4 t5
 by_cases h2:t.st=2
 case neg=>
  have lF:=BEt.out.1 (.inl h2);have e2:(t.st != 2)=true:=by rw [bne_iff_ne];exact h2
  go_wp2;refine bodyPost_ret (by simp [results,Tryz.results62,go_sem];rfl) rfl ?_
  rw [lF];exact⟨_,rfl,UO.out,(Xx.out).weak fun c hc=> .inl (.inl hc),(KT.of K5.out).trans ((T14.out).weak fun c hc=> .inl (.inl hc))⟩
 case pos=>
 have NH:=zh h2;rw [h2]
 rcases hmu:t.s.much with _ | _
 case true=>
  have lF:=BEt.out.1 (.inr (.inl hmu));rw [hmu]at t6;clear hmu;go_wp2;refine bodyPost_ret (by simp [results,Tryz.results62,go_sem];rfl) rfl ?_
  rw [lF,NH.out];exact⟨_,rfl,UO.out,(Xx.out).weak fun c hc=> .inl (.inl hc),(KT.of K5.out).trans ((T14.out).weak fun c hc=> .inl (.inl hc))⟩
 case false=>
 rw [hmu]at t6;have Q8:=zh hmu;have zbB:=zh (UO.out.ints (fun x hx=>by obtain⟨id,e,h⟩:=Xw.out NH.out Q8.out x hx;unfold fK;omega))
 have CC:=zh (fun w' (k':Keep au w14 w')=>pX w' _ _ (-b) (zbB.out.keep k'))
 clear hmu h2;go_wp2_with fail;refine(CC.out _ kp).mono ?_;rintro e w15 ⟨rfl,hk15⟩;have k15:Keep au w14 w15:=Keep.trans kp hk15 fun _ _ _ h=>h
 have T15:=zh (T14.out.trans (.of k15));have zbC:=zh (zbA.out.keep k15);have zaj:=zh (Xx.out.keep k15);have zak:=zh (UO.out.keep k15);clear hk15 k15 t6 zcJ Xx UO T14 zbB CC
 by_cases hin: -b∈t.c
 case neg=>
  have lF:=BEt.out.1 (.inr (.inr hin));rw [decide_eq_false hin];clear hin;go_wp2;refine bodyPost_ret (by simp [results,Tryz.results62,go_sem];rfl) rfl ?_
  rw [lF,NH.out];exact⟨_,rfl,zak.out,(zaj.out).weak fun c hc=> .inl (.inl hc),(KT.of K5.out).trans ((T15.out).weak fun c hc=> .inl (.inl hc))⟩
 case pos=>
 rw [decide_eq_true hin];have zbD:Hid (¬Xv t b):=zh (by
  unfold Xv;rw [NH.out,Q8.out];rintro(h | h | h)
  ·exact h rfl
  ·cases h
  ·exact h hin)
 clear hin;have lF:=zh (BEt.out.2 zbD.out);have hne:=zal (by have h:=HS.out;rw [lF.out]at h;exact h) Q8.out
 have gV:Hid (mI a b (r.c++t.c) []≠ []):=zh fun e=>hne (by rw [e];rfl)
 have HIr:=zh (zbC.out.ints (fun x hx=>by obtain⟨id,e,h⟩:=Xt.out Le.out Q7.out x hx;unfold fK;omega))
 have HIt:=zh (zak.out.ints (fun x hx=>by obtain⟨id,e,h⟩:=Xw.out NH.out Q8.out x hx;unfold fK;omega))
 have HLr:=HWr.out.len Le.out Q7.out;have HLt:=HWt.out.len NH.out Q8.out;have rT:Hid (∀x∈r.c++t.c,x.natAbs≤120):=zh fun x hx=>by
  rcases List.mem_append.1 hx with hx | hx
  ·obtain ⟨id,e,h⟩:=Xt.out Le.out Q7.out x hx;omega
  ·obtain ⟨id,e,h⟩:=Xw.out NH.out Q8.out x hx;omega
 have hLL:(r.c++t.c).length≤400:=by rw [List.length_append];omega
 clear hne HS zbC zak Xt Xw Le Q7 zby BEr BEt zbD zbA zbz zai;go_wp2_with fail;have k15:Keep au w15 (w15.alloc (.cells #[.slice oc10 r.c.length cc10,.slice oc13 t.c.length cc13] 38)):=(Keep.refl _ _).alloc _;refine(NI _ w15.heap.size _ _ r.c t.c (aR _ _ rfl) (HIr.out.keep k15) (HIt.out.keep k15) (by omega) (by omega)).mono ?_
 rintro e w16 ⟨v16,rfl,ho16,hk16⟩;have K16:=zh (k15.both hk16);obtain⟨L,hL⟩:∃L,r.c++t.c=L:=⟨_,rfl⟩;rw [hL]at ho16 rT lF gV hLL;have HIL:=zh (ho16.ints (fun x hx=>by have:=rT.out x hx;unfold fK;omega))
 obtain⟨o16,c16,hv16⟩:=ho16.len;subst hv16;clear k15 hk16 ho16 hL HIr HIt HLr HLt;have zam:=zh (zaj.out.keep K16.out);have T16:=zh (T15.out.trans (.of K16.out));clear zaj T15 K16;go_wp2;go_loopw [158,20] (fun s u wr=>∃k:Nat,k≤L.length∧s= .int .i64 k∧bD wr w16.heap.size u (mI a b (L.take k) [])∧Keep au w16 wr∧(mI a b (L.take k) []).length≤k∧(∀x∈mI a b (L.take k) [],x∈L)) (fun s _ _=>(L.length-intOf s).toNat)
 case atStart=>exact⟨0,by omega,rfl,bD.nil _ _,Keep.refl _ _,by simp [mI],by simp [mI]⟩
 case round=>
  obtain⟨k',hk',rfl,hou,hkr,hol,hom⟩:=hrel;have KR:=zh hkr;have sH:=zh hou;have UQ:=zh hom;obtain⟨ou,cu,hvu⟩:=hou.len;subst hvu;clear hou hkr hom
  by_cases hkl:k'<L.length
  case pos=>
   have hlt:(k':Int)<(L.length:Int):=by omega
   obtain⟨bl,ol,cl,hv,hbl,p0⟩:=HIL.out.at hkl
   injection hv with q1 q2 q3
   clear q2;subst q1;subst q3;have p0:=(KR.out.cell hbl).trans p0;have zbg:=dY hbl KR.out.size;have zy:=zh (GU a b L k' hkl []);have Uh:=zh (List.getElem_mem hkl);have hxs:=rT.out _ (List.getElem_mem hkl);have hx64:fK L[k']:=by unfold fK;omega
   generalize L[k']=x at *;obtain⟨O,hO⟩:∃O,mI a b (L.take k') []=O:=⟨_,rfl⟩;rw [hO]at sH UQ zy hol ⊢;clear hO
   by_cases hxa:x= -a
   case pos=>
    have F3:Hid (mI a b (L.take (k'+1)) []=O):=zh (by rw [zy.out,if_neg (fun h=>h.1 hxa)])
    subst hxa;clear zy;go_wp2;go_roundw
    case rel=>exact⟨k'+1,by omega,by go_num,by rw [F3.out];exact sH.out,KR.out,by rw [F3.out];omega,by rw [F3.out];exact UQ.out⟩
    case measure=>simp [intOf];omega
   case neg=>
   have e1:(x != -a)=true:=by rw [bne_iff_ne];exact hxa
   by_cases hxb:x= -b
   case pos=>
    have F3:Hid (mI a b (L.take (k'+1)) []=O):=zh (by rw [zy.out,if_neg (fun h=>h.2.1 hxb)])
    have e2:(x != -b)=false:=by rw [hxb];simp
    clear zy hxb hxa;go_wp2;go_roundw
    case rel=>exact⟨k'+1,by omega,by go_num,by rw [F3.out];exact sH.out,KR.out,by rw [F3.out];omega,by rw [F3.out];exact UQ.out⟩
    case measure=>simp [intOf];omega
   case neg=>
   have e2:(x != -b)=true:=by rw [bne_iff_ne];exact hxb
   have HOI:=zh (sH.out.ints (fun y hy=>by have:=rT.out y (UQ.out y hy);unfold fK;omega))
   have CC:=zh (fun w' (k':Keep au wr w')=>pX w' _ _ x (HOI.out.keep k'))
   go_wp2_with fail;refine(CC.out _ kp).mono ?_;rintro e w17 ⟨rfl,hk17⟩;have k17:Keep au wr w17:=Keep.trans kp hk17 fun _ _ _ h=>h
   have K17:=zh (KR.out.both k17);have zan:=zh (sH.out.keep k17);clear hk17 k17 CC HOI p0
   by_cases hin:x∈O
   case pos=>
    have F3:Hid (mI a b (L.take (k'+1)) []=O):=zh (by rw [zy.out,if_neg (fun h=>h.2.2 hin)])
    rw [decide_eq_true hin];clear zy hin hxa hxb;go_wp2;go_roundw
    case rel=>exact⟨k'+1,by omega,by go_num,by rw [F3.out];exact zan.out,K17.out,by rw [F3.out];omega,by rw [F3.out];exact UQ.out⟩
    case measure=>simp [intOf];omega
   case neg=>
    have F3:Hid (mI a b (L.take (k'+1)) []=O++ [x]):=zh (by rw [zy.out,if_pos ⟨hxa,hxb,hin⟩])
    rw [decide_eq_false hin];clear zy hin hxa hxb;have ka:Keep au w17 (w17.alloc (.cells #[.int .i64 x] TI)):=(Keep.refl _ _).alloc _;have hko:=K17.out.both ka;obtain⟨v18,w18,hr18,ho18,hg18⟩:=jc (zan.out.keep ka) (qA w17 x hx64) (by simp only [List.length_singleton];omega) hko.size
    have K18:=zh (hko.grown hg18 fun k hk=>bD.block zan.out k hk)
    have zcK:=zh ho18;clear ka hko ho18 hg18;go_wp2_with (at_builtin;refine bG _ _ 38 _ _ rfl rfl rfl rfl hr18 ?_);go_roundw
    case rel=>exact⟨k'+1,by omega,by go_num,by rw [F3.out];exact zcK.out,K18.out,by rw [F3.out,List.length_append,List.length_singleton];omega,by
     rw [F3.out];intro y hy
     rcases List.mem_append.1 hy with hy | hy
     ·exact UQ.out y hy
     ·rw [List.mem_singleton.1 hy];exact Uh.out⟩
    case measure=>simp [intOf];omega
  case neg=>
   have hlt:¬(k':Int)<(L.length:Int):=by omega
   rw [List.take_of_length_le (by omega)]at sH UQ hol ⊢
   obtain⟨O,hO⟩:∃O,mI a b L []=O:=⟨_,rfl⟩;rw [hO]at sH UQ lF gV hol ⊢;clear hO HIL;obtain⟨bo,co,hv,hbo1,hbo2,_⟩:=yP sH.out gV.out
   injection hv with q1 q2 q3
   clear q2;subst q1;subst q3;have CSO:=zh (Je w16 wr bo cu O KR.out sH.out (fun x hx=>by have:=rT.out x (UQ.out x hx);omega) (by omega))
   have HSO:Hid (∀x∈iH O,fK x):=zh fun x hx=>by have:=rT.out x (UQ.out x (AF.1 hx));unfold fK;omega
   have HSL:Hid ((iH O).length=O.length):=zh (AO O);clear hbo1 hbo2 sH UQ gV rT;go_wp2_with fail;refine CSO.out.mono ?_;rintro e w19 ⟨rfl,ho19,hk19⟩;have zcL:=zam.out.keep hk19;have T19:=zh (T16.out.trans (.of hk19));have zbE:Hid (bD w19 w0.heap.size (.slice (some ⟨bo,0,none⟩) O.length cu) (iH O)):=zh (World.ownsRow_mono ho19 (show w0.heap.size≤w16.heap.size from by obtain⟨_,_,_,_,_,h⟩:=zam.out;exact h.k.size))
   have CLN:=zh (fun w' (k':Keep au w19 w')=>BK w' _ _ ((ho19.ints HSO.out).keep k') (by rw [HSL.out];omega))
   obtain⟨va9,vt9,vp9,xs9,ys9,hc19⟩:=zcL;obtain⟨⟨oa9,ca9,rfl⟩,⟨ot9,ct9,rfl⟩,op9,cp9,rfl⟩:=hc19.forms;obtain⟨t0,t1,t2,t3,t4,t5,t6,zbF⟩:=lM hc19.blk;have zao:=zh hc19;have hbz:w0.heap.size≤w19.heap.size:=hc19.k.size;have hst9:t.s.steps.length≤7001:=by
    have h0:=HWt.out.phi;have h1:=HWr.out.phi;have h2:=Xp.out;have h3:=HP.out.lB;have h4:(OZ sB a b).steps.length=sB.steps.length+1:=by simp [OZ]
    have h5:(OZ sB a b).fuel=sB.fuel:=rfl;have h6:=HP.out.fB;unfold qE at h2;omega
   clear ho19 hk19 CSO zam T16 KR hc19 t0 t1 t2 t3 t5 t6;go_upto_region 23 with fail
   refine aD (fun w'=>Keep au w19 w') [0,9,10,11,12] [([0,1,2,3,4,5],6),([7],8),([],9),([10,11],12)] [] (by kernel_rfl) (by kernel_rfl) kp ?_
   intro X W hne hF hcl;have aQ:=zh hcl;have z4:=fun x=>((hF x).cell zbF).trans t4
   have zl:=fun x=>dY zbF (hF x).size
   clear hF hcl t4;simp only [aO,aJ,zl0,zl1,zl2,aV,Bool.false_eq_true,if_false]
   (repeat(quiet_step (fail)));refine wpQuiet_nil ?_
   refine ay rfl rfl fun K hK=> ?_
   go_simp;refine(CLN.out _ (Keep.refl au w19).drew).mono ?_;rintro e w20 ⟨v20,rfl,ho20,hk20⟩;have k20:Keep au w19 w20:=(Keep.refl au w19).drew.both hk20;obtain⟨o20,c20,hv20⟩:=ho20.len;subst hv20;have zbG:Hid (bD w20 w0.heap.size (.slice o20 (iH O).length c20) (iH O)):=zh (World.ownsRow_mono ho20 hbz);refine hK _ _ ⟨fun _=>aQ.out _ k20,?_⟩
   clear hK CLN ho20 hk20
   (repeat(quiet_step (fail)));refine wpQuiet_nil ?_
   refine ay rfl rfl fun K hK=> ?_
   go_simp;have k21:Keep au w20 (w20.alloc (.cells #[.int .i64 1,.slice o20 (iH O).length c20,.slice none 0 0,.int .i64 0,.int .i64 0,.int .i64 0,.slice none 0 0,.int .i64 0,.int .i64 0] Da)):=(Keep.refl _ _).alloc _;refine hK _ _ ⟨fun _=>aQ.out _ (k20.both k21),?_⟩
   obtain⟨v22,w22,hr22,hv22,hc22,kt22,hb22,hg22⟩:=(zao.out.keep (k20.both k21)).pushT (y:=⟨.slice o20 (iH O).length c20,.slice none 0 0,.slice none 0 0,⟨1,iH O,[],xK⟩⟩) ⟨zbG.out.keep k21,dO.nil _ _,bD.nil _ _⟩ (b:=w20.heap.size) (aR _ _ rfl) (by omega)
   obtain⟨o22,c22,rfl⟩:=hv22;have Xy:aL w22 bS #[.slice lU rows.length cr,.slice oi ints.length ci,.int .i64 (t.s.fuel:Int),.slice oa9 t.s.atoms.length ca9,.slice ot9 t.s.steps.length ct9,.slice op9 t.s.point.length cp9,.bool t.s.much]:=⟨_,hb22.trans (zao.out.keep (k20.both k21)).b⟩;have g4:=Xy.cell 4;have ZY:=Xy.free 4;have gl:=Xy.lt;have zbH:=zh hc22;have T22:=zh ((T19.out.trans (.of (k20.both k21))).trans kt22);have zbI:=zh (kt22.ints (zbE.out.keep (k20.both k21)));clear hK hb22 hc22 kt22 hg22 k20 k21 Xy zao T19 zbE zbG
   (repeat(quiet_step (fail)));refine wpQuiet_nil ?_
   refine ay rfl rfl fun K hK=> ?_
   refine bZ _ _ 26 _ _ rfl rfl rfl hr22 ?_;refine hK _ _ ⟨fun h=>(by simp at h),?_⟩
   clear hK hr22
   (repeat(quiet_step (fail)));refine wpQuiet_nil ?_
   refine ay rfl rfl fun K hK=> ?_
   go_simp;refine hK _ _ ⟨fun h=>(by simp at h),?_⟩
   clear hK
   (repeat(quiet_step (fail)));refine wpQuiet_nil ?_
   refine NoPanic.normal ?_;clear hne z4 zl aQ X W g4 ZY gl;generalize w22.setCell ⟨bS,4,none⟩ (.slice o22 (t.s.steps.length+1) c22)=wz at *;have HSE:Hid (BI P w0 wz bS (.slice lU rows.length cr) (.slice oi ints.length ci) (Xz t.s (iH O)).s):=zh (BI.weak ⟨_,_,_,_,_,zbH.out⟩ fun c hc=> .inl (.inl hc))
   have TE:Hid (KT P w wz):=zh ((KT.of K5.out).trans (T22.out.weak fun c hc=> .inl (.inl hc)))
   have HOE:Hid (bD wz w0.heap.size (.slice (some ⟨bo,0,none⟩) O.length cu) (Xz t.s (iH O)).c):=zh zbI.out;clear zbH T22 zbI;go_simp
   repeat go_step
   refine bodyPost_ret (by simp [results,Tryz.results62,go_sem];rfl) rfl ?_
   rw [lF.out];exact⟨_,rfl,HOE.out,HSE.out,TE.out⟩
end Go.Proofs.YtaiffmebphhdaaaGreat
