/- Package cut: branch, both ways. -/
import Derived.Test.YtaiffmebphhdaaaGreatCuWW
namespace Go.Proofs.YtaiffmebphhdaaaGreat
set_option maxRecDepth 100000
set_option maxHeartbeats 32000000
set_option linter.unusedSimpArgs false
set_option linter.unusedVariables false
open Go.ChangeShapes Go.WideShapes Go.RowKit
variable {P:Nat→Prop}
theorem own_two {base:Nat}(w:World)(x y:Int)(hb:base≤w.heap.size):OwnI (w.alloc (.cells #[.int .i64 x,.int .i64 y] TI)) base (.slice (some ⟨w.heap.size,0,none⟩) 2 2) [x,y]:=
 ⟨by simp [iv],.inr ⟨w.heap.size,2,_,rfl,hb,heap_alloc_at _ _ _ rfl,Nat.le_refl _,by unfold maxLen;omega,by simp,by simp [iv]⟩⟩
theorem branch_go (w0 w:World)(bS:Nat)(orr:Option Addr)(cr:Nat)(oi:Option Addr)(ci:Nat)(rows:List Rw)(ints:List Bool)(hx:CutX w0 (.slice orr rows.length cr) (.slice oi ints.length ci) rows ints)(d:Nat)(hA:AtC w0 bS (.slice orr rows.length cr) (.slice oi ints.length ci) rows ints d)
  (s:CSt) (B:Bds) (g k:Nat) (z:Int) (xb:Bool) (xS:ByteArray) (xc:Bool) (xU:ByteArray) (h:IsS P w0 w bS (.slice orr rows.length cr) (.slice oi ints.length ci) s) (hB:IsB w w0.heap.size g B) (ha:AtOK rows.length ints.length s.atoms) (hb:BdOK rows.length ints.length s.atoms B) (hk:k<ints.length)
  (hz:IsNum (.agg #[.bool xb,.string xS,.bool xc,.string xU]) (z:Rat)) (hzn:NB 4000 (z:Rat)) (hf:s.fuel<d) (hph:PhiOK s) (hsl:s.steps.length≤7001) (hbad:¬(z< -1000000∨1000000≤z∨3000<s.steps.length+8∨120<rows.length+s.atoms.length+2)) (hS:Snd rows ints s B (branchF rows.length (atF (lpN ints.length) rows ints d) s B k z)):
  Calls Tryz.prog 62 #[.pointer (some ⟨bS,0,none⟩),.map (some g),.int .i64 (k:Int),.agg #[.bool xb,.string xS,.bool xc,.string xU]] w (AtPost P w0 bS (.slice orr rows.length cr) (.slice oi ints.length ci) w (branchF rows.length (atF (lpN ints.length) rows ints d) s B k z)):=by
 obtain⟨sA,sB,a,b,hp⟩:=branch_plan ha hb hk hbad;have BR:=zh (fun r hr=>branch_r hp hbad (r:=r) (rc:=atF (lpN ints.length) rows ints d) hr)
 have HP:=zh hp;have HS:=zh hS;have h64:is64 z:=by unfold is64;omega
 have d1:decide (z< -1000000)=false:=dec_f (by omega)
 have d2:decide (1000000≤z)=false:=dec_f (by omega)
 have d3:decide ((3000:Int)<(s.steps.length:Int)+8)=false:=dec_f (by omega)
 have d4:decide ((120:Int)<(rows.length:Int)+(s.atoms.length:Int)+2)=false:=dec_f (by omega)
 have hz1: -1000000≤z:=by omega
 have hz2:z<1000000:=by omega
 clear hp hS hbad;obtain⟨va,vt,vp,xs,ys,hc⟩:=h;obtain⟨⟨oa,ca,rfl⟩,⟨ot,ct,rfl⟩,op,cp,rfl⟩:=hc.forms;have HC:=zh hc;have HX:=zh hx;have HAC:=zh hA;have HB:=zh hB;have HAO:=zh ha;have HBO:=zh hb;have HF:=zh hf;have HPH:=zh hph;have hal:rows.length+s.atoms.length≤120:=ha.cap;have hm40:rows.length≤40:=hx.m40;have hk12:k<12:=by have:=hx.n12;omega
 have CL:=fun w=>zh (exSmall_any w _ _ hz hzn)
 have e0:smallV ((z:Int):Rat)= .tuple #[.int .i64 (if is64 z then z else 0),.bool (decide (is64 z))]:=by
  unfold smallV;simp [Rat.num_intCast,Rat.den_intCast];exact⟨rfl,rfl⟩
 rw [e0]at CL;rw [if_pos h64,decide_eq_true h64]at CL;clear hc hx hA hB ha hb hf hph e0 hz h64;unfold AtPost;go_enter Tryz.func62,Tryz.ntmps62;go_upto_region 1 with fail
 have k1:Keep NoS w (w.alloc (.cells #[.bool xb,.string xS,.bool xc,.string xU] 93)):=(Keep.refl _ _).alloc _;have HB7:Hid (Blk (w.alloc (.cells #[.bool xb,.string xS,.bool xc,.string xU] 93)) w.heap.size #[.bool xb,.string xS,.bool xc,.string xU]):=zh (blk_at _ _ rfl);have K1:=zh k1;clear k1;generalize w.alloc (.cells #[.bool xb,.string xS,.bool xc,.string xU] 93)=w1 at *;obtain⟨b7,hb7⟩:∃b7,w.heap.size=b7:=⟨_,rfl⟩;rw [hb7]at HB7 ⊢;clear hb7;obtain⟨y0,y1,y2,y3,_,_,_,_,yl⟩:=HB7.out.four;go_wp2_with fail;refine(CL _).out.mono ?_;rintro e w2 ⟨rfl,hk2⟩;have K2:=zh (K1.out.both hk2);clear hk2 y0 y1 y2 y3 yl HB7 K1 CL;have HC2:=zh (HC.out.keep K2.out);obtain⟨t0,t1,t2,t3,t4,t5,t6,lS⟩:=blk7C HC2.out.blk;have t6f:=HC2.out.blk.free 6;have CL:=();have sz2:w0.heap.size≤w2.heap.size:=HC2.out.k.size;go_upto_region 2 with fail
 refine wp_region_by (fun w'=>Keep NoS w2 w') [] [] [0,1,2,3,4,5,6,7,8,9,10,11,12,13,14,15,16,17,18,19,20,21,22,23,24,25,26,27,28,29,30,31,32,33] (by kernel_rfl) (by kernel_rfl) kp ?_
 intro X W hne hF hcl;have z0:=fun x=>((hF x).cell lS).trans t0
 have z3:=fun x=>((hF x).cell lS).trans t3
 have z4:=fun x=>((hF x).cell lS).trans t4
 clear hF hcl;simp only [wpPlan,pickOps,zl0,zl1,zl2,clsOf,Bool.false_eq_true,if_false]
 (repeat(go_big_quiet_step (fail)));refine wpQuiet_nil ?_
 refine NoPanic.normal ?_;clear z0 z3 z4;clear d1 d2 d3 d4 t0 t1 t2 t3 t4 t5 t6 t6f CL;go_wp2_with fail;refine(limit_any _ k 1 z (by omega)).mono ?_
 rintro e w3 ⟨b3,rfl,ho3,hk3⟩;have k3:Keep NoS w2 w3:=Keep.trans kp hk3 fun _ _ _ h=>h
 have HO3:Hid (OwnI w3 w0.heap.size (.slice (some ⟨b3,0,none⟩) (k+1) (k+1)) (limitR k 1 z).of):=zh (World.ownsRow_mono ho3 sz2);have K3:=zh k3;clear hk3 k3 ho3;go_wp2_with fail;refine(limit_any _ k (-1) (-z-1) (by omega)).mono ?_
 rintro e w4 ⟨b4,rfl,ho4,hk4⟩;have k4:Keep NoS w3 w4:=Keep.trans kp hk4 fun _ _ _ h=>h
 have HO4:Hid (OwnI w4 w0.heap.size (.slice (some ⟨b4,0,none⟩) (k+1) (k+1)) (limitR k (-1) (-z-1)).of):=zh (World.ownsRow_mono ho4 (Nat.le_trans sz2 K3.out.size));have HO3:=zh (HO3.out.keep k4);have K4:=zh (K3.out.both k4);clear hk4 k4 ho4 K3;go_upto_region 6 with fail
 have k12:Keep NoS w4 (w4.alloc (Obj.cells #[.slice (some ⟨b3,0,none⟩) (k+1) (k+1),.int .i64 1,.int .i64 z] TRw)):=(Keep.refl _ _).alloc _;have k13:Keep NoS (w4.alloc (Obj.cells #[.slice (some ⟨b3,0,none⟩) (k+1) (k+1),.int .i64 1,.int .i64 z] TRw)) ((w4.alloc (Obj.cells #[.slice (some ⟨b3,0,none⟩) (k+1) (k+1),.int .i64 1,.int .i64 z] TRw)).alloc (Obj.cells #[.slice (some ⟨b4,0,none⟩) (k+1) (k+1),.int .i64 1,.int .i64 (-z-1)] TRw)):=(Keep.refl _ _).alloc _;have HC5:=zh ((HC2.out.guard (K4.out.both k12) (b:=w4.heap.size) K4.out.size (by simp)).guard k13 (b:=w4.heap.size+1) (by simp) (by simp))
 have HB12:Hid (((w4.alloc (Obj.cells #[.slice (some ⟨b3,0,none⟩) (k+1) (k+1),.int .i64 1,.int .i64 z] TRw)).alloc (Obj.cells #[.slice (some ⟨b4,0,none⟩) (k+1) (k+1),.int .i64 1,.int .i64 (-z-1)] TRw)).heap[w4.heap.size]? =some (.cells #[.slice (some ⟨b3,0,none⟩) (k+1) (k+1),.int .i64 1,.int .i64 z] TRw (0,0))):=zh ((k13.block _ (by simp) fun _ h=>h).trans (heap_alloc_at _ _ _ rfl))
 have HB13:Hid (((w4.alloc (Obj.cells #[.slice (some ⟨b3,0,none⟩) (k+1) (k+1),.int .i64 1,.int .i64 z] TRw)).alloc (Obj.cells #[.slice (some ⟨b4,0,none⟩) (k+1) (k+1),.int .i64 1,.int .i64 (-z-1)] TRw)).heap[w4.heap.size+1]? =some (.cells #[.slice (some ⟨b4,0,none⟩) (k+1) (k+1),.int .i64 1,.int .i64 (-z-1)] TRw (0,0))):=zh (heap_alloc_at _ _ _ (by simp))
 have K5:Hid (Keep NoS w ((w4.alloc (Obj.cells #[.slice (some ⟨b3,0,none⟩) (k+1) (k+1),.int .i64 1,.int .i64 z] TRw)).alloc (Obj.cells #[.slice (some ⟨b4,0,none⟩) (k+1) (k+1),.int .i64 1,.int .i64 (-z-1)] TRw))):=zh (((K2.out.both K4.out).both k12).both k13);have HO3:=zh ((HO3.out.keep k12).keep k13);have HO4:=zh ((HO4.out.keep k12).keep k13);clear k12 k13 K4 HC2 K2;generalize (w4.alloc (Obj.cells #[.slice (some ⟨b3,0,none⟩) (k+1) (k+1),.int .i64 1,.int .i64 z] TRw)).alloc (Obj.cells #[.slice (some ⟨b4,0,none⟩) (k+1) (k+1),.int .i64 1,.int .i64 (-z-1)] TRw)=w5 at *;obtain⟨b12,hb12⟩:∃b12,w4.heap.size=b12:=⟨_,rfl⟩;rw [hb12]at HC5 HB12 HB13 ⊢;clear hb12;obtain⟨b13,hb13⟩:∃b13,b12+1=b13:=⟨_,rfl⟩;rw [hb13]at HC5 HB13 ⊢;clear hb13;have hll:(limitR k 1 z).of.length=k+1:=by simp [limitR]
 have hlh:(limitR k (-1) (-z-1)).of.length=k+1:=by simp [limitR]
 have CA:=fun w' (kt:KT (fun c=>(P c∨c=b12)∨c=b13) w5 w') (h:IsS (fun c=>(P c∨c=b12)∨c=b13) w0 w' bS (.slice orr rows.length cr) (.slice oi ints.length ci) s)=>atom_any w0 w' bS rows.length orr cr (.slice oi ints.length ci) s (some ⟨b3,0,none⟩) (k+1) (limitR k 1 z) h (by rw [hll];exact kt.ints HO3.out) (lim_fit HP.out.limA) HAO.out.fit (by omega) (by omega) (by omega)
 have CB:=fun w' (kt:KT (fun c=>(P c∨c=b12)∨c=b13) w5 w') (h:IsS (fun c=>(P c∨c=b12)∨c=b13) w0 w' bS (.slice orr rows.length cr) (.slice oi ints.length ci) sA)=>atom_any w0 w' bS rows.length orr cr (.slice oi ints.length ci) sA (some ⟨b4,0,none⟩) (k+1) (limitR k (-1) (-z-1)) h (by rw [hlh];exact kt.ints HO4.out) (lim_fit HP.out.limB) HP.out.okA.fit (by have:=HP.out.okA.cap;omega) (by have:=HP.out.lA;omega) (by omega)
 rw [hll,HP.out.hA]at CA;rw [hlh,HP.out.hB]at CB;have CA:=zh CA;have CB:=zh CB;refine wp_region_by (fun w'=>KT (fun c=>(P c∨c=b12)∨c=b13) w5 w') [] [([0,1,3,4],2),([],5)] [6,7] (by kernel_rfl) (by kernel_rfl) (.of (Keep.refl NoS w5).drew) ?_
 intro X W hne hF hcl;have HCL:=zh hcl;have h12:=fun x=>(hF x).same _ _ HB12.out (.inr (.inl (.inr rfl)))
 have h13:=fun x=>(hF x).same _ _ HB13.out (.inr (.inr rfl))
 have l0:=fun x=>cell_of_heap (o:=0) (h12 x) rfl
 have l1:=fun x=>cell_of_heap (o:=1) (h12 x) rfl
 have l2:=fun x=>cell_of_heap (o:=2) (h12 x) rfl
 have lz:=fun x=>lt_of_heap (h12 x)
 have m0:=fun x=>cell_of_heap (o:=0) (h13 x) rfl
 have m1:=fun x=>cell_of_heap (o:=1) (h13 x) rfl
 have m2:=fun x=>cell_of_heap (o:=2) (h13 x) rfl
 have mz:=fun x=>lt_of_heap (h13 x)
 clear hF hcl h12 h13;simp only [wpPlan,pickOps,zl0,zl1,zl2,clsOf,Bool.false_eq_true,if_false]
 (repeat(quiet_step (fail)));refine wpQuiet_nil ?_
 refine wpAt rfl rfl fun K hK=> ?_
 go_simp;refine(CA.out _ (.of (Keep.refl NoS w5).drew) ⟨_,_,_,_,_,HC5.out.keep (Keep.refl NoS w5).drew⟩).mono ?_;rintro e w6 ⟨rfl,hs6,kt6⟩;have T6:=zh ((KT.of (P:=fun c=>(P c∨c=b12)∨c=b13) (Keep.refl NoS w5).drew).trans kt6)
 have HS6:Hid (IsS (fun c=>(P c∨c=b12)∨c=b13) w0 w6 bS (.slice orr rows.length cr) (.slice oi ints.length ci) sA):=zh hs6
 refine hK _ _ ⟨fun _=>HCL.out _ T6.out,?_⟩
 clear hK kt6 hs6 CA
 (repeat(quiet_step (fail)));refine wpQuiet_nil ?_
 refine wpAt rfl rfl fun K hK=> ?_
 go_simp;refine(CB.out _ T6.out HS6.out).mono ?_;rintro e w7 ⟨rfl,hs7,kt7⟩;have T7:=zh (T6.out.trans kt7);have HS7:Hid (IsS (fun c=>(P c∨c=b12)∨c=b13) w0 w7 bS (.slice orr rows.length cr) (.slice oi ints.length ci) sB):=zh hs7
 refine hK _ _ ⟨fun _=>HCL.out _ T7.out,?_⟩
 clear hK kt7 hs7 CB T6 HS6
 (repeat(quiet_step (fail)));refine wpQuiet_nil ?_
 refine NoPanic.normal ?_;clear hne l0 l1 l2 lz m0 m1 m2 mz HCL X W;go_upto_region 8 with fail
 obtain⟨va7,vt7,vp7,xs7,ys7,hc7⟩:=HS7.out;obtain⟨⟨oa7,ca7,rfl⟩,⟨ot7,ct7,rfl⟩,op7,cp7,rfl⟩:=hc7.forms;have k8:Keep NoS w7 (w7.alloc (Obj.cells #[.int .i64 (min a b),.int .i64 (max a b)] 3)):=(Keep.refl _ _).alloc _;have HG8:Hid (OwnI (w7.alloc (Obj.cells #[.int .i64 (min a b),.int .i64 (max a b)] 3)) w0.heap.size (.slice (some ⟨w7.heap.size,0,none⟩) 2 2) [min a b,max a b]):=zh (own_two _ _ _ hc7.k.size);have HC8:=zh (hc7.keep k8);have T8:=zh (T7.out.trans (.of k8));clear k8 hc7 HS7 T7;generalize w7.alloc (Obj.cells #[.int .i64 (min a b),.int .i64 (max a b)] 3)=w8 at *;obtain⟨bg,hbg⟩:∃bg,w7.heap.size=bg:=⟨_,rfl⟩;rw [hbg]at HG8 ⊢;clear hbg;have k9:Keep NoS w8 (w8.alloc (Obj.cells #[.int .i64 6,.slice (some ⟨bg,0,none⟩) 2 2,.slice none 0 0,.int .i64 0,.int .i64 0,.int .i64 0,.slice none 0 0,.int .i64 0,.int .i64 0] TSt)):=(Keep.refl _ _).alloc _;obtain⟨v9,w9,hr9,hv9,hc9,kt9,hb9,hg9⟩:=(HC8.out.keep k9).pushT (y:=⟨.slice (some ⟨bg,0,none⟩) 2 2,.slice none 0 0,.slice none 0 0,⟨6,[min a b,max a b],[],noRw⟩⟩) ⟨HG8.out.keep k9,OwnG.nil _ _,OwnI.nil _ _⟩ (b:=w8.heap.size) (blk_at _ _ rfl) (by have:=HP.out.lB;omega)
 obtain⟨o9,c9,rfl⟩:=hv9;have HB9:Blk w9 bS #[.slice orr rows.length cr,.slice oi ints.length ci,.int .i64 (sB.fuel:Int),.slice oa7 sB.atoms.length ca7,.slice ot7 sB.steps.length ct7,.slice op7 sB.point.length cp7,.bool sB.much]:=⟨_,hb9.trans (HC8.out.keep k9).b⟩;have g4:=HB9.cell 4;have g4f:=HB9.free 4;have gl:=HB9.lt;obtain⟨t0,t1,t2,t3,t4,t5,t6,lS8⟩:=blk7C HC8.out.blk;have HC9:=zh hc9;have T9:=zh ((T8.out.trans (.of k9)).trans kt9);clear k9 hc9 kt9 hb9 hg9 HB9 HC8 T8 HG8;go_upto_region 9 with(at_builtin;refine wpList_app_run _ _ 26 _ _ rfl rfl rfl rfl hr9 ?_)
 clear hr9 g4 g4f gl t0 t1 t2 t3 t4 t5 t6 lS8;generalize w9.setCell ⟨bS,4,none⟩ (.slice o9 (sB.steps.length+1) c9)=wz at *;have LPO:Hid (LPok ints.length (lpN ints.length)):=zh (lp_ok HX.out.n12 _);obtain⟨ha1,ha2⟩:=HP.out.ar;obtain⟨hb1,hb2⟩:=HP.out.br;have HL10:=zh (T9.out.same _ _ HB12.out (.inr (.inl (.inr rfl))));have l0:=cell_of_heap (o:=0) HL10.out rfl;have l1:=cell_of_heap (o:=1) HL10.out rfl;have l2:=cell_of_heap (o:=2) HL10.out rfl;have lz:=lt_of_heap HL10.out;have CW:=zh (with_any wz w0.heap.size g (k:Int) 1 (.slice (some ⟨b3,0,none⟩) (k+1) (k+1)) ⟨limitR k 1 z,a⟩ B ((HB.out.kt (.of K5.out:KT P w w5)).kt T9.out) (T9.out.ints HO3.out));go_wp2_with fail;refine CW.out.mono ?_;rintro e w10 ⟨g10,rfl,hb10,hk10⟩;have k10:Keep NoS wz w10:=Keep.trans kp hk10 fun _ _ _ h=>h
 have T10:=zh (T9.out.trans (.of k10));have HSN:=HAC.out (fun c=>(P c∨c=b12)∨c=b13) w10 (s3F sB a b) (withB B (k:Int) 1 ⟨limitR k 1 z,a⟩) g10 ((show IsS (fun c=>(P c∨c=b12)∨c=b13) w0 wz bS (.slice orr rows.length cr) (.slice oi ints.length ci) (s3F sB a b)from⟨_,_,_,_,_,HC9.out⟩).keep k10) hb10 HP.out.okB HP.out.b1 (by show sB.fuel<d;rw [HP.out.fB];exact HF.out) (by unfold PhiOK;have h1:=HPH.out;unfold PhiOK at h1;have h2:=HP.out.lB;have h3:=HP.out.fB;show max (sB.steps++ [_]).length 3000+2*sB.fuel≤7001;rw [List.length_append];simp only [List.length_singleton];omega)
 have hsr:=snd_at LPO.out HX.out.n12 hm40 HX.out.ok d (s3F sB a b) (withB B (k:Int) 1 ⟨limitR k 1 z,a⟩) HP.out.okB HP.out.b1;have hwr:=wk_at LPO.out HX.out.n12 hm40 HX.out.ok d (s3F sB a b) (withB B (k:Int) 1 ⟨limitR k 1 z,a⟩) HP.out.okB HP.out.b1;obtain⟨r,hrr⟩:∃r,atF (lpN ints.length) rows ints d (s3F sB a b) (withB B (k:Int) 1 ⟨limitR k 1 z,a⟩)=r:=⟨_,rfl⟩;rw [hrr]at HSN hsr hwr;have BEr:=zh (BR.out r hrr);have CR:=zh HSN;have HSr:=zh hsr;have HWr:=zh hwr;have HIDr:=zh (fun h2 hm=>HSr.out.idb hm40 (by obtain⟨q,hq⟩:=HSr.out.more;rw [hq];exact BdOK.more HP.out.b1) h2 hm)
 clear hb10 hk10 k10 l0 l1 l2 lz CW HSN hsr hwr hrr HL10;go_wp2_with fail;refine CR.out.mono ?_;rintro e w11 ⟨c10,rfl,ho10,hs10,kt10⟩;have T11:=zh (T10.out.trans ((KT.of (P:=(fun c=>(P c∨c=b12)∨c=b13)) (show Keep NoS w10 w10 from Keep.refl _ _)).trans kt10))
 have HO10:=zh ho10;have HS10:=zh hs10;obtain⟨va10,vt10,vp10,xs10,ys10,hc10⟩:=hs10;obtain⟨t0,t1,t2,t3,t4,t5,t6,lS10⟩:=blk7C hc10.blk;obtain⟨oc10,cc10,hv10⟩:=ho10.len;subst hv10;clear hc10 ho10 kt10 CR T10 t0 t1 t2 t3 t4 t5
 by_cases h2:r.st=2
 case neg=>
  have HEQ:=BEr.out.1 (.inl h2);have e2:(r.st != 2)=true:=by rw [bne_iff_ne];exact h2
  go_wp2;refine bodyPost_ret (by simp [results,Tryz.results62,go_sem];rfl) rfl ?_
  rw [HEQ];exact⟨_,rfl,HO10.out,(HS10.out).weak fun c hc=> .inl (.inl hc),(KT.of K5.out).trans ((T11.out).weak fun c hc=> .inl (.inl hc))⟩
 case pos=>
 have HSTr:=zh h2;rw [h2]
 rcases hmu:r.s.much with _ | _
 case true=>
  have HEQ:=BEr.out.1 (.inr (.inl hmu));rw [hmu]at t6;clear hmu;go_wp2;refine bodyPost_ret (by simp [results,Tryz.results62,go_sem];rfl) rfl ?_
  rw [HEQ,HSTr.out];exact⟨_,rfl,HO10.out,(HS10.out).weak fun c hc=> .inl (.inl hc),(KT.of K5.out).trans ((T11.out).weak fun c hc=> .inl (.inl hc))⟩
 case false=>
 rw [hmu]at t6;have HMUr:=zh hmu;have HIIr:=zh (HO10.out.ints (fun x hx=>by obtain⟨id,e,h⟩:=HIDr.out HSTr.out HMUr.out x hx;unfold I64;omega))
 have CC:=zh (fun w' (k':Keep NoS w11 w')=>slContains_any w' _ _ (-a) (HIIr.out.keep k'))
 clear hmu h2;go_wp2_with fail;refine(CC.out _ kp).mono ?_;rintro e w12 ⟨rfl,hk12⟩;have k12:Keep NoS w11 w12:=Keep.trans kp hk12 fun _ _ _ h=>h
 have T12:=zh (T11.out.trans (.of k12));have HS12:=zh (HS10.out.keep k12);have HO12:=zh (HO10.out.keep k12);clear hk12 k12 t6 lS10 HS10 HO10 T11 HIIr CC
 by_cases hin: -a∈r.c
 case neg=>
  have HEQ:=BEr.out.1 (.inr (.inr hin));rw [decide_eq_false hin];clear hin;go_wp2;refine bodyPost_ret (by simp [results,Tryz.results62,go_sem];rfl) rfl ?_
  rw [HEQ,HSTr.out];exact⟨_,rfl,HO12.out,(HS12.out).weak fun c hc=> .inl (.inl hc),(KT.of K5.out).trans ((T12.out).weak fun c hc=> .inl (.inl hc))⟩
 case pos=>
 rw [decide_eq_true hin];have HNCr:Hid (¬BrC r a):=zh (by
  unfold BrC;rw [HSTr.out,HMUr.out];rintro(h | h | h)
  ·exact h rfl
  ·cases h
  ·exact h hin)
 clear hin;have HL13:=zh (T12.out.same _ _ HB13.out (.inr (.inr rfl)));have l0:=cell_of_heap (o:=0) HL13.out rfl;have l1:=cell_of_heap (o:=1) HL13.out rfl;have l2:=cell_of_heap (o:=2) HL13.out rfl;have lz:=lt_of_heap HL13.out;have CW:=zh (with_any w12 w0.heap.size g (k:Int) (-1) (.slice (some ⟨b4,0,none⟩) (k+1) (k+1)) ⟨limitR k (-1) (-z-1),b⟩ B ((HB.out.kt (.of K5.out:KT P w w5)).kt T12.out) (T12.out.ints HO4.out));go_wp2_with fail;refine CW.out.mono ?_;rintro e w13 ⟨g13,rfl,hb13,hk13⟩;have k13:Keep NoS w12 w13:=Keep.trans kp hk13 fun _ _ _ h=>h
 have T13:=zh (T12.out.trans (.of k13));have HX13:=zh (HO12.out.keep k13);have HSN:=HAC.out (fun c=>(P c∨c=b12)∨c=b13) w13 r.s (withB B (k:Int) (-1) ⟨limitR k (-1) (-z-1),b⟩) g13 (HS12.out.keep k13) hb13 HSr.out.ok (by obtain⟨q,hq⟩:=HSr.out.more;rw [hq];exact HP.out.b2 q) (by have h0:=HWr.out.fl;have h1:(s3F sB a b).fuel=sB.fuel:=rfl;have h2:=HP.out.fB;have:=HF.out;omega) (by unfold PhiOK;have h0:=HWr.out.phi;have h1:=HPH.out;unfold PhiOK at h1;have h2:=HP.out.lB;have h3:=HP.out.fB;have h4:(s3F sB a b).steps.length=sB.steps.length+1:=(by simp [s3F]);have h5:(s3F sB a b).fuel=sB.fuel:=rfl;omega)
 have hst:=snd_at LPO.out HX.out.n12 hm40 HX.out.ok d r.s (withB B (k:Int) (-1) ⟨limitR k (-1) (-z-1),b⟩) HSr.out.ok (by obtain⟨q,hq⟩:=HSr.out.more;rw [hq];exact HP.out.b2 q)
 have hwt:=wk_at LPO.out HX.out.n12 hm40 HX.out.ok d r.s (withB B (k:Int) (-1) ⟨limitR k (-1) (-z-1),b⟩) HSr.out.ok (by obtain⟨q,hq⟩:=HSr.out.more;rw [hq];exact HP.out.b2 q)
 obtain⟨t,hrt⟩:∃t,atF (lpN ints.length) rows ints d r.s (withB B (k:Int) (-1) ⟨limitR k (-1) (-z-1),b⟩)=t:=⟨_,rfl⟩;rw [hrt]at HSN hst hwt;have BEt:=zh ((BEr.out.2 HNCr.out) t hrt);have CR:=zh HSN;have HSt:=zh hst;have HWt:=zh hwt;have HIDt:=zh (fun h2 hm=>HSt.out.idb hm40 (by obtain⟨q,hq⟩:=HSt.out.more;rw [hq];exact BdOK.more (by obtain⟨q,hq⟩:=HSr.out.more;rw [hq];exact HP.out.b2 q)) h2 hm)
 clear hb13 hk13 k13 l0 l1 l2 lz CW HSN hst hwt hrt HL13;go_wp2_with fail;refine CR.out.mono ?_;rintro e w14 ⟨c13,rfl,ho13,hs13,kt13⟩;have T14:=zh (T13.out.trans ((KT.of (P:=(fun c=>(P c∨c=b12)∨c=b13)) (show Keep NoS w13 w13 from Keep.refl _ _)).trans kt13))
 have HX14:=zh (kt13.ints HX13.out);have HO13:=zh ho13;have HS13:=zh hs13;obtain⟨va13,vt13,vp13,xs13,ys13,hc13⟩:=hs13;obtain⟨t0,t1,t2,t3,t4,t5,t6,lS13⟩:=blk7C hc13.blk;obtain⟨oc13,cc13,hv13⟩:=ho13.len;subst hv13;clear hc13 ho13 kt13 CR T13 t0 t1 t2 t3 t4 t5
 by_cases h2:t.st=2
 case neg=>
  have HEQ:=BEt.out.1 (.inl h2);have e2:(t.st != 2)=true:=by rw [bne_iff_ne];exact h2
  go_wp2;refine bodyPost_ret (by simp [results,Tryz.results62,go_sem];rfl) rfl ?_
  rw [HEQ];exact⟨_,rfl,HO13.out,(HS13.out).weak fun c hc=> .inl (.inl hc),(KT.of K5.out).trans ((T14.out).weak fun c hc=> .inl (.inl hc))⟩
 case pos=>
 have HSTt:=zh h2;rw [h2]
 rcases hmu:t.s.much with _ | _
 case true=>
  have HEQ:=BEt.out.1 (.inr (.inl hmu));rw [hmu]at t6;clear hmu;go_wp2;refine bodyPost_ret (by simp [results,Tryz.results62,go_sem];rfl) rfl ?_
  rw [HEQ,HSTt.out];exact⟨_,rfl,HO13.out,(HS13.out).weak fun c hc=> .inl (.inl hc),(KT.of K5.out).trans ((T14.out).weak fun c hc=> .inl (.inl hc))⟩
 case false=>
 rw [hmu]at t6;have HMUt:=zh hmu;have HIIt:=zh (HO13.out.ints (fun x hx=>by obtain⟨id,e,h⟩:=HIDt.out HSTt.out HMUt.out x hx;unfold I64;omega))
 have CC:=zh (fun w' (k':Keep NoS w14 w')=>slContains_any w' _ _ (-b) (HIIt.out.keep k'))
 clear hmu h2;go_wp2_with fail;refine(CC.out _ kp).mono ?_;rintro e w15 ⟨rfl,hk15⟩;have k15:Keep NoS w14 w15:=Keep.trans kp hk15 fun _ _ _ h=>h
 have T15:=zh (T14.out.trans (.of k15));have HX15:=zh (HX14.out.keep k15);have HS15:=zh (HS13.out.keep k15);have HO15:=zh (HO13.out.keep k15);clear hk15 k15 t6 lS13 HS13 HO13 T14 HIIt CC
 by_cases hin: -b∈t.c
 case neg=>
  have HEQ:=BEt.out.1 (.inr (.inr hin));rw [decide_eq_false hin];clear hin;go_wp2;refine bodyPost_ret (by simp [results,Tryz.results62,go_sem];rfl) rfl ?_
  rw [HEQ,HSTt.out];exact⟨_,rfl,HO15.out,(HS15.out).weak fun c hc=> .inl (.inl hc),(KT.of K5.out).trans ((T15.out).weak fun c hc=> .inl (.inl hc))⟩
 case pos=>
 rw [decide_eq_true hin];have HNCt:Hid (¬BrC t b):=zh (by
  unfold BrC;rw [HSTt.out,HMUt.out];rintro(h | h | h)
  ·exact h rfl
  ·cases h
  ·exact h hin)
 clear hin;have HEQ:=zh (BEt.out.2 HNCt.out);have hne:=out_ne (by have h:=HS.out;rw [HEQ.out]at h;exact h) HMUt.out
 have HNE:Hid (outF a b (r.c++t.c) []≠ []):=zh fun e=>hne (by rw [e];rfl)
 have HIr:=zh (HX15.out.ints (fun x hx=>by obtain⟨id,e,h⟩:=HIDr.out HSTr.out HMUr.out x hx;unfold I64;omega))
 have HIt:=zh (HO15.out.ints (fun x hx=>by obtain⟨id,e,h⟩:=HIDt.out HSTt.out HMUt.out x hx;unfold I64;omega))
 have HLr:=HWr.out.len HSTr.out HMUr.out;have HLt:=HWt.out.len HSTt.out HMUt.out;have HSM:Hid (∀x∈r.c++t.c,x.natAbs≤120):=zh fun x hx=>by
  rcases List.mem_append.1 hx with hx | hx
  ·obtain ⟨id,e,h⟩:=HIDr.out HSTr.out HMUr.out x hx;omega
  ·obtain ⟨id,e,h⟩:=HIDt.out HSTt.out HMUt.out x hx;omega
 have hLL:(r.c++t.c).length≤400:=by rw [List.length_append];omega
 clear hne HS HX15 HO15 HIDr HIDt HSTr HMUr HNCr BEr BEt HNCt HX14 HX13 HO12;go_wp2_with fail;have k15:Keep NoS w15 (w15.alloc (.cells #[.slice oc10 r.c.length cc10,.slice oc13 t.c.length cc13] 38)):=(Keep.refl _ _).alloc _;refine(concat_any _ w15.heap.size _ _ r.c t.c (blk_at _ _ rfl) (HIr.out.keep k15) (HIt.out.keep k15) (by omega) (by omega)).mono ?_
 rintro e w16 ⟨v16,rfl,ho16,hk16⟩;have K16:=zh (k15.both hk16);obtain⟨L,hL⟩:∃L,r.c++t.c=L:=⟨_,rfl⟩;rw [hL]at ho16 HSM HEQ HNE hLL;have HIL:=zh (ho16.ints (fun x hx=>by have:=HSM.out x hx;unfold I64;omega))
 obtain⟨o16,c16,hv16⟩:=ho16.len;subst hv16;clear k15 hk16 ho16 hL HIr HIt HLr HLt;have HS16:=zh (HS15.out.keep K16.out);have T16:=zh (T15.out.trans (.of K16.out));clear HS15 T15 K16;go_wp2;go_loopw [158,20] (fun s u wr=>∃k:Nat,k≤L.length∧s= .int .i64 k∧OwnI wr w16.heap.size u (outF a b (L.take k) [])∧Keep NoS w16 wr∧(outF a b (L.take k) []).length≤k∧(∀x∈outF a b (L.take k) [],x∈L)) (fun s _ _=>(L.length-intOf s).toNat)
 case atStart=>exact⟨0,by omega,rfl,OwnI.nil _ _,Keep.refl _ _,by simp [outF],by simp [outF]⟩
 case round=>
  obtain⟨k',hk',rfl,hou,hkr,hol,hom⟩:=hrel;have KR:=zh hkr;have HOU:=zh hou;have HOM:=zh hom;obtain⟨ou,cu,hvu⟩:=hou.len;subst hvu;clear hou hkr hom
  by_cases hkl:k'<L.length
  case pos=>
   have hlt:(k':Int)<(L.length:Int):=by omega
   obtain⟨bl,ol,cl,hv,hbl,p0⟩:=HIL.out.at hkl
   injection hv with q1 q2 q3
   clear q2;subst q1;subst q3;have p0:=(KR.out.cell hbl).trans p0;have hblr:=Nat.lt_of_lt_of_le hbl KR.out.size;have HSUC:=zh (outF_succ a b L k' hkl []);have HML:=zh (List.getElem_mem hkl);have hxs:=HSM.out _ (List.getElem_mem hkl);have hx64:I64 L[k']:=by unfold I64;omega
   generalize L[k']=x at *;obtain⟨O,hO⟩:∃O,outF a b (L.take k') []=O:=⟨_,rfl⟩;rw [hO]at HOU HOM HSUC hol ⊢;clear hO
   by_cases hxa:x= -a
   case pos=>
    have HSU:Hid (outF a b (L.take (k'+1)) []=O):=zh (by rw [HSUC.out,if_neg (fun h=>h.1 hxa)])
    subst hxa;clear HSUC;go_wp2;go_roundw
    case rel=>exact⟨k'+1,by omega,by go_num,by rw [HSU.out];exact HOU.out,KR.out,by rw [HSU.out];omega,by rw [HSU.out];exact HOM.out⟩
    case measure=>simp [intOf];omega
   case neg=>
   have e1:(x != -a)=true:=by rw [bne_iff_ne];exact hxa
   by_cases hxb:x= -b
   case pos=>
    have HSU:Hid (outF a b (L.take (k'+1)) []=O):=zh (by rw [HSUC.out,if_neg (fun h=>h.2.1 hxb)])
    have e2:(x != -b)=false:=by rw [hxb];simp
    clear HSUC hxb hxa;go_wp2;go_roundw
    case rel=>exact⟨k'+1,by omega,by go_num,by rw [HSU.out];exact HOU.out,KR.out,by rw [HSU.out];omega,by rw [HSU.out];exact HOM.out⟩
    case measure=>simp [intOf];omega
   case neg=>
   have e2:(x != -b)=true:=by rw [bne_iff_ne];exact hxb
   have HOI:=zh (HOU.out.ints (fun y hy=>by have:=HSM.out y (HOM.out y hy);unfold I64;omega))
   have CC:=zh (fun w' (k':Keep NoS wr w')=>slContains_any w' _ _ x (HOI.out.keep k'))
   go_wp2_with fail;refine(CC.out _ kp).mono ?_;rintro e w17 ⟨rfl,hk17⟩;have k17:Keep NoS wr w17:=Keep.trans kp hk17 fun _ _ _ h=>h
   have K17:=zh (KR.out.both k17);have HO17:=zh (HOU.out.keep k17);clear hk17 k17 CC HOI p0
   by_cases hin:x∈O
   case pos=>
    have HSU:Hid (outF a b (L.take (k'+1)) []=O):=zh (by rw [HSUC.out,if_neg (fun h=>h.2.2 hin)])
    rw [decide_eq_true hin];clear HSUC hin hxa hxb;go_wp2;go_roundw
    case rel=>exact⟨k'+1,by omega,by go_num,by rw [HSU.out];exact HO17.out,K17.out,by rw [HSU.out];omega,by rw [HSU.out];exact HOM.out⟩
    case measure=>simp [intOf];omega
   case neg=>
    have HSU:Hid (outF a b (L.take (k'+1)) []=O++ [x]):=zh (by rw [HSUC.out,if_pos ⟨hxa,hxb,hin⟩])
    rw [decide_eq_false hin];clear HSUC hin hxa hxb;have ka:Keep NoS w17 (w17.alloc (.cells #[.int .i64 x] TI)):=(Keep.refl _ _).alloc _;have hko:=K17.out.both ka;obtain⟨v18,w18,hr18,ho18,hg18⟩:=app_ints (HO17.out.keep ka) (one_int w17 x hx64) (by simp only [List.length_singleton];omega) hko.size
    have K18:=zh (hko.grown hg18 fun k hk=>OwnI.block HO17.out k hk)
    have HO18:=zh ho18;clear ka hko ho18 hg18;go_wp2_with (at_builtin;refine wpList_app_run _ _ 38 _ _ rfl rfl rfl rfl hr18 ?_);go_roundw
    case rel=>exact⟨k'+1,by omega,by go_num,by rw [HSU.out];exact HO18.out,K18.out,by rw [HSU.out,List.length_append,List.length_singleton];omega,by
     rw [HSU.out];intro y hy
     rcases List.mem_append.1 hy with hy | hy
     ·exact HOM.out y hy
     ·rw [List.mem_singleton.1 hy];exact HML.out⟩
    case measure=>simp [intOf];omega
  case neg=>
   have hlt:¬(k':Int)<(L.length:Int):=by omega
   rw [List.take_of_length_le (by omega)]at HOU HOM hol ⊢
   obtain⟨O,hO⟩:∃O,outF a b L []=O:=⟨_,rfl⟩;rw [hO]at HOU HOM HEQ HNE hol ⊢;clear hO HIL;obtain⟨bo,co,hv,hbo1,hbo2,_⟩:=own_form HOU.out HNE.out
   injection hv with q1 q2 q3
   clear q2;subst q1;subst q3;have CSO:=zh (sortDown_any w16 wr bo cu O KR.out HOU.out (fun x hx=>by have:=HSM.out x (HOM.out x hx);omega) (by omega))
   have HSO:Hid (∀x∈sortD O,I64 x):=zh fun x hx=>by have:=HSM.out x (HOM.out x (mem_sortD.1 hx));unfold I64;omega
   have HSL:Hid ((sortD O).length=O.length):=zh (sortD_len O);clear hbo1 hbo2 HOU HOM HNE HSM;go_wp2_with fail;refine CSO.out.mono ?_;rintro e w19 ⟨rfl,ho19,hk19⟩;have HS19:=HS16.out.keep hk19;have T19:=zh (T16.out.trans (.of hk19));have HO19:Hid (OwnI w19 w0.heap.size (.slice (some ⟨bo,0,none⟩) O.length cu) (sortD O)):=zh (World.ownsRow_mono ho19 (show w0.heap.size≤w16.heap.size from by obtain⟨_,_,_,_,_,h⟩:=HS16.out;exact h.k.size))
   have CLN:=zh (fun w' (k':Keep NoS w19 w')=>slClone_any w' _ _ ((ho19.ints HSO.out).keep k') (by rw [HSL.out];omega))
   obtain⟨va9,vt9,vp9,xs9,ys9,hc19⟩:=HS19;obtain⟨⟨oa9,ca9,rfl⟩,⟨ot9,ct9,rfl⟩,op9,cp9,rfl⟩:=hc19.forms;obtain⟨t0,t1,t2,t3,t4,t5,t6,lS19⟩:=blk7C hc19.blk;have HC19:=zh hc19;have hbz:w0.heap.size≤w19.heap.size:=hc19.k.size;have hst9:t.s.steps.length≤7001:=by
    have h0:=HWt.out.phi;have h1:=HWr.out.phi;have h2:=HPH.out;have h3:=HP.out.lB;have h4:(s3F sB a b).steps.length=sB.steps.length+1:=by simp [s3F]
    have h5:(s3F sB a b).fuel=sB.fuel:=rfl;have h6:=HP.out.fB;unfold PhiOK at h2;omega
   clear ho19 hk19 CSO HS16 T16 KR hc19 t0 t1 t2 t3 t5 t6;go_upto_region 23 with fail
   refine wp_region_by (fun w'=>Keep NoS w19 w') [0,9,10,11,12] [([0,1,2,3,4,5],6),([7],8),([],9),([10,11],12)] [] (by kernel_rfl) (by kernel_rfl) kp ?_
   intro X W hne hF hcl;have HCL:=zh hcl;have z4:=fun x=>((hF x).cell lS19).trans t4
   have zl:=fun x=>Nat.lt_of_lt_of_le lS19 (hF x).size
   clear hF hcl t4;simp only [wpPlan,pickOps,zl0,zl1,zl2,clsOf,Bool.false_eq_true,if_false]
   (repeat(quiet_step (fail)));refine wpQuiet_nil ?_
   refine wpAt rfl rfl fun K hK=> ?_
   go_simp;refine(CLN.out _ (Keep.refl NoS w19).drew).mono ?_;rintro e w20 ⟨v20,rfl,ho20,hk20⟩;have k20:Keep NoS w19 w20:=(Keep.refl NoS w19).drew.both hk20;obtain⟨o20,c20,hv20⟩:=ho20.len;subst hv20;have HO20:Hid (OwnI w20 w0.heap.size (.slice o20 (sortD O).length c20) (sortD O)):=zh (World.ownsRow_mono ho20 hbz);refine hK _ _ ⟨fun _=>HCL.out _ k20,?_⟩
   clear hK CLN ho20 hk20
   (repeat(quiet_step (fail)));refine wpQuiet_nil ?_
   refine wpAt rfl rfl fun K hK=> ?_
   go_simp;have k21:Keep NoS w20 (w20.alloc (.cells #[.int .i64 1,.slice o20 (sortD O).length c20,.slice none 0 0,.int .i64 0,.int .i64 0,.int .i64 0,.slice none 0 0,.int .i64 0,.int .i64 0] TSt)):=(Keep.refl _ _).alloc _;refine hK _ _ ⟨fun _=>HCL.out _ (k20.both k21),?_⟩
   obtain⟨v22,w22,hr22,hv22,hc22,kt22,hb22,hg22⟩:=(HC19.out.keep (k20.both k21)).pushT (y:=⟨.slice o20 (sortD O).length c20,.slice none 0 0,.slice none 0 0,⟨1,sortD O,[],noRw⟩⟩) ⟨HO20.out.keep k21,OwnG.nil _ _,OwnI.nil _ _⟩ (b:=w20.heap.size) (blk_at _ _ rfl) (by omega)
   obtain⟨o22,c22,rfl⟩:=hv22;have HB22:Blk w22 bS #[.slice orr rows.length cr,.slice oi ints.length ci,.int .i64 (t.s.fuel:Int),.slice oa9 t.s.atoms.length ca9,.slice ot9 t.s.steps.length ct9,.slice op9 t.s.point.length cp9,.bool t.s.much]:=⟨_,hb22.trans (HC19.out.keep (k20.both k21)).b⟩;have g4:=HB22.cell 4;have g4f:=HB22.free 4;have gl:=HB22.lt;have HC22:=zh hc22;have T22:=zh ((T19.out.trans (.of (k20.both k21))).trans kt22);have HO22:=zh (kt22.ints (HO19.out.keep (k20.both k21)));clear hK hb22 hc22 kt22 hg22 k20 k21 HB22 HC19 T19 HO19 HO20
   (repeat(quiet_step (fail)));refine wpQuiet_nil ?_
   refine wpAt rfl rfl fun K hK=> ?_
   refine wp_app_run _ _ 26 _ _ rfl rfl rfl hr22 ?_;refine hK _ _ ⟨fun h=>(by simp at h),?_⟩
   clear hK hr22
   (repeat(quiet_step (fail)));refine wpQuiet_nil ?_
   refine wpAt rfl rfl fun K hK=> ?_
   go_simp;refine hK _ _ ⟨fun h=>(by simp at h),?_⟩
   clear hK
   (repeat(quiet_step (fail)));refine wpQuiet_nil ?_
   refine NoPanic.normal ?_;clear hne z4 zl HCL X W g4 g4f gl;generalize w22.setCell ⟨bS,4,none⟩ (.slice o22 (t.s.steps.length+1) c22)=wz at *;have HSE:Hid (IsS P w0 wz bS (.slice orr rows.length cr) (.slice oi ints.length ci) (endF t.s (sortD O)).s):=zh (IsS.weak ⟨_,_,_,_,_,HC22.out⟩ fun c hc=> .inl (.inl hc))
   have TE:Hid (KT P w wz):=zh ((KT.of K5.out).trans (T22.out.weak fun c hc=> .inl (.inl hc)))
   have HOE:Hid (OwnI wz w0.heap.size (.slice (some ⟨bo,0,none⟩) O.length cu) (endF t.s (sortD O)).c):=zh HO22.out;clear HC22 T22 HO22;go_simp
   repeat go_step
   refine bodyPost_ret (by simp [results,Tryz.results62,go_sem];rfl) rfl ?_
   rw [HEQ.out];exact⟨_,rfl,HOE.out,HSE.out,TE.out⟩
end Go.Proofs.YtaiffmebphhdaaaGreat
