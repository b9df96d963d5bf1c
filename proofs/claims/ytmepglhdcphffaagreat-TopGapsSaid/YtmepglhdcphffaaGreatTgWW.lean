/- Package solve: Do. For TopGaps. Picked; the solver where each atom is a row and stands in a clause of its own; solveSure. For TopGaps. -/
import Derived.Test.YtmepglhdcphffaaGreatTgV
namespace Go.Proofs.YtmepglhdcphffaaGreat
set_option maxRecDepth 100000
set_option maxHeartbeats 32000000
set_option linter.unusedSimpArgs false
set_option linter.unusedVariables false
open Go.ChangeShapes Go.WideShapes Go.RowKit Go.Maps
def Uq.OK (o:Uq):Prop:=(0≤o.a∧o.a≤1000)∧(0≤o.b∧o.b≤1000000)∧(0≤o.c∧o.c≤1000000)∧(0≤o.d∧o.d≤2)
structure Zk (f:GF)(ph:Uq)(fuel:Int)(s:zI)(ans:Cd.Ans)(u:Nat):Prop where
 cl:s.cls.length≤390
 sl:s.steps.length≤1000
 k:∀x∈s.steps,Ur f.atoms.length x
 h3:s.steps≠ []→∀a∈f.atoms,a.k=3
 us:(s.used:Int)<fuel
 uu:u≤2000
 a:(∃T,ans= .yes T u∧Sv.holdsT f.atoms.length T=List.replicate f.atoms.length true)∨ans= .no [[]] u
 cd:∀w' oc cc,fM w' (.slice oc s.cls.length cc) s.cls→Calls Tryz.prog 57 #[.agg #[.int .i64 (f.atoms.length:Int),.slice oc s.cls.length cc],.slice none 0 0,.agg #[.int .i64 ph.a,.int .i64 ph.b,.int .i64 ph.c,.int .i64 ph.d],.int .i64 (fuel-(s.used:Int))] w' (Rl f.atoms.length ans w')
def rG (f:GF):rP:=Vg (dI f.atoms) (List.replicate f.n false) 2000
theorem Nf (w0 w:World)(b:Nat)(L:jZ)(f:GF)(fuel:Int)(M:Fp)(s:zI)(ph:Uq)(ans:Cd.Ans)(u:Nat)(h:ug w0 w b L f fuel M s)(hF:qm w0 L f)(hok:rQ f)(hun:(∀a∈f.atoms,a.k=3)∨∀a∈f.atoms,a.k=1)(hf:fuel≤2000)(hI:Zk f ph fuel s ans u):
  Calls Tryz.prog 27 #[.pointer (some ⟨b,0,none⟩),.agg #[.int .i64 ph.a,.int .i64 ph.b,.int .i64 ph.c,.int .i64 ph.d]] w (Zl w0 w b L f fuel (RdD f (rG f) ans) (RdX f (rG f) s ans)):=
 Ng w0 w b L f fuel M s ph ans u h hF hok hun hI.cl hI.sl hI.k hI.h3 ⟨hI.us,hf⟩ hI.uu hI.a hI.cd
theorem zbl {f:GF}{r:rP}{a:Cd.Ans}{st:Int}(h:RdD f r a st):st≠0:=by
 rcases a with⟨T,u⟩ | ⟨l,u⟩ | u
 ·rcases h with h | h
  ·rw [h.1];decide
  rw [h.1];decide
 ·rcases h with h | h<;>(rw [h];decide)
 exact h.elim
def VdE (D:Int→Prop)(e:Ending):Prop:=∃V,D V∧∃(p1:Option Addr) (p2 p3:Nat) (q1:Option Addr) (q2 q3:Nat) (t1:Option Addr) (t2 t3:Nat) (r1:Option Addr) (r2 r3:Nat) (u:Int),e= .returned (.tuple #[.agg #[.int .i64 V,.slice p1 p2 p3,.slice q1 q2 q3,.slice t1 t2 t3,.slice r1 r2 r3,.int .i64 u],fa0])
def Vh (wA:World)(L:jZ)(f:GF)(b3:Nat)(fuel:Int)(S:Nat→Bool):Nat→Value→World→Prop
 | 0,v,_=>v= .agg #[.slice none 0 0,.slice L.oi f.n L.ci,.slice L.oa f.atoms.length L.ca,.slice L.oc f.cls.length L.cc]
 | 1,v,_=>v= .pointer (some ⟨b3,2,none⟩)
 | 2,v,_=>v= .slice L.oa f.atoms.length L.ca
 | 3,v,w=>∃oA cA,v= .slice oA f.atoms.length cA∧aO rD 6 Jo w wA.heap.size (.slice oA f.atoms.length cA) f.atoms
 | 4,v,w=>∃gm,v= .map (some gm)
 | 5,v,_=>v= .int .i64 fuel
 | 6,v,w=>∃oA cA gm,v= .agg #[.slice none 0 0,.slice L.oi f.n L.ci,.slice L.oa f.atoms.length L.ca,.slice L.oc f.cls.length L.cc,.slice oA f.atoms.length cA,.slice none 0 0,.slice none 0 0,.map (some gm),.int .i64 fuel,.int .i64 0]∧aO rD 6 Jo w wA.heap.size (.slice oA f.atoms.length cA) f.atoms
 | 7,v,w=>∃b oA cA gm,v= .pointer (some ⟨b,0,none⟩)∧wA.heap.size≤b∧w.heap[b]? =some (.cells (svC L f fuel ⟨oA,cA,none,0,none,0,gm⟩ ⟨[],[],0⟩) MQ (0,0))∧aO rD 6 Jo w wA.heap.size (.slice oA f.atoms.length cA) f.atoms
 | 8,v,w=>∃b oA cA gm,v= .pointer (some ⟨b,0,none⟩)∧wA.heap.size≤b∧w.heap[b]? =some (.cells (svC L f fuel ⟨oA,cA,none,0,none,0,gm⟩ ⟨[],[],0⟩) MQ (0,0))∧aO rD 6 Jo w wA.heap.size (.slice oA f.atoms.length cA) f.atoms
 | _,_,_=>True
theorem gU {wA:World}{L:jZ}{f:GF}{b3:Nat}{fuel:Int}{S:Nat→Bool}{w w':World}{e:Nat}(he:True)(k:Keep au w w'):∀(d:Nat) (v:Value),Vh wA L f b3 fuel S d v w→Vh wA L f b3 fuel (mark S e) d v w'
 | 0,v,h=>h
 | 1,v,h=>h
 | 2,v,h=>h
 | 3,v,h=>by
  obtain⟨oA,cA,e1,h1⟩:=h;exact⟨oA,cA,e1,aO.keep h1 k⟩
 | 4,v,h=>h
 | 5,v,h=>h
 | 6,v,h=>by
  obtain⟨oA,cA,gm,e1,h1⟩:=h;exact⟨oA,cA,gm,e1,aO.keep h1 k⟩
 | 7,v,h=>by
  obtain⟨b,oA,cA,gm,e1,h0,h1,h2⟩:=h;exact⟨b,oA,cA,gm,e1,h0,(k.block b (lt_of_heap h1) fun _ h=>h).trans h1,aO.keep h2 k⟩
 | 8,v,h=>by
  obtain⟨b,oA,cA,gm,e1,h0,h1,h2⟩:=h;exact⟨b,oA,cA,gm,e1,h0,(k.block b (lt_of_heap h1) fun _ h=>h).trans h1,aO.keep h2 k⟩
 | n+9,v,h=>trivial
theorem Co (w:World)(L:jZ)(f:GF)(ph:Uq)(fuel:Int)(k0:Nat)(I:Nat→zI→Prop)(D:Int→Prop)(hF:qm w L f)(hok:rQ f)(hun:(∀a∈f.atoms,a.k=3)∨∀a∈f.atoms,a.k=1)(Nh:ph.OK)(hfu:0≤fuel∧fuel≤2000)(h0:I k0 ⟨f.cls,[],0⟩)(hI:∀k s,I k s→∃j ans u,k=j+1∧Zk f ph fuel s ans u∧(∀st,RdD f (rG f) ans st→D st)∧∀s',RdX f (rG f) s ans s'→I j s'):
  Calls Tryz.prog 7 #[L.v f,.agg #[.int .i64 ph.a,.int .i64 ph.b,.int .i64 ph.c,.int .i64 ph.d],.int .i64 fuel] w fun e w'=>VdE D e∧Keep au w w':=by
 have HUN:=zh hun;have HF:=zh hF;have mg:=zh hok;have HI:=zh hI;have H0:=zh h0;have HFU:=zh hfu;have CFC:=zh (fun w' (k:Keep au w w')=>wU w' L f (hF.keep k) hok);have CO:=fun w'=>zh (Fu w' ph.a ph.b ph.c ph.d fuel Nh.1 Nh.2.1 Nh.2.2.1 Nh.2.2.2 hfu);obtain⟨w2,hw2⟩:∃w2:World,w2=(((w.alloc (.cells #[.slice none 0 0,.slice L.oi f.n L.ci,.slice L.oa f.atoms.length L.ca,.slice L.oc f.cls.length L.cc] Bv)).alloc (.cells #[.int .i64 ph.a,.int .i64 ph.b,.int .i64 ph.c,.int .i64 ph.d] TOp)).alloc (.cells #[.int .i64 0,.slice none 0 0,.slice none 0 0,.slice none 0 0,.slice none 0 0,.int .i64 0] Fv)).alloc (.cells #[.int .i64 0,.int .i64 0] iZ):=⟨_,rfl⟩;have K2:Hid (Keep au w w2):=zh (by rw [hw2];exact((((Keep.refl _ _).alloc _).alloc _).alloc _).alloc _);have B3:Hid (aL w2 w.heap.size #[.slice none 0 0,.slice L.oi f.n L.ci,.slice L.oa f.atoms.length L.ca,.slice L.oc f.cls.length L.cc]):=zh (by rw [hw2];exact aL.old (aL.old (aL.old (aN _ _ rfl) _) _) _);have B4:Hid (w2.heap[w.heap.size+1]? =some (.cells #[.int .i64 ph.a,.int .i64 ph.b,.int .i64 ph.c,.int .i64 ph.d] TOp (0,0))):=zh (by rw [hw2,heap_alloc_old _ _ _ sm,heap_alloc_old _ _ _ sm];exact aK _ _ _ sm);have B6:Hid (w2.heap[w.heap.size+1+1]? =some (.cells (YE 0 (.slice none 0 0) (.slice none 0 0) (.slice none 0 0) (.slice none 0 0) 0) Fv (0,0))):=zh (by rw [hw2,heap_alloc_old _ _ _ sm];exact aK _ _ _ sm);have B7:Hid (w2.heap[w.heap.size+1+1+1]? =some (.cells #[.int .i64 0,.int .i64 0] iZ (0,0))):=zh (by rw [hw2];exact aK _ _ _ sm);unfold jZ.v at CFC ⊢;clear hF hok hI h0 hfu Nh hun;go_enter Tryz.func7,Tryz.ntmps7;go_upto_region 1 with fail;rw [← hw2];clear hw2;obtain⟨b3,hb3⟩:∃b3,b3=w.heap.size:=⟨_,rfl⟩;rw [← hb3]at B3 B4 B6 B7 ⊢;have HG:=zh hb3;clear hb3;have x0:=B3.out.cell 0;have x1:=B3.out.cell 1;have x2:=B3.out.cell 2;have x3:=B3.out.cell 3;have xl:=B3.out.lt;simp at x0 x1 x2 x3;have CFC:=zh (CFC.out w2 K2.out);go_wp2_with fail;refine CFC.out.mono ?_;rintro e w3 ⟨rfl,hk3⟩;have K4:Hid (Keep au w2 (w3.alloc (.cells #[.int .i64 0,.int .i64 0] iZ))):=zh (hk3.alloc _);clear hk3 CFC x0 x1 x2 x3 xl;have o0:=(K4.out.cell (lt_of_heap B4.out)).trans (cell_of_heap (o:=0) B4.out rfl);have o1:=(K4.out.cell (lt_of_heap B4.out)).trans (cell_of_heap (o:=1) B4.out rfl);have o2:=(K4.out.cell (lt_of_heap B4.out)).trans (cell_of_heap (o:=2) B4.out rfl);have o3:=(K4.out.cell (lt_of_heap B4.out)).trans (cell_of_heap (o:=3) B4.out rfl);have ol:=bJ (lt_of_heap B4.out) K4.out.size;go_upto_region 4 with fail;generalize w3.alloc (.cells #[.int .i64 0,.int .i64 0] iZ)=w4 at *;go_wp2_with fail;refine(CO _).out.mono ?_;rintro e w5 ⟨rfl,hk5⟩;have K6:Hid (Keep au w2 (w5.alloc (.cells #[.int .i64 0,.int .i64 0] iZ))):=zh ((K4.out.both hk5).alloc _);clear hk5 CO o0 o1 o2 o3 ol;go_upto_region 7 with fail;obtain⟨wA,YF⟩:∃wA:World,wA=w5.alloc (.cells #[.int .i64 0,.int .i64 0] iZ):=⟨_,rfl⟩;rw [← YF]at K6 ⊢;clear YF K4;have HB3:Hid (wA.cell? ⟨b3,0,none⟩=some (.slice none 0 0)∧wA.cell? ⟨b3,1,none⟩=some (.slice L.oi f.n L.ci)∧wA.cell? ⟨b3,2,none⟩=some (.slice L.oa f.atoms.length L.ca)∧wA.cell? ⟨b3,3,none⟩=some (.slice L.oc f.cls.length L.cc)∧b3<wA.heap.size):=zh (by
  have hb:=B3.out.keep K6.out;exact⟨hb.cell 0,hb.cell 1,hb.cell 2,hb.cell 3,hb.lt⟩)
 have KA:=zh (K2.out.both K6.out);have CA:=zh (fun w' (k:Keep au wA w')=>Au w' (.slice L.oa f.atoms.length L.ca) f.atoms ((HF.out.keep (KA.out.both k)).a.srcG) (by have:=mg.out.n;omega));refine jo (fun w'=>Keep au wA w') (Vh wA L f b3 fuel) kr kr kr kr (Keep.refl _ _).drew _ (fun σ=>by
  show bP _ σ [0,1,2,3,4,5,6,7,8] _=_;simp only [bP,zl0,zl1,zl2,Act.put,List.setIfInBounds_toArray,List.set_cons_zero,List.set_cons_succ];rfl) ?_ ?_
 ·intro S σ w1 hC e he HK;have he:e<9:=he;have hC:Keep au wA w1:=hC;obtain rfl | rfl | rfl | rfl | rfl | rfl | rfl | rfl | rfl:e=0∨e=1∨e=2∨e=3∨e=4∨e=5∨e=6∨e=7∨e=8:=om
  ·obtain ⟨x0,x1,x2,x3,xl⟩:=HB3.out;have x0':=(hC.cell xl).trans x0;have x1':=(hC.cell xl).trans x1;have x2':=(hC.cell xl).trans x2;have x3':=(hC.cell xl).trans x3;have xl':=bJ xl hC.size;refine ay rfl rfl fun K hK=> ?_;go_simp;exact hK _ _ ⟨hC,fun d hd hs h=>gU trivial (Keep.refl _ _) d _ h,_,rfl,rfl⟩
  ·refine ay rfl rfl fun K hK=> ?_;go_simp;exact hK _ _ ⟨hC,fun d hd hs h=>gU trivial (Keep.refl _ _) d _ h,_,rfl,rfl⟩
  ·have h1:σ 1= .pointer (some ⟨b3,2,none⟩):=HK.post 1 kr;rw [h1];obtain⟨x0,x1,x2,x3,xl⟩:=HB3.out;have x0':=(hC.cell xl).trans x0;have x1':=(hC.cell xl).trans x1;have x2':=(hC.cell xl).trans x2;have x3':=(hC.cell xl).trans x3;have xl':=bJ xl hC.size;refine ay rfl rfl fun K hK=> ?_;go_simp;exact hK _ _ ⟨hC,fun d hd hs h=>gU trivial (Keep.refl _ _) d _ h,_,rfl,rfl⟩
  ·have h2:σ 2= .slice L.oa f.atoms.length L.ca:=HK.post 2 kr;rw [h2];refine ay rfl rfl fun K hK=> ?_;go_simp;refine(CA.out _ hC).mono ?_;rintro e w2 ⟨v2,rfl,ho2,hk2⟩;obtain⟨o2,c2,hv2,_⟩:=aO.len ho2;subst hv2;exact hK _ _ ⟨hC.both hk2,fun d hd hs h=>gU trivial (hk2) d _ h,_,rfl,⟨o2,c2,rfl,World.ownsRow_mono ho2 hC.size⟩⟩
  ·have hmk:(Instr.makeMap 77 none).run Tryz.prog w1= .ok (.map (some w1.heap.size)) (w1.alloc (.map #[] 0)):=rfl;refine ay rfl rfl fun K hK=> ?_;go_simp;exact hK _ _ ⟨hC.alloc _,fun d hd hs h=>gU trivial ((Keep.refl _ _).alloc _) d _ h,_,rfl,⟨_,rfl⟩⟩
  ·refine ay rfl rfl fun K hK=> ?_;go_simp;exact hK _ _ ⟨hC,fun d hd hs h=>gU trivial (Keep.refl _ _) d _ h,_,rfl,rfl⟩
  ·have h0:σ 0= .agg #[.slice none 0 0,.slice L.oi f.n L.ci,.slice L.oa f.atoms.length L.ca,.slice L.oc f.cls.length L.cc]:=HK.post 0 kr;rw [h0];obtain⟨oA,cA,e3,h3⟩:=HK.post 3 kr;rw [e3];obtain⟨gm,e4⟩:=HK.post 4 kr;rw [e4];have h5:σ 5= .int .i64 fuel:=HK.post 5 kr;rw [h5];refine ay rfl rfl fun K hK=> ?_;go_simp;exact hK _ _ ⟨hC,fun d hd hs h=>gU trivial (Keep.refl _ _) d _ h,_,rfl,⟨oA,cA,gm,rfl,h3⟩⟩
  ·obtain ⟨oA,cA,gm,e6,h6⟩:=HK.post 6 kr;rw [e6];refine ay rfl rfl fun K hK=> ?_;go_simp;exact hK _ _ ⟨hC.alloc _,fun d hd hs h=>gU trivial ((Keep.refl _ _).alloc _) d _ h,_,rfl,⟨w1.heap.size,oA,cA,gm,rfl,hC.size,aK _ _ _ rfl,aO.keep h6 ((Keep.refl _ _).alloc _)⟩⟩
  obtain⟨b,oA,cA,gm,e7,h71,h72,h73⟩:=HK.post 7 kr;rw [e7];refine ay rfl rfl fun K hK=> ?_;go_simp;exact hK _ _ ⟨hC,fun d hd hs h=>gU trivial (Keep.refl _ _) d _ h,_,rfl,⟨b,oA,cA,gm,rfl,h71,h72,h73⟩⟩
 intro S σ w9 hC hS hP;have hC:Keep au wA w9:=hC;obtain⟨b,oA,cA,gm,e8,g8,h8,o8⟩:∃b oA cA gm,σ 8= .pointer (some ⟨b,0,none⟩)∧wA.heap.size≤b∧w9.heap[b]? =some (.cells (svC L f fuel ⟨oA,cA,none,0,none,0,gm⟩ ⟨[],[],0⟩) MQ (0,0))∧aO rD 6 Jo w9 wA.heap.size (.slice oA f.atoms.length cA) f.atoms:=hP 8 (by show 8<9;omega);have MR:Hid (ug w w9 b L f fuel ⟨oA,cA,none,0,none,0,gm⟩ ⟨[],[],0⟩):=zh ⟨KA.out.both hC,Nat.le_trans KA.out.size g8,h8,World.ownsRow_mono o8 KA.out.size,lF.nil _ _,eZ.nil _ _⟩;have KC:=zh (K6.out.both hC);rw [e8];refine NoPanic.normal ?_;clear hC hS hP e8 g8 h8 o8 CA HB3;have EJ:=zh (B3.out.keep KC.out);have x3:w9.cell? ⟨b3,3,none⟩=some (.slice L.oc f.cls.length L.cc):=EJ.out.cell 3;have xl:=EJ.out.lt;have aY:=zh ((HF.out.keep MR.out.k).c);have hnc:f.cls.length≤400:=mg.out.c.n;have HCV:=zh mg.out.c.c;have hn20:=mg.out.n;obtain⟨nc,zbm⟩:∃nc,f.cls.length=nc:=⟨_,rfl⟩;have HNC:=zh zbm;rw [zbm]at x3 hnc aY;clear zbm;go_wp2;clear x3 xl;have CI:=zh (fun w' v x (hx:aR w' v x) (hl:x.length≤1000)=>wV w' v x hx.srcG om);go_loopw [40] (fun s wr=>∃(k:Nat) (M:Fp),k≤nc∧s= .int .i64 k∧ug w wr b L f fuel M ⟨f.cls.take k,[],0⟩∧iN w9 wr) (fun s _=>(nc-intOf s).toNat)
 case atStart=>exact⟨0,_,om,rfl,by rw [List.take_zero];exact MR.out,iN.refl _⟩
 obtain⟨k,M,hk,rfl,hsr,hfr⟩:=hrel;have qJ:=zh hsr;have FR:=zh hfr;clear hsr hfr;by_cases hkl:k<nc
 case pos=>
  have hlt:(k:Int)<(nc:Int):=om;have hkc:k<f.cls.length:=by rw [HNC.out];exact hkl
  have hform:=(HF.out.keep qJ.out.k).c;rw [HNC.out]at hform;obtain⟨bc,fc,ol,cl,hoc,hbc,p0,hin,hcl1,hcl2⟩:=hform.at hkc;rw [hoc];have hcv:=HCV.out _ (List.getElem_mem hkc);have zH:=zh hin;have G7:Hid (f.cls.take (k+1)=f.cls.take k++ [f.cls[k]]):=zh (List.take_succ_eq_append_getElem hkc);have zel:=zh hin.all;have hcl:=hcv.1.le;have htl:(f.cls.take k).length=k:=by rw [List.length_take];omega
  generalize f.cls[k]=c at *;clear hin hform hcv;go_upto_region 11 with fail;clear p0 hbc;obtain⟨y0,y1,y2,y3,y4,y5,y6,y7,y8,y9,yl⟩:=dR qJ.out.bk;simp only at y5;rw [htl]at y5;clear y0 y1 y2 y3 y4 y6 y7 y8 y9;refine aD (fun w'=>Keep au wr w') [0,8,9,10,11] [([0,1,2,3,4,5],6),([],7),([],8),([9,10],11)] [] kr kr (Keep.refl _ _).drew ?_;intro X W hne hF hcl';have zbn:=zh hcl';have u5:=fun x=>((hF x).cell yl).trans y5;have ul:=fun x=>bJ yl (hF x).size;clear hF hcl';simp only [aW,aJ,zl0,zl1,zl2,aX,Bool.false_eq_true,if_false]
  (repeat(quiet_step (fail)));refine wpQuiet_nil ?_
  refine ay rfl rfl fun K hK=> ?_;go_simp;refine(CI.out _ _ c (zH.out.keep ((Keep.refl au wr).drew)) om).mono ?_;rintro e w5 ⟨v5,rfl,ho5,hk5⟩;have k5:Keep au wr w5:=Keep.both (Keep.refl _ _).drew hk5;have hi5:=(Vi ho5).intsT zel.out;obtain⟨o5,c5,hv5,_⟩:=hi5.form;subst hv5;refine hK _ _ ⟨fun _=>zbn.out _ k5,?_⟩;clear hK hk5 ho5;have HI5:=zh hi5;clear hi5
  (repeat(quiet_step (fail)));refine wpQuiet_nil ?_
  refine ay rfl rfl fun K hK=> ?_;go_simp;have k6:Keep au w5 (w5.alloc (.cells #[.slice o5 c.length c5] Ch)):=(Keep.refl _ _).alloc _;refine hK _ _ ⟨fun _=>zbn.out _ (k5.both k6),?_⟩;obtain⟨oC,cC,w7,hr7,hs7,hf7,g5,f5,gl⟩:=((qJ.out.keep k5).keep k6).cls1 (bx:=w5.heap.size) (x:= .slice o5 c.length c5) (c:=c) (aN _ _ rfl) (HI5.out.keep k6) (by rw [htl];omega);simp only at hr7 g5 hs7;rw [htl]at hr7 g5 hs7;rw [← G7.out]at hs7;have Fw:=zh hs7;have F7:=zh ((FR.out.trans (iN.of (k5.both k6))).trans (by rw [htl]at hf7;exact hf7));clear hK k5 k6 zbn hs7 hf7 u5 ul y5 yl htl
  (repeat(quiet_step (fail)));refine wpQuiet_nil ?_
  refine ay rfl rfl fun K hK=> ?_;refine dn _ _ 27 _ _ rfl rfl rfl hr7 ?_;refine hK _ _ ⟨fun h=>(by simp at h),?_⟩;clear hK hr7
  (repeat(quiet_step (fail)));refine wpQuiet_nil ?_
  refine ay rfl rfl fun K hK=> ?_;go_simp;refine hK _ _ ⟨fun h=>(by simp at h),?_⟩;clear hK
  (repeat(quiet_step (fail)));refine wpQuiet_nil ?_
  refine NoPanic.normal ?_;go_wp2;go_roundw
  case rel=>exact⟨k+1,_,om,gn,Fw.out,F7.out⟩
  simp [intOf];omega
 have hlt:¬(k:Int)<(nc:Int):=om;obtain rfl:nc=k:=om;have HSE:Hid (ug w wr b L f fuel M ⟨f.cls,[],0⟩):=zh (by have:=qJ.out;rwa [List.take_of_length_le (by rw [HNC.out];exact Nat.le_refl _)]at this);obtain⟨wB,hwB⟩:∃W:World,W=wr:=⟨_,rfl⟩;subst hwB;clear qJ CI hk hkl;go_wp2;go_loopg [] k0 (fun gk wr=>∃M s,ug w wr b L f fuel M s∧I gk s∧iN w9 wr)
 case atStart=>exact⟨M,_,HSE.out,H0.out,FR.out⟩
 obtain⟨M2,s2,hs2,hi2,hfr2⟩:=hrel;obtain⟨j,ans,u0,rfl,hri,hD,hnx⟩:=HI.out gk s2 hi2;have lY:=zh hnx;have HD:=zh hD;have FR2:=zh hfr2;have CR:=zh (Nf w wr b L f fuel M2 s2 ph ans u0 hs2 HF.out mg.out HUN.out HFU.out.2 hri);have hb4:=hfr2.at' (b3+1) _ TOp ((KC.out.block (b3+1) (lt_of_heap B4.out) fun _ h=>h).trans B4.out) dc dc dc;have o0:=cell_of_heap (o:=0) hb4 rfl;have o1:=cell_of_heap (o:=1) hb4 rfl;have o2:=cell_of_heap (o:=2) hb4 rfl;have o3:=cell_of_heap (o:=3) hb4 rfl;have ol:=lt_of_heap hb4;clear hs2 hi2 hnx hD hfr2 hb4 hri;go_wp2_with fail;refine CR.out.mono ?_;rintro e w11 ⟨hk11,hfn11,hrd⟩;have K11:=zh hk11;have zcD:=zh (FR2.out.trans hfn11);clear hk11 hfn11 CR o0 o1 o2 o3 ol;rcases hrd with⟨V,hdV,oh,nh,ch,lb,p3,n3,c3,p5,n5,c5,os,cs,m0,l,u,rfl,hsrc,hlb,hst,hll,hm0,hl5⟩ | ⟨s',hx,rfl,M3,hs3⟩
 ·have hst0:=zbl hdV;have e1:(V != 0)=true:=by rw [bne_iff_ne];exact hst0
  have HDV:=zh (HD.out V hdV);clear hst0 hdV;have ka:Keep au w11 (w11.alloc (.cells #[.int .i64 V,.slice oh nh ch,.slice p3 n3 c3,.slice p5 n5 c5,.slice os l.length cs,.int .i64 u] Fv)):=(Keep.refl _ _).alloc _;have hbl:aL (w11.alloc (.cells #[.int .i64 V,.slice oh nh ch,.slice p3 n3 c3,.slice p5 n5 c5,.slice os l.length cs,.int .i64 u] Fv)) w11.heap.size (YE V (.slice oh nh ch) (.slice p3 n3 c3) (.slice p5 n5 c5) (.slice os l.length cs) u):=aN _ _ rfl;have CCP:=zh (JE _ V oh nh ch lb (lG (K:=1) hsrc ka) hlb p3 n3 c3 p5 n5 c5 os cs m0 l (hst.keep ka) hll hm0 hl5 u);have zbo:=zh (zcD.out.trans (iN.of ka));have Rm:=zh (K11.out.both ka);obtain⟨x0,x1,x2,x3,x4,x5,f0,f1,f2,f3,f4,f5,xl⟩:=fK hbl;clear ka hbl hsrc hlb hst hll hm0 hl5;generalize l.length=nl at *;go_upto_region 14 with fail;generalize w11.alloc (.cells #[.int .i64 V,.slice oh nh ch,.slice p3 n3 c3,.slice p5 n5 c5,.slice os nl cs,.int .i64 u] Fv)=w12 at *;generalize w11.heap.size=b13 at *;go_wp2_with fail;refine CCP.out.mono ?_;rintro e w13 ⟨⟨a1,a2,a3,a4,a5,a6,a7,a8,a9,a10,a11,a12,rfl⟩,hk13⟩;have zbp:=zbo.out.trans (iN.of hk13);have hb6:=zbp.at' (b3+1+1) _ Fv ((KC.out.block (b3+1+1) (lt_of_heap B6.out) fun _ h=>h).trans B6.out) dc dc dc;have hb7:=zbp.at' (b3+1+1+1) _ iZ ((KC.out.block (b3+1+1+1) (lt_of_heap B7.out) fun _ h=>h).trans B7.out) dc dc dc;have JF:=zh (Rm.out.both hk13);clear hk13 zbp CCP x0 x1 x2 x3 x4 x5 f0 f1 f2 f3 f4 f5 xl;obtain⟨x0,x1,x2,x3,x4,x5,f0,f1,f2,f3,f4,f5,xl⟩:=fK (⟨_,hb6⟩:aL _ _ _);obtain⟨y0,y1,g0,g1,yl⟩:=aL.two (⟨_,hb7⟩:aL _ _ _);clear hb6 hb7;go_wp2;refine bodyPost_ret (by simp [results,Tryz.results7,go_sem,x0,x1,x2,x3,x4,x5,y0,y1,xl,yl];rfl) rfl ?_;have hg:=HG.out;exact⟨⟨V,HDV.out,a1,a2,a3,a4,a5,a6,a7,a8,a9,a10,a11,a12,u,rfl⟩,keep2 (keep6 JF.out om _ _ _ _ _ _) om _ _⟩
 have HI3:=zh (lY.out s' hx);have ka:Keep au w11 (w11.alloc (.cells #[.int .i64 0,.slice none 0 0,.slice none 0 0,.slice none 0 0,.slice none 0 0,.int .i64 0] Fv)):=(Keep.refl _ _).alloc _;have Zm:=zh (hs3.keep ka);have zbo:=zh (zcD.out.trans (iN.of ka));clear hx ka hs3;go_wp2;go_roundg j
 case measure=>omega
 exact⟨M3,s',Zm.out,HI3.out,zbo.out⟩
theorem Ni (w:World)(x n:Int)(hx:dA x)(hn:0<n)(hn2:n≤2000):Calls Tryz.prog 5 #[.int .i64 x,.int .i64 n] w fun e w'=>∃r:Int,0≤r∧r<n∧e= .returned (.int .i64 r)∧w'=w:=by
 unfold dA at hx;have h1:x.tmod n<n∧ -n<x.tmod n:=by
  have a:=Int.tmod_lt_of_pos x hn;have b:=Int.lt_tmod_of_pos x hn;exact⟨a,b⟩
 have hz:¬n=0:=om;have HN:=zh hn;have HM:=zh h1;generalize hr:x.tmod n=r at*;by_cases h0:r<0
 ·have e1:¬r+n< -9223372036854775808:=om;go_enter Tryz.func5,Tryz.ntmps5;go_wp2;go_ret;exact⟨r+n,om,om,rfl,rfl⟩
 go_enter Tryz.func5,Tryz.ntmps5;go_wp2;go_ret;exact⟨r,om,om,rfl,rfl⟩
theorem Nj {n:Nat}{cls:List (List Int)}{ph fuel:Int}{used:Nat}(hok:Ar n cls)(Nh:0≤ph∧ph≤2)(hfu:(used:Int)<fuel∧fuel≤2000)(hU:∀t,Cd.runF (n+1) cls ⟨[],[]⟩=(t,-1)→∀v:Nat,1≤v→v≤n→(v:Int)∈t.lits∨ -(v:Int)∈t.lits)(w':World)(oc:Option Addr)(cc:Nat)(h:fM w' (.slice oc cls.length cc) cls):
  Calls Tryz.prog 57 #[.agg #[.int .i64 (n:Int),.slice oc cls.length cc],.slice none 0 0,.agg #[.int .i64 0,.int .i64 0,.int .i64 0,.int .i64 ph],.int .i64 (fuel-(used:Int))] w' (Rl n (Sv.doC n (ph==1) (fuel.toNat-used) cls) w'):=by
 have:=Vj n w' oc cc cls ph (fuel-(used:Int)) h hok Nh om hU;rwa [show(fuel-(used:Int)).toNat=fuel.toNat-used from om]at this
theorem JG (E:List Sv.En):(Sv.clsE E).length=E.length:=by unfold Sv.clsE;rw [List.length_map,Sv.places_len]
theorem zbq (E:List Sv.En)(hE:E.length≤20){X:List (List Int)}(hX:∀c∈X,lZ E.length c)(hl:X.length≤10):Ar E.length (Sv.clsE E++X):=by
 refine⟨om,by rw [List.length_append,JG];omega,fun c hc=> ?_⟩;have hv:lZ E.length c:=by
  rcases List.mem_append.1 hc with q | q
  ·exact Sv.clsE_ok E c q
  exact hX c q
 exact⟨hv,by have:=hv.le;omega⟩
theorem Vk (E:List Sv.En){X:List (List Int)}(hX:Cd.ClsOK E.length X):∀t,Cd.runF (E.length+1) (Sv.clsE E++X) ⟨[],[]⟩=(t,-1)→∀v:Nat,1≤v→v≤E.length→(v:Int)∈t.lits∨ -(v:Int)∈t.lits:=by
 intro t ht;have:=Sv.runs_in (E:=E) (X:=X) hX (by rw [ht]);rw [ht]at this;exact Sv.units_all this
def Fx (m:Nat):List Sv.En:=List.replicate m ⟨0,0,true⟩
theorem gV (m:Nat):(Fx m).length=m:=List.length_replicate
theorem zcE (m:Nat):((Fx m).map fun e=>e.s)=List.replicate m true:=by unfold Fx;rw [List.map_replicate]
theorem Nk (m:Nat){k:Int}(h1:0<k)(h2:k≤(m:Int)):k∈Sv.placesE (Fx m):=by
 obtain⟨i,rfl⟩:∃i:Nat,k=((i+1:Nat):Int):=⟨(k-1).toNat,om⟩;have hi:i<m:=om;have:=Sv.places_of (E:=Fx m) (i:=i) (by rw [gV];exact hi);have e:Sv.litE ((Fx m).getD i Sv.en0) i=((i+1:Nat):Int):=by
  unfold Fx Sv.litE;rw [dV,List.getElem?_replicate,if_pos hi];rfl
 rwa [e]at this
abbrev op0:Uq:=⟨0,0,0,0⟩
def IG (f:GF):Nat→zI→Prop
 | 2,s=>s=⟨f.cls,[],0⟩
 | 1,s=>(rG f).s.much=false∧(rG f).st=2∧∃ls ns y,zJ f.atoms.length ls ns∧y.st=⟨4,ls,ns,⟨[],0,0⟩⟩∧s=⟨f.cls++ [ls],[y],1⟩
 | _,_=>False
def DG (f:GF)(V:Int):Prop:=V=3∨(V=1∧(rG f).s.much=false∧(rG f).st=1)∨(V=2∧(rG f).s.much=false∧(rG f).st=2)
theorem Nl {m:Nat}{ls:List Int}{ns:List Fq}(h:zJ m ls ns):(ls.map Int.natAbs).Nodup∧∀k∈ls,k≠0∧k.natAbs≤m:=by
 refine⟨?_,fun k hk=> ?_⟩
 ·refine List.pairwise_map.2 (List.Pairwise.imp_of_mem (fun {a b} ha hb hab=> ?_) h.nd);have h1:=(h.rg a ha).1;have h2:=(h.rg b hb).1;simp only [ne_eq]at hab ⊢;omega
 have:=h.rg k hk;omega
theorem zcF (f:GF)(hm:f.atoms.length≤20)(h3:∀a∈f.atoms,a.k=3)(hc:f.cls=Sv.clsE (Fx f.atoms.length)):∀k s,IG f k s→∃j ans u,k=j+1∧Zk f op0 2000 s ans u∧(∀st,RdD f (rG f) ans st→DG f st)∧∀s',RdX f (rG f) s ans s'→IG f j s':=by
 have hl:(Sv.clsE (Fx f.atoms.length)).length=f.atoms.length:=by rw [JG,gV]
 have e0:((0:Int)==1)=false:=rfl;have e2:(2000:Int).toNat=2000:=rfl;intro k s h
 match k,h with
 | 2,h=>
  obtain rfl:s=⟨f.cls,[],0⟩:=h;obtain⟨T,h1,h2⟩:=Sv.doC_E1 (Fx f.atoms.length) false (2000-0) om;rw [gV,zcE]at h2;rw [gV]at h1;refine⟨1,.yes T 0,0,rfl,⟨by rw [hc,hl];omega,sm,fun x hx=>(by cases hx),fun h=>absurd rfl h,sm,om,.inl ⟨T,rfl,h2⟩,?_⟩,fun st hs=> ?_,fun s' hs=> ?_⟩
  ·have hcn:=zbq (Fx f.atoms.length) (by rw [gV];exact hm) (X:= []) (fun c hc=>by cases hc) sm;have hu:=Vk (Fx f.atoms.length) (X:= []) (fun c hc=>by cases hc);rw [List.append_nil,gV,←hc]at hcn;rw [List.append_nil,gV,←hc]at hu;have:=Nj (used:=0) (fuel:=2000) (ph:=0) hcn om sm hu;rw [e0,e2,hc,h1,←hc]at this;exact this
  ·rcases hs with⟨rfl,_⟩ | ⟨rfl,h5,h6⟩
   ·exact .inl rfl
   exact .inr (.inl ⟨rfl,h5,h6⟩)
  obtain⟨h5,h6,ls,ns,y,h7,h8,rfl⟩:=hs;exact⟨h5,h6,ls,ns,y,h7,h8,rfl⟩
 | 1,h=>
  obtain⟨h5,h6,ls,ns,y,h7,h8,rfl⟩:=h;have hv:=Nl h7;have h1:=Sv.doC_E2 (Fx f.atoms.length) false (2000-1) om (c:=ls) (by rw [gV];exact hv) (fun k hk=>Nk _ (by have:=h7.rg k hk;omega) (by have:=h7.rg k hk;omega));have hX:∀d∈ [ls],lZ (Fx f.atoms.length).length d:=fun d hd=>by rw [List.mem_singleton.1 hd,gV];exact hv
  refine⟨0,.no [[]] 1,1,rfl,⟨by rw [hc,List.length_append,hl];simp;omega,sm,fun x hx=> ?_,fun _=>h3,sm,om,.inr rfl,?_⟩,fun st hs=> ?_,fun s' hs=>hs.elim⟩
  ·obtain rfl:=List.mem_singleton.1 hx;refine⟨.inr ?_,by rw [h8];exact hv⟩;rw [h8];exact⟨rfl,h7.len.symm,h7.ok,fun l hl=>(h7.rg l hl).1⟩
  ·have hcn:=zbq (Fx f.atoms.length) (by rw [gV];exact hm) hX sm;have hu:=Vk (Fx f.atoms.length) hX;rw [gV,←hc]at hcn hu;rw [gV]at h1;have:=Nj (used:=1) (fuel:=2000) (ph:=0) hcn om sm hu;rw [e0,e2,hc,h1,←hc]at this;exact this
  rcases hs with rfl | rfl
  ·exact .inr (.inr ⟨rfl,h5,h6⟩)
  exact .inl rfl
theorem Nn (w:World)(L:jZ)(f:GF)(hF:qm w L f)(hok:rQ f)(h3:∀a∈f.atoms,a.k=3)(hc:f.cls=Sv.clsE (Fx f.atoms.length)):
  Calls Tryz.prog 7 #[L.v f,.agg #[.int .i64 0,.int .i64 0,.int .i64 0,.int .i64 0],.int .i64 2000] w fun e w'=>VdE (DG f) e∧Keep au w w':=
 Co w L f op0 2000 2 (IG f) (DG f) hF hok (.inl h3) ⟨sm,sm,sm,sm⟩ om rfl (zcF f hok.n h3 hc)
theorem zbr {f:GF}(hok:rQ f){x:Nat→Rat}(hx:∀r∈dI f.atoms,yh r f.n x):¬((rG f).s.much=false∧(rG f).st=2):=by
 rintro⟨h1,h2⟩;have:=vG hok.n12 (rows:=dI f.atoms) (by have:=mW f.atoms;have:=hok.n;omega) (uo hok.a);unfold rG at h1 h2;rcases this with h | ⟨-,-,h | ⟨h,-⟩ | ⟨-,-,h⟩⟩
 ·rw [h1]at h;cases h
 ·rw [h2]at h;exact absurd h dc
 ·rw [h2]at h;exact absurd h dc
 exact h x hx
theorem zcG {f:GF}(hok:rQ f)(hx:∀x:Nat→Rat,(∀r∈dI f.atoms,yh r f.n x)→False):¬((rG f).s.much=false∧(rG f).st=1):=by
 rintro⟨h1,h2⟩;have:=vG hok.n12 (rows:=dI f.atoms) (by have:=mW f.atoms;have:=hok.n;omega) (uo hok.a);unfold rG at h1 h2;rcases this with h | ⟨-,-,h | ⟨-,-,x,h⟩ | ⟨h,-⟩⟩
 ·rw [h1]at h;cases h
 ·rw [h2]at h;exact absurd h dc
 ·exact hx x h
 rw [h2]at h;exact absurd h dc
def frm1:GF:=⟨0,[⟨1,none,0,⟨[],0,0⟩⟩],[[1]]⟩
theorem run1:Cd.runF 2 [[1]] ⟨[],[]⟩=(⟨[1],[0]⟩,-1):=kr
theorem do1 (fuel:Nat)(hf:0<fuel):Sv.doC 1 false fuel [[1]]= .yes [1] 0:=by
 rw [Sv.doC_unit hf run1 (fun _ v h1 h2=> .inl (by(obtain rfl:v=1:=om);simp)),if_neg sm]
theorem Vl:(rG frm1).s.much=false∧(rG frm1).st=1:=⟨kr,kr⟩
def I1:Nat→zI→Prop
 | 1,s=>s=⟨[[1]],[],0⟩
 | _,_=>False
theorem cnf1:Ar 1 [[1]]:=⟨om,sm,fun c hc=>by
 obtain rfl:=List.mem_singleton.1 hc;exact⟨⟨sm,fun l hl=>by obtain rfl:=List.mem_singleton.1 hl;simp⟩,sm⟩⟩
theorem fm1:rQ frm1:=⟨by simp [frm1],by simp [frm1],fun a ha=>by
 obtain rfl:=List.mem_singleton.1 ha;exact .inl ⟨rfl,rfl⟩,cnf1⟩
theorem zcH:∀k s,I1 k s→∃j ans u,k=j+1∧Zk frm1 op0 2000 s ans u∧(∀st,RdD frm1 (rG frm1) ans st→st=1)∧∀s',RdX frm1 (rG frm1) s ans s'→I1 j s':=by
 intro k s h
 match k,h with
 | 1,h=>
  obtain rfl:s=⟨[[1]],[],0⟩:=h;have h1:=do1 (2000-0) om;have e0:((0:Int)==1)=false:=rfl;have e2:(2000:Int).toNat=2000:=rfl;refine⟨0,.yes [1] 0,0,rfl,⟨sm,sm,fun x hx=>(by cases hx),fun h=>absurd rfl h,sm,om,.inl ⟨[1],rfl,kr⟩,?_⟩,fun st hs=> ?_,fun s' hs=> ?_⟩
  ·have:=Nj (n:=1) (used:=0) (fuel:=2000) (ph:=0) cnf1 om sm fun t ht v h1 h2=>by
    rw [run1]at ht;injection ht with ht;rw [← ht];obtain rfl:v=1:=om;exact .inl sm
   rw [e0,e2,h1]at this;exact this
  ·rcases hs with⟨_,hn⟩ | ⟨h,_⟩
   ·exact absurd ⟨fun a ha=>by obtain rfl:=List.mem_singleton.1 ha;rfl,kr,Vl⟩ hn
   exact h
  obtain⟨_,h6,_⟩:=hs;rw [Vl.2]at h6;exact absurd h6 dc
theorem Vm (w:World):Calls Tryz.prog 9 #[] w fun e w'=>e= .returned (.bool true)∧Keep au w w':=by
 obtain⟨w2,hw2⟩:∃w2:World,w2=((w.alloc (.cells #[.int .i64 1,.int .i64 0,.int .i64 0,.slice none 0 0,.int .i64 0,.int .i64 0] rD)).alloc (.cells #[.int .i64 1] TI)).alloc (.cells #[.slice (some ⟨w.heap.size+1,0,none⟩) 1 1] Ch):=⟨_,rfl⟩;have K2:Hid (Keep au w w2):=zh (by rw [hw2];exact(((Keep.refl _ _).alloc _).alloc _).alloc _);have bA:w2.heap[w.heap.size]? =some (.cells #[.int .i64 1,.int .i64 0,.int .i64 0,.slice none 0 0,.int .i64 0,.int .i64 0] rD (0,0)):=by rw [hw2,heap_alloc_old _ _ _ (by simp;omega),heap_alloc_old _ _ _ sm];exact aK _ _ _ rfl
 have bI:w2.heap[w.heap.size+1]? =some (.cells #[.int .i64 1] TI (0,0)):=by rw [hw2,heap_alloc_old _ _ _ sm];exact aK _ _ _ sm
 have bL:w2.heap[w.heap.size+1+1]? =some (.cells #[.slice (some ⟨w.heap.size+1,0,none⟩) 1 1] Ch (0,0)):=by rw [hw2];exact aK _ _ _ sm
 have hF:qm w2 ⟨none,0,some ⟨w.heap.size,0,none⟩,1,some ⟨w.heap.size+1+1,0,none⟩,1⟩ frm1:=by
  refine⟨⟨none,0,rfl,Nat.le_refl _,by unfold maxLen;omega,fun h=>absurd rfl h⟩,⟨_,1,rfl,Nat.le_refl _,by unfold maxLen;omega,fun a ha=> ?_,fun _=>⟨w.heap.size,0,rfl,lt_of_heap bA,fun i a hi j u hj=> ?_⟩⟩,⟨_,1,rfl,Nat.le_refl _,by unfold maxLen;omega,fun _=>⟨w.heap.size+1+1,0,rfl,lt_of_heap bL,fun i c hi=> ?_⟩⟩⟩
  ·obtain rfl:=List.mem_singleton.1 ha;exact⟨⟨none,0,rfl,by unfold maxLen;simp,sm,fun h=>absurd rfl h⟩,Nat.le_refl _,by unfold maxLen;simp⟩
  ·have hi0:i=0:=by have:=(List.getElem?_eq_some_iff.1 hi).1;simp [frm1]at this;exact this
   subst hi0;simp [frm1]at hi;subst hi;refine cell_of_heap bA ?_;simpa [Jo]using hj
  have hi0:i=0:=by have:=(List.getElem?_eq_some_iff.1 hi).1;simp [frm1]at this;exact this
  subst hi0;simp [frm1]at hi;subst hi;refine⟨_,cell_of_heap (o:=0) bL rfl,⟨_,1,rfl,by simp [maxLen],fun x hx=>by obtain rfl:=List.mem_singleton.1 hx;unfold dA;omega,fun _=>⟨w.heap.size+1,0,rfl,lt_of_heap bI,fun i x hx=> ?_⟩⟩,⟨_,1,1,rfl,Nat.le_refl _,by unfold maxLen;omega⟩⟩;refine cell_of_heap bI ?_;rw [Nat.zero_add];have hi0:i=0:=by have:=(List.getElem?_eq_some_iff.1 hx).1;simp at this;exact this
  subst hi0;simp at hx;subst hx;rfl
 have CS:=zh (Co w2 ⟨none,0,some ⟨w.heap.size,0,none⟩,1,some ⟨w.heap.size+1+1,0,none⟩,1⟩ frm1 op0 2000 1 I1 (fun V=>V=1) hF fm1 (.inr fun a ha=>by obtain rfl:=List.mem_singleton.1 ha;rfl) ⟨sm,sm,sm,sm⟩ om rfl zcH);unfold jZ.v at CS;simp only [show frm1.n=0 from rfl,show frm1.atoms.length=1 from rfl,show frm1.cls.length=1 from rfl,op0]at CS;clear bA bI bL hF;go_enter Tryz.func9,Tryz.ntmps9;go_wp2_with fail;rw [← hw2];refine CS.out.mono ?_;rintro e w3 ⟨⟨V,rfl,p1,p2,p3,q1,q2,q3,t1,t2,t3,r1,r2,r3,u,rfl⟩,hk3⟩;unfold fa0;have K3:=zh (K2.out.both hk3);clear hw2 hk3 CS;go_wp2;go_ret;exact⟨rfl,(K3.out.alloc _).alloc _⟩
end Go.Proofs.YtmepglhdcphffaaGreat
