/- Package judge: step, Why, Take: weak contracts. For TopGaps. Package judge: Why, Take: weak contracts. For TopGaps. -/
import Derived.Test.YtmepglhdcphffaaGreatTgJJ
namespace Go.Proofs.YtmepglhdcphffaaGreat
set_option maxRecDepth 100000
set_option maxHeartbeats 16000000
set_option linter.unusedSimpArgs false
set_option linter.unusedVariables false
open Go.ChangeShapes Go.WideShapes Go.RowKit Go.Maps
structure JSG (w0 w:World)(b:Nat)(L:jZ)(f:GF)(cls:List (List Int)):Prop where
 k:Keep au w0 w
 s:w0.heap.size≤b
 m:∃ov cv,aL w b #[.slice none 0 0,.slice L.oi f.n L.ci,.slice L.oa f.atoms.length L.ca,.slice L.oc f.cls.length L.cc,.slice ov cls.length cv]∧je w0 w (.slice ov cls.length cv) cls∧∀k,(Value.slice ov cls.length cv).ownBlock=some k→k≠b
theorem JSG.keep {w0 w w':World}{b:Nat}{L:jZ}{f:GF}{cls:List (List Int)}(h:JSG w0 w b L f cls)(k:Keep au w w'):JSG w0 w' b L f cls:=by
 obtain⟨h1,h2,ov,cv,h3,h4,h5⟩:=h;exact⟨h1.both k,h2,ov,cv,h3.keep k,h4.keep k,h5⟩
structure Ur (m:Nat)(y:ji):Prop where
 k:y.st.kind=1∧y.st.nums= []∨y.st.kind=4∧y.st.nums.length=y.st.lits.length∧(∀g∈y.st.nums,bF g.N g.D)∧∀l∈y.st.lits,l<0
 v:lZ m y.st.lits
structure StG (w:World)(y:ji):Prop where
 l:aR w y.lv y.st.lits
 c:GU y.lv
 n:dM w y.nv y.st.nums
 rv:y.rv= .slice none 0 0
 r:y.st.row=⟨[],0,0⟩
theorem StG.keep {w w':World}{y:ji}(h:StG w y)(k:Keep au w w'):StG w' y:=⟨h.l.keep k,h.c,h.n.keep k,h.rv,h.r⟩
def zeG (w0:World)(b:Nat)(L:jZ)(f:GF)(cls:List (List Int))(lits:List Int)(e:Ending)(w':World):Prop:=
 ∃r:Bool,e= .returned (.bool r)∧Keep au w0 w'∧(r=true→JSG w0 w' b L f (cls++ [lits]))
theorem Oh (w0 w:World)(b:Nat)(L:jZ)(f:GF)(cls:List (List Int))(k:Int)(o:Option Addr)(c:Nat)(on:Option Addr)(nn cn:Nat)(lits:List Int)(nums:List Fq)(h:JSG w0 w b L f cls)(hf:qm w0 L f)(hok:rQ f)(hc:Cd.ClsOK f.atoms.length cls)(hv:aR w0 (.slice o lits.length c) lits)(hcap:lits.length≤c)(hcm:c≤maxLen)(hn:dM w0 (.slice on nn cn) nums)(hnn:nums.length=nn)(hlv:lZ f.atoms.length lits)(hk:k=1∧nn=0∨k=4∧nn=lits.length∧(∀g∈nums,bF g.N g.D)∧(∀l∈lits,l<0)∧∀a∈f.atoms,a.k=3)(hcl:cls.length≤100000):
  Calls Tryz.prog 48 #[.pointer (some ⟨b,0,none⟩),jsV k o lits.length c on nn cn] w fun e w'=>zeG w0 b L f cls lits e w':=by
 obtain⟨yB,hsb,ov,cv,hB,hO,hne⟩:=h;have hle:=hlv.le;have hn20:=hok.n;have b2:w.cell? ⟨b,2,none⟩=some (.slice L.oa f.atoms.length L.ca):=hB.cell 2;have CF:=zh (fun w' (k':Keep au w w')=>Ku w' b L.oa f.atoms.length L.ca k o c on nn cn lits (hk.imp (fun h=>h) (fun h=>h.1)) ((k'.cell hB.lt).trans b2) (bJ hB.lt k'.size) (hv.keep (yB.both k')) hcap hlv om);have CU:=zh (fun w' (k':Keep au w w')=>RO f.atoms.length w' ov cv cls _ lits ((hO.keep k').cls (yB.both k')) (hv.keep (yB.both k')) hc om hlv);have CR:=zh (fun(h4:nn=lits.length∧(∀g∈nums,bF g.N g.D)∧(∀l∈lits,l<0)∧∀a∈f.atoms,a.k=3) w' (k':Keep au w w')=>RV w' b L f (.slice ov cls.length cv) o c on cn lits.length lits nums (hB.keep k') (hf.keep (yB.both k')) hok h4.2.2.2 (hv.keep (yB.both k')) rfl (by have:=hn.keep (yB.both k');rwa [h4.1]at this) (by rw [hnn,h4.1]) h4.2.1 (fun l hl=>⟨h4.2.2.1 l hl,(hlv.2 l hl).2⟩) om);have HVC:Hid (aR w0 (.slice o lits.length c) lits∧GU (.slice o lits.length c)):=zh ⟨hv,o,_,c,rfl,hcap,hcm⟩;have WG:=zh hcl;have Uv:=zh hsb;have kZ:=zh hne;have HO0:=zh hO;have HB0:=zh hB;have K0:=zh yB;have HK:=zh hk;obtain⟨w2,hw2⟩:∃w2:World,w2=w.alloc (.cells (EL k o lits.length c on nn cn) jc):=⟨_,rfl⟩;have K2:Hid (Keep au w w2):=zh (by rw [hw2];exact(Keep.refl _ _).alloc _);have B1:Hid (aL w2 w.heap.size (EL k o lits.length c on nn cn)):=zh (by rw [hw2];exact aN _ _ rfl);generalize Sv.fallsF f.atoms.length cls lits=rf at *;unfold EL at hw2;unfold jsV at *;clear hf hok hc hv hcap hcm hlv hcl hsb hne hO hB yB b2 hle hn20 hn hnn hk;obtain⟨m,hm⟩:∃m,lits.length=m:=⟨_,rfl⟩;rw [hm]at CF CU CR B1 hw2 HVC ⊢;have HM:=zh hm;clear hm;have e9:k=1∨k=4∧nn=m:=HK.out.imp (fun h=>h.1) (fun h=>⟨h.1,by rw [h.2.1,HM.out]⟩);rcases e9 with rfl | ⟨rfl,h4⟩;rotate_left;have h4:=h4.symm;subst h4;rotate_left
 all_goals
  go_enter Tryz.func48,Tryz.ntmps48;go_upto_region 1 with fail;rw [← hw2];clear hw2;generalize w.heap.size=g at *;obtain⟨x0,x1,x2,x3,x4,x5,x6,x7,x8,xl⟩:=iT B1.out;have CF:=zh (CF.out w2 K2.out);go_wp2_with fail;refine CF.out.mono ?_;rintro e w3 ⟨rfl,hk3⟩;have K3:Hid (Keep au w w3):=zh (K2.out.both hk3);obtain⟨x0,x1,x2,x3,x4,x5,x6,x7,x8,xl⟩:=iT (B1.out.keep hk3);have B3:=zh (B1.out.keep hk3);have bb4:w3.cell? ⟨b,4,none⟩=some (.slice ov cls.length cv):=(HB0.out.keep K3.out).cell 4;have bbl:=(HB0.out.keep K3.out).lt;clear hk3 CF
 focus
  go_upto_region 6 with fail;refine aD (fun w'=>Keep au w3 w') [] [([0,1,2,3,4,5],6)] [7] kr kr (Keep.refl _ _).drew ?_;intro X W hne hF hcl;have aY:=zh hcl;have z4:=fun x=>((hF x).cell bbl).trans bb4;have z1:=fun x=>((hF x).cell xl).trans x1;have zl:=fun x=>bJ bbl (hF x).size;have zm:=fun x=>bJ xl (hF x).size;clear hF hcl;simp only [aW,aJ,zl0,zl1,zl2,aX,Bool.false_eq_true,if_false]
  (repeat(quiet_step (fail)));refine wpQuiet_nil ?_
  refine ay rfl rfl fun K hK=> ?_;go_simp;refine(CU.out _ (K3.out.both (Keep.refl _ _).drew)).mono ?_;rintro e w4 ⟨rfl,hk⟩;have k4:Keep au w3 w4:=Keep.both (Keep.refl _ _).drew hk;refine hK _ _ ⟨fun _=>aY.out _ k4,?_⟩;clear hK K hk
  (repeat(quiet_step (fail)));refine wpQuiet_nil ?_
  refine NoPanic.normal ?_;have KW:=zh (K3.out.both k4);have B4:=zh (B3.out.keep k4);clear k4 z4 z1 zl zm aY x0 x1 x2 x3 x4 x5 x6 x7 x8 xl bb4 bbl CU CR hne B3;go_upto_region 24 with fail
 rotate_left
 focus
  have CR:=zh (CR.out (HK.out.elim (fun h=>absurd h.1 dc) fun h=>⟨by first | trivial | rfl,h.2.2⟩) w3 K3.out);go_wp2_with fail;refine CR.out.mono ?_;rintro e w4 ⟨⟨rf,rfl⟩,hk⟩;have KW:=zh (K3.out.both hk);have B4:=zh (B3.out.keep hk);clear hk x0 x1 x2 x3 x4 x5 x6 x7 x8 xl bb4 bbl CU CR B3;go_upto_region 24 with fail
 all_goals
  have HO:=zh (HO0.out.keep KW.out);have HB:=zh (HB0.out.keep KW.out);have K4:=zh (K0.out.both KW.out);obtain⟨x0,x1,x2,x3,x4,x5,x6,x7,x8,xl⟩:=iT B4.out;have b4:w4.cell? ⟨b,4,none⟩=some (.slice ov cls.length cv):=HB.out.cell 4;have bl:=HB.out.lt;have zeH:=zh bl;clear KW B4 K0 HO0 HB0 K3 K2 B1;cases rf
  case false=>
   go_wp2;go_ret;exact⟨false,rfl,K4.out,fun h=>by cases h⟩
  go_upto_region 25 with fail;refine aD (fun w'=>Keep au w4 w') [0,8,9,10,11] [([0,1,2,3,4,5,6],7),([],8),([9,10],11)] [] kr kr (Keep.refl _ _).drew ?_;intro X W hne hF hcl;have aY:=zh hcl;have z4:=fun x=>((hF x).cell bl).trans b4;have z1:=fun x=>((hF x).cell xl).trans x1;have zl:=fun x=>bJ bl (hF x).size;have zm:=fun x=>bJ xl (hF x).size;clear hF hcl;simp only [aW,aJ,zl0,zl1,zl2,aX,Bool.false_eq_true,if_false]
  (repeat(quiet_step (fail)));refine wpQuiet_nil ?_
  refine ay rfl rfl fun K hK=> ?_;go_simp;have HKD:=zh (show Keep au w4 (w4.alloc (.cells #[.slice o m c] Ch)).drew from((Keep.refl _ _).alloc _).drew);refine hK _ _ ⟨fun _=>aY.out _ HKD.out,?_⟩;have k5:=HKD.out;have ho5:=HO.out.keep k5;obtain⟨v6,w6,hr6,ho6,hg6,hb6⟩:=ho5.app (b:=w4.heap.size) (c:=lits) (aL.keep (aN _ _ rfl) (Keep.refl _ _).drew) HVC.out.1 HVC.out.2 WG.out (K4.out.both k5).size;obtain⟨o6,c6,hs6,_⟩:=ho6.len;have vW:aL w6 b #[.slice none 0 0,.slice L.oi f.n L.ci,.slice L.oa f.atoms.length L.ca,.slice L.oc f.cls.length L.cc,.slice ov cls.length cv]:=by
   obtain⟨tt,htt⟩:=HB.out.keep k5;exact⟨tt,(hg6.block b (lt_of_heap htt) fun e=>kZ.out _ e.symm rfl).trans htt⟩
  have hne6:∀k,v6.ownBlock=some k→k≠b:=by
   intro k hk;rcases hb6 with h | h
   ·exact kZ.out k (h ▸ hk)
   rw [h]at hk;have:=k5.size;have:=zeH.out;injection hk with hk;omega
  have K6:Keep au w0 w6:=(K4.out.both k5).grown hg6 fun kk hh=>(ho5.block kk hh).1;have HJ:Hid (JSG w0 (w6.setCell ⟨b,4,none⟩ (.slice o6 (cls++ [lits]).length c6)) b L f (cls++ [lits])):=zh (by
   subst hs6;refine⟨K6.setCell _ fun hh=>absurd hh (by have:=Uv.out;omega),Uv.out,o6,c6,vW.set 4 _,?_,hne6⟩;obtain⟨vs,h1,h2,h3⟩:=ho6;exact⟨vs,h1,World.ownsRow_set_other h2 hne6,h3⟩)
  subst hs6;rw [List.length_append,List.length_singleton]at HJ hr6;have f4:=vW.free 4;have g4:=vW.cell 4;have gl:=vW.lt;clear hK k5 ho5 ho6 vW hne6 K6 aY hg6 hb6 HKD;simp at g4
  (repeat(quiet_step (fail)));refine wpQuiet_nil ?_
  refine ay rfl rfl fun K hK=> ?_;refine dn _ _ 27 _ _ rfl rfl rfl hr6 ?_;refine hK _ _ ⟨fun h=>(by simp at h),?_⟩;clear hK hr6
  (repeat(quiet_step (fail)));refine wpQuiet_nil ?_
  refine ay rfl rfl fun K hK=> ?_;go_simp;refine hK _ _ ⟨fun h=>(by simp at h),?_⟩;clear hK
  (repeat(quiet_step (fail)));refine wpQuiet_nil ?_
  refine NoPanic.normal ?_;go_wp2;go_ret;exact⟨true,rfl,HJ.out.k,fun _=>HJ.out⟩
def mh (w:World)(v:Value)(l:List ji):Prop:=
 ∃oa cap,v= .slice oa l.length cap∧l.length≤cap∧cap≤maxLen∧(∀y∈l,StG w y)∧(l≠ []→∃b o,oa=some ⟨b,o,none⟩∧b<w.heap.size∧∀i y,l[i]? =some y→∀j u,(zN y)[j]? =some u→w.cell? ⟨b,o+i*9+j,none⟩=some u)
theorem mh.len {w:World}{v:Value}{l:List ji}(h:mh w v l):∃oa cap,v= .slice oa l.length cap∧l.length≤cap∧cap≤maxLen:=by
 obtain⟨oa,cap,h1,h2,h3,_⟩:=h;exact⟨oa,cap,h1,h2,h3⟩
theorem mh.mem {w:World}{v:Value}{l:List ji}(h:mh w v l):∀y∈l,StG w y:=by
 obtain⟨_,_,_,_,_,hg,_⟩:=h;exact hg
theorem mh.keep {w w':World}{v:Value}{l:List ji}(h:mh w v l)(k:Keep au w w'):mh w' v l:=by
 obtain⟨oa,cap,h1,h2,h3,hg,h4⟩:=h;refine⟨oa,cap,h1,h2,h3,fun y hy=>(hg y hy).keep k,fun hne=> ?_⟩;obtain⟨b,o,e,hb,hc⟩:=h4 hne;exact⟨b,o,e,bJ hb k.size,fun i y hi j u hj=>(k.cell hb).trans (hc i y hi j u hj)⟩
theorem zbN {m:Nat}{y:ji}(h:Ur m y):akC y.st.kind=0:=by
 unfold akC;rcases h.k with⟨h,_⟩ | ⟨h,_⟩<;>rw [h]<;>rfl
theorem mh.at {w:World}{oa:Option Addr}{n cap m:Nat}{l:List ji}(h:mh w (.slice oa n cap) l){k:Nat}(hk:k<l.length)(hp:Ur m l[k]):
  ∃b o ol cl on cn,oa=some ⟨b,o,none⟩∧b<w.heap.size∧l[k].lv= .slice ol l[k].st.lits.length cl∧l[k].nv= .slice on l[k].st.nums.length cn∧l[k].st.lits.length≤cl∧cl≤maxLen∧w.cell? ⟨b,o+k*9,none⟩=some (.int .i64 l[k].st.kind)∧w.cell? ⟨b,o+k*9+1,none⟩=some (.slice ol l[k].st.lits.length cl)∧w.cell? ⟨b,o+k*9+2,none⟩=some (.slice on l[k].st.nums.length cn)∧w.cell? ⟨b,o+k*9+3,none⟩=some (.int .i64 0)∧w.cell? ⟨b,o+k*9+4,none⟩=some (.int .i64 0)∧w.cell? ⟨b,o+k*9+5,none⟩=some (.int .i64 0)∧w.cell? ⟨b,o+k*9+6,none⟩=some (.slice none 0 0)∧w.cell? ⟨b,o+k*9+7,none⟩=some (.int .i64 0)∧w.cell? ⟨b,o+k*9+8,none⟩=some (.int .i64 0):=by
 have hm:=h.mem _ (List.getElem_mem hk);obtain⟨MP,cap',hv,_,_,_,h4⟩:=h;cases hv;obtain⟨b,o,e,hb,hc⟩:=h4 (by rintro rfl;simp at hk);have hx:=hc k l[k] (by simp [hk]);obtain⟨ol,cl,hl,_⟩:=hm.l.len;obtain⟨on,cn,hn,_⟩:=hm.n.len;obtain⟨q1,q2,q3,e1,e2,e3⟩:=hm.c;rw [hl]at e1;injection e1 with r1 r2 r3;have h3:=hx 3 _ rfl;have h6:=hx 6 _ rfl;have h7:=hx 7 _ rfl;have h8:=hx 8 _ rfl;have h1:=hx 1 _ rfl;have h2:=hx 2 _ rfl;rw [zbN hp]at h3;rw [hm.rv]at h6;rw [hm.r]at h7 h8;rw [hl]at h1;rw [hn]at h2;exact⟨b,o,ol,cl,on,cn,e,hb,hl,hn,by rw [r2,r3];exact e2,by rw [r3];exact e3,hx 0 _ rfl,h1,h2,h3,hx 4 _ rfl,hx 5 _ rfl,h6,h7,h8⟩
def xH (y:ji):List Int:=y.st.lits
theorem Oi {n:Nat}{cls:List (List Int)}{l:List ji}(hc:Cd.ClsOK n cls)(hl:∀x∈l,Ur n x)(k:Nat):Cd.ClsOK n (cls++(l.take k).map xH):=by
 intro c hm;rcases List.mem_append.1 hm with h | h
 ·exact hc c h
 obtain⟨x,hx,rfl⟩:=List.mem_map.1 h;exact(hl x (List.mem_of_mem_take hx)).v
theorem cfw1 (a:Array Value)(w:World):Sem.run Tryz.prog (callFunc 50 a) w= .ok (.enter 50 a) w:=kr
theorem RX (w:World)(v:Value)(c:List Int)(h:aR w v c):Calls Tryz.prog 50 #[v] w fun e w'=>e= .returned (.bool c.isEmpty)∧Keep au w w':=by
 obtain⟨o,cc,rfl,_⟩:=h.len;have e1:c.isEmpty=decide (c.length=0):=by cases c<;>simp
 rw [e1];generalize c.length=n at *;clear h e1;go_enter Tryz.func50,Tryz.ntmps50;go_wp2;go_ret;exact⟨congrArg (fun b:Bool=>Ending.returned (.bool b)) (by rw [Bool.eq_iff_iff];simp),kp⟩
def zeI (e:Ending):Prop:=∃z:Int,e= .returned (.tuple #[.int .i64 z,.agg #[.int .i64 0,.int .i64 0]])
theorem RY (w:World)(L:jZ)(f:GF)(v:Value)(l:List ji)(hf:qm w L f)(hok:rQ f)(h3:(∃y∈l,y.st.kind=4)→∀a∈f.atoms,a.k=3)(hv:mh w v l)(hs:∀x∈l,Ur f.atoms.length x)(hcl:f.cls.length+l.length≤100000)(hln:l.length≤3000):
  Calls Tryz.prog 19 #[L.v f,v] w fun e w'=>zeI e∧Keep au w w':=by
 obtain⟨os,cs,rfl,_⟩:=hv.len;have CC:=zh (fun w' (k:Keep au w w')=>wU w' L f (hf.keep k) hok);have HF:=zh hf;have mg:=zh hok;have HV:=zh hv;have H3:=zh h3;have HS:=zh hs;have zc3:=zh hcl;have HLN:=zh hln;have h3000:¬3000<(l.length:Int):=om;obtain⟨w2,hw2⟩:∃w2:World,w2=(w.alloc (.cells #[.slice none 0 0,.slice L.oi f.n L.ci,.slice L.oa f.atoms.length L.ca,.slice L.oc f.cls.length L.cc] Bv)).alloc (.cells #[.int .i64 0,.int .i64 0] iZ):=⟨_,rfl⟩;have K2:Hid (Keep au w w2):=zh (by rw [hw2];exact((Keep.refl _ _).alloc _).alloc _);have B1:Hid (aL w2 w.heap.size #[.slice none 0 0,.slice L.oi f.n L.ci,.slice L.oa f.atoms.length L.ca,.slice L.oc f.cls.length L.cc]):=zh (by rw [hw2];exact aL.old (aN _ _ rfl) _);have B2:Hid (aL w2 (w.heap.size+1) #[.int .i64 0,.int .i64 0]):=zh (by rw [hw2];exact aN _ _ sm);have HG:=zh (Nat.le_refl w.heap.size);unfold jZ.v at CC ⊢;clear hf hok hv hs hcl hln h3;go_enter Tryz.func19,Tryz.ntmps19;go_upto_region 1 with fail;rw [← hw2];clear hw2;generalize hg1:w.heap.size=g1 at *;have mE:=zh hg1;clear hg1;have x0:=B1.out.cell 0;have x1:=B1.out.cell 1;have x2:=B1.out.cell 2;have x3:=B1.out.cell 3;have xl:=B1.out.lt;simp at x0 x1 x2 x3;have CC:=zh (CC.out w2 K2.out);go_wp2_with fail;refine CC.out.mono ?_;rintro e w3 ⟨rfl,hk3⟩;have K4:Hid (Keep au w2 (w3.alloc (.cells #[.int .i64 0,.int .i64 0] iZ))):=zh (Keep.both hk3 ((Keep.refl _ _).alloc _));have ZN:=zh (B1.out.keep K4.out);have x0:=ZN.out.cell 0;have x1:=ZN.out.cell 1;have x2:=ZN.out.cell 2;have x3:=ZN.out.cell 3;have xl:=ZN.out.lt;simp at x0 x1 x2 x3;clear hk3 CC B1;go_upto_region 6 with fail;generalize w3.alloc (.cells #[.int .i64 0,.int .i64 0] iZ)=w4 at *;have K24:Hid (Keep au w w4):=zh (K2.out.both K4.out);have CL:=zh (fun w' (k:Keep au w4 w')=>MZ w4 w' L.oc L.cc f.cls (HF.out.c.keep K24.out) k (by have:=zc3.out;omega));refine aD (fun w'=>Keep au w4 w') [] [([0,1,2],3),([4],5)] [6] kr kr (Keep.refl _ _).drew ?_;intro X W hne hF hcl;have aY:=zh hcl;have z0:=fun x=>((hF x).cell xl).trans x0;have z1:=fun x=>((hF x).cell xl).trans x1;have z2:=fun x=>((hF x).cell xl).trans x2;have z3:=fun x=>((hF x).cell xl).trans x3;have zl:=fun x=>bJ xl (hF x).size;clear hF hcl;simp only [aW,aJ,zl0,zl1,zl2,aX,Bool.false_eq_true,if_false]
 (repeat(quiet_step (fail)));refine wpQuiet_nil ?_
 refine ay rfl rfl fun K hK=> ?_;go_simp;refine(CL.out _ (Keep.refl _ _).drew).mono ?_;rintro e w5 ⟨ov,cv,rfl,ho5,hk5⟩;have k5:Keep au w4 w5:=Keep.both (Keep.refl _ _).drew hk5;refine hK _ _ ⟨fun _=>aY.out _ k5,?_⟩;clear hK K hk5
 (repeat(quiet_step (fail)));refine wpQuiet_nil ?_
 refine ay rfl rfl fun K hK=> ?_;go_simp;have k6:Keep au w4 (w5.alloc (.cells #[.slice none 0 0,.slice L.oi f.n L.ci,.slice L.oa f.atoms.length L.ca,.slice L.oc f.cls.length L.cc,.slice ov f.cls.length cv] TSj)):=k5.alloc _;refine hK _ _ ⟨fun _=>aY.out _ k6,?_⟩;clear hK K
 (repeat(quiet_step (fail)));refine wpQuiet_nil ?_
 refine NoPanic.normal ?_;have HJ0:Hid (JSG w4 (w5.alloc (.cells #[.slice none 0 0,.slice L.oi f.n L.ci,.slice L.oa f.atoms.length L.ca,.slice L.oc f.cls.length L.cc,.slice ov f.cls.length cv] TSj)) w5.heap.size L f f.cls):=zh ⟨k6,k5.size,ov,cv,aN _ _ rfl,ho5.keep ((Keep.refl _ _).alloc _),fun q hq=>by have:=(ho5.block q hq).2;omega⟩;have BF:=zh (B2.out.keep K4.out);clear k5 k6 ho5 aY CL z0 z1 z2 z3 zl x0 x1 x2 x3 xl;generalize w5.alloc (.cells #[.slice none 0 0,.slice L.oi f.n L.ci,.slice L.oa f.atoms.length L.ca,.slice L.oc f.cls.length L.cc,.slice ov f.cls.length cv] TSj)=w6 at *;generalize w5.heap.size=bS at *;go_wp2;go_loopw [28] (fun s wr=>∃k:Nat,k≤l.length∧s= .int .i64 k∧JSG w4 wr bS L f (f.cls++(l.take k).map xH)) (fun s _=>(l.length-intOf s).toNat)
 case atStart=>exact⟨0,om,rfl,by simpa using HJ0.out⟩
 obtain⟨k,hk,rfl,hJ⟩:=hrel;have HJ:=zh hJ;have dH:=zh hJ.k;clear hJ HJ0;by_cases hkl:k<l.length
 case pos=>
  have hlt:(k:Int)<(l.length:Int):=om;have HST:=HS.out l[k] (List.getElem_mem hkl);have hV4:=HV.out.keep K24.out;obtain⟨lb,lo,ol,cl,on,cn,hv,hbl,hlv,hnv,hcap,hcm,p0,p1,p2,p3,p4,p5,p6,p7,p8⟩:=(hV4.keep dH.out).at hkl HST;subst hv;have hSG:=hV4.mem _ (List.getElem_mem hkl);have hI:=hSG.l;have hN:=hSG.n;rw [hlv]at hI;rw [hnv]at hN;have hk9:l[k].st.kind=1∧l[k].st.nums.length=0∨l[k].st.kind=4∧l[k].st.nums.length=l[k].st.lits.length∧(∀g∈l[k].st.nums,bF g.N g.D)∧(∀x∈l[k].st.lits,x<0)∧∀a∈f.atoms,a.k=3:=by
   rcases HST.k with⟨h1,h2⟩ | ⟨h1,h2,h4,h5⟩
   ·exact .inl ⟨h1,by rw [h2];rfl⟩
   exact .inr ⟨h1,h2,h4,h5,H3.out ⟨_,List.getElem_mem hkl,h1⟩⟩
  have CT:=zh (fun w' (k':Keep au wr w')=>Oh w4 w' bS L f _ l[k].st.kind ol cl on l[k].st.nums.length cn l[k].st.lits l[k].st.nums (HJ.out.keep k') (HF.out.keep K24.out) mg.out (Oi (fun c hc=>(mg.out.c.c c hc).1) HS.out k) hI hcap hcm hN rfl HST.v hk9 (by have:=zc3.out;simp;omega));have zeJ:Hid (f.cls++(l.take k).map xH++ [l[k].st.lits]=f.cls++(l.take (k+1)).map xH):=zh (by rw [List.take_succ_eq_append_getElem hkl,List.map_append,List.append_assoc];rfl);clear hI hN hcap hcm HST hSG hV4 hk9 hlv hnv;unfold jsV at CT;generalize l[k].st.lits=xl at *;generalize l[k].st.kind=xk at *;generalize l[k].st.nums.length=nn at *;generalize xl.length=nl at *;have CT1:=zh (CT.out (wr.alloc (.cells #[.int .i64 xk,.slice ol nl cl,.slice on nn cn,.int .i64 0,.int .i64 0,.int .i64 0,.slice none 0 0,.int .i64 0,.int .i64 0] jc)) ((Keep.refl _ _).alloc _));clear CT;have zeK:=HLN.out;go_wp2_with fail;refine CT1.out.mono ?_;rintro e w8 ⟨r,rfl,hk8,hJ8⟩;cases r
  case false=>
   have B8:=BF.out.keep hk8;have c0:=B8.cell 0;have c1:=B8.cell 1;have f0:=B8.free 0;have f1:=B8.free 1;have rl:=B8.lt;simp at c0 c1;have K8:=zh (K24.out.both hk8);clear hk8 hJ8 CT1 p0 p1 p2 p3 p4 p5 p6 p7 p8 B8;go_wp2;refine bodyPost_ret (by simp [results,Tryz.results19,go_sem,c0,c1,rl];rfl) rfl ?_;exact⟨⟨_,rfl⟩,(K8.out.setCell _ fun hh=>absurd hh (by have:=mE.out;omega)).setCell _ fun hh=>absurd hh (by have:=mE.out;omega)⟩
  have HJ8:=zh (hJ8 rfl);clear hk8 hJ8 CT1 p0 p1 p2 p3 p4 p5 p6 p7 p8;go_wp2;go_roundw
  case rel=>exact⟨k+1,om,gn,by rw [← zeJ.out];exact HJ8.out⟩
  simp [intOf];omega
 have hlt:¬(k:Int)<(l.length:Int):=om;have hkk:k=l.length:=om;subst hkk;obtain⟨kj,sj,ov',cv',hBj,hOj,_⟩:=HJ.out;have CA:=zh (Ce 50 #[] cfw1 (fun c=>c.isEmpty) wr _ _ (hOj.cls kj) (fun w' _ c _ sv h=>by simpa using RX w' sv c h));have b4:wr.cell? ⟨bS,4,none⟩=some (.slice ov' (f.cls++(l.take l.length).map xH).length cv'):=hBj.cell 4;have bl:=hBj.lt;generalize ((f.cls++(l.take l.length).map xH).any fun c=>c.isEmpty)=r at*;generalize (f.cls++(l.take l.length).map xH).length=nc at *;clear HJ hBj hOj kj sj;have zeK:=HLN.out;go_wp2_with fail;refine CA.out.mono ?_;rintro e w8 ⟨rfl,hk8⟩;have B8:=BF.out.keep (dH.out.both hk8);have c0:=B8.cell 0;have c1:=B8.cell 1;have f0:=B8.free 0;have f1:=B8.free 1;have rl:=B8.lt;simp at c0 c1;have K8:=zh (K24.out.both (dH.out.both hk8));clear hk8 CA B8;cases r
 case false=>
  go_wp2;refine bodyPost_ret (by simp [results,Tryz.results19,go_sem,c0,c1,rl];rfl) rfl ?_;exact⟨⟨_,rfl⟩,(K8.out.setCell _ fun hh=>absurd hh (by have:=mE.out;omega)).setCell _ fun hh=>absurd hh (by have:=mE.out;omega)⟩
 go_wp2;refine bodyPost_ret (by simp [results,Tryz.results19,go_sem,c0,c1,rl];rfl) rfl ?_;exact⟨⟨_,rfl⟩,(K8.out.setCell _ fun hh=>absurd hh (by have:=mE.out;omega)).setCell _ fun hh=>absurd hh (by have:=mE.out;omega)⟩
def TkE (e:Ending):Prop:=∃r:Bool,e= .returned (.tuple #[.bool r,.agg #[.int .i64 0,.int .i64 0]])
theorem Oj (w:World)(L:jZ)(f:GF)(v:Value)(l:List ji)(hf:qm w L f)(hok:rQ f)(h3:(∃y∈l,y.st.kind=4)→∀a∈f.atoms,a.k=3)(hv:mh w v l)(hs:∀x∈l,Ur f.atoms.length x)(hcl:f.cls.length+l.length≤100000)(hln:l.length≤3000):
  Calls Tryz.prog 18 #[L.v f,v] w fun e w'=>TkE e∧Keep au w w':=by
 have CW:=zh (fun w' (k:Keep au w w')=>RY w' L f v l (hf.keep k) hok h3 (hv.keep k) hs hcl hln);obtain⟨os,cs,rfl,_⟩:=hv.len;obtain⟨w2,hw2⟩:∃w2:World,w2=(w.alloc (.cells #[.slice none 0 0,.slice L.oi f.n L.ci,.slice L.oa f.atoms.length L.ca,.slice L.oc f.cls.length L.cc] Bv)).alloc (.cells #[.int .i64 0,.int .i64 0] iZ):=⟨_,rfl⟩;have K2:Hid (Keep au w w2):=zh (by rw [hw2];exact((Keep.refl _ _).alloc _).alloc _);have B1:Hid (aL w2 w.heap.size #[.slice none 0 0,.slice L.oi f.n L.ci,.slice L.oa f.atoms.length L.ca,.slice L.oc f.cls.length L.cc]):=zh (by rw [hw2];exact aL.old (aN _ _ rfl) _);have B2:Hid (aL w2 (w.heap.size+1) #[.int .i64 0,.int .i64 0]):=zh (by rw [hw2];exact aN _ _ sm);unfold jZ.v at CW ⊢;clear hf hok hv hs hcl hln h3;go_enter Tryz.func18,Tryz.ntmps18;go_upto_region 1 with fail;rw [← hw2];clear hw2;generalize hg1:w.heap.size=g1 at *;have mE:=zh hg1;clear hg1;have x0:=B1.out.cell 0;have x1:=B1.out.cell 1;have x2:=B1.out.cell 2;have x3:=B1.out.cell 3;have xl:=B1.out.lt;simp at x0 x1 x2 x3;have CW:=zh (CW.out w2 K2.out);go_wp2_with fail;refine CW.out.mono ?_;rintro e w3 ⟨⟨z,rfl⟩,hk3⟩;have K4:Keep au w2 (w3.alloc (.cells #[.int .i64 0,.int .i64 0] iZ)):=Keep.both hk3 ((Keep.refl _ _).alloc _);have B3:=B2.out.keep hk3;have c0:=B3.cell 0;have c1:=B3.cell 1;have f0:=B3.free 0;have f1:=B3.free 1;have rl:=B3.lt;simp at c0 c1;have K5:=zh (K2.out.both hk3);clear K4 hk3 CW B3 x0 x1 x2 x3 xl;by_cases hz:z= -1
 case pos=>
  subst hz;go_wp2;refine bodyPost_ret (by simp [results,Tryz.results18,go_sem,c0,c1,rl];rfl) rfl ?_;exact⟨⟨_,rfl⟩,((K5.out.setCell _ fun hh=>absurd hh (by have:=mE.out;omega)).setCell _ fun hh=>absurd hh (by have:=mE.out;omega)).alloc _⟩
 have hd:decide (z= -1)=false:=decide_eq_false hz;go_wp2;refine bodyPost_ret (by simp [results,Tryz.results18,go_sem,c0,c1,rl];rfl) rfl ?_;exact⟨⟨_,rfl⟩,((K5.out.setCell _ fun hh=>absurd hh (by have:=mE.out;omega)).setCell _ fun hh=>absurd hh (by have:=mE.out;omega)).alloc _⟩
end Go.Proofs.YtmepglhdcphffaaGreat
