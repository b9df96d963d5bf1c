/- Package cdcl: options; the search as it lies. Package cdcl: propagate at level 0. Package cdcl: decide where all variables have values. Facts on blocks of ints and of bools by their types; lists of steps and of clauses of one's own. Package cdcl: no at level 0. -/
import Derived.Test.YtmepglhdcphffaaGreatTuGG
namespace Go.Proofs.YtmepglhdcphffaaGreat
set_option maxRecDepth 100000
set_option maxHeartbeats 16000000
set_option linter.unusedSimpArgs false
set_option linter.unusedVariables false
open Go.ChangeShapes Go.WideShapes Go.RowKit Go.Maps
abbrev TOp:TypeId:=51
theorem qO (w:World)(x m:Int)(h0:0≤x)(h1:x≤m):Calls Tryz.prog 55 #[.int .i64 x,.int .i64 m] w fun e w'=>e= .returned (.bool true)∧Keep au w w':=by
 have d0:decide (0≤x)=true:=decide_eq_true h0;have d1:decide (x≤m)=true:=decide_eq_true h1;go_enter Tryz.func55,Tryz.ntmps55;go_wp2;go_ret;exact⟨rfl,kp⟩
theorem Fu (w:World)(a b c d fuel:Int)(ha:0≤a∧a≤1000)(hb:0≤b∧b≤1000000)(hc:0≤c∧c≤1000000)(hd:0≤d∧d≤2)(hf:0≤fuel∧fuel≤2000):
  Calls Tryz.prog 24 #[.agg #[.int .i64 a,.int .i64 b,.int .i64 c,.int .i64 d],.int .i64 fuel] w fun e w'=>e= .returned (.agg #[.int .i64 0,.int .i64 0])∧Keep au w w':=by
 have Ca:=fun w'=>zh (qO w' a 1000 ha.1 ha.2);have Cb:=fun w'=>zh (qO w' b 1000000 hb.1 hb.2);have Cc:=fun w'=>zh (qO w' c 1000000 hc.1 hc.2);have Cd:=fun w'=>zh (qO w' d 2 hd.1 hd.2);have Cf:=fun w'=>zh (qO w' fuel 2000 hf.1 hf.2);obtain⟨w2,hw2⟩:∃w2:World,w2=(w.alloc (.cells #[.int .i64 a,.int .i64 b,.int .i64 c,.int .i64 d] TOp)).alloc (.cells #[.int .i64 0,.int .i64 0] iZ):=⟨_,rfl⟩;have K2:Hid (Keep au w w2):=zh (by rw [hw2];exact((Keep.refl _ _).alloc _).alloc _);have B1:Hid (aL w2 w.heap.size #[.int .i64 a,.int .i64 b,.int .i64 c,.int .i64 d]):=zh (by rw [hw2];exact aL.old (aN _ _ rfl) _);have B2:Hid (aL w2 (w.heap.size+1) #[.int .i64 0,.int .i64 0]):=zh (by rw [hw2];exact aN _ _ sm);clear ha hb hc hd hf;go_enter Tryz.func24,Tryz.ntmps24;go_upto_region 1 with fail;rw [← hw2];clear hw2;generalize hg1:w.heap.size=g1 at *;have mE:=zh hg1;clear hg1;have x0:w2.cell? ⟨g1,0,none⟩=some (.int .i64 a):=B1.out.cell 0;have xl:=B1.out.lt;go_wp2_with fail;refine(Ca _).out.mono ?_;rintro e w3 ⟨rfl,hk3⟩;have B13:=zh (B1.out.keep hk3);have x1:w3.cell? ⟨g1,1,none⟩=some (.int .i64 b):=B13.out.cell 1;have xl:=B13.out.lt;go_wp2_with fail;refine(Cb _).out.mono ?_;rintro e w4 ⟨rfl,hk4⟩;have ZN:=zh (B13.out.keep hk4);have x2:w4.cell? ⟨g1,2,none⟩=some (.int .i64 c):=ZN.out.cell 2;have xl:=ZN.out.lt;go_wp2_with fail;refine(Cc _).out.mono ?_;rintro e w5 ⟨rfl,hk5⟩;have B15:=zh (ZN.out.keep hk5);have x3:w5.cell? ⟨g1,3,none⟩=some (.int .i64 d):=B15.out.cell 3;have xl:=B15.out.lt;go_wp2_with fail;refine(Cd _).out.mono ?_;rintro e w6 ⟨rfl,hk6⟩;go_wp2_with fail;refine(Cf _).out.mono ?_;rintro e w7 ⟨rfl,hk7⟩;have K7:=zh ((((hk3.both hk4).both hk5).both hk6).both hk7);have B8:=B2.out.keep K7.out;have c0:w7.cell? ⟨g1+1,0,none⟩=some (.int .i64 0):=B8.cell 0;have c1:w7.cell? ⟨g1+1,1,none⟩=some (.int .i64 0):=B8.cell 1;have f0:=B8.free 0;have f1:=B8.free 1;have rl:=B8.lt;clear hk3 hk4 hk5 hk6 hk7 x0 x1 x2 x3 xl B8;go_wp2;refine bodyPost_ret (by simp [results,Tryz.results24,go_sem,c0,c1,rl];rfl) rfl ?_;exact⟨rfl,((K2.out.both K7.out).setCell _ fun hh=>absurd hh (by have:=mE.out;omega)).setCell _ fun hh=>absurd hh (by have:=mE.out;omega)⟩
abbrev TSe:TypeId:=193
def P6 (vars:Nat)(ph:Bool)(b:Nat)(Ii:Value):Array Value:= #[.int .i64 (vars:Int),.slice none 0 0,.bool ph,.pointer (some ⟨b,0,none⟩),Ii,.int .i64 0,.slice none 0 0]
theorem fH {w w':World}{base:Nat}{e:TypeId}{size:Nat}{v:Value}{n:Nat}{xs:List Value}(h:w.ownsRow base e size v n xs)(hb:∀k,v.ownBlock=some k→w'.heap[k]? =w.heap[k]?):w'.ownsRow base e size v n xs:=by
 obtain⟨hl,h | ⟨g,cap,cur,hv,hb',hg,hl',hm,hs,ht⟩⟩:=h
 ·exact ⟨hl,.inl h⟩
 exact⟨hl,.inr ⟨g,cap,cur,hv,hb',by rw [hb g (by rw [hv];rfl)];exact hg,hl',hm,hs,ht⟩⟩
theorem Dc.fr {w0 w w':World}{b gm:Nat}{vc vl vw:Value}{t:Cd.Tr}(h:Dc w0 w b gm vc vl vw t){c:Nat}(k:Fr (fun n=>n=c) w w')(hc:¬VY b gm vl vw c)(hk:Keep au w0 w'):Dc w0 w' b gm vc vl vw t:=by
 have hx:∀n,n<w.heap.size→n≠c→w'.heap[n]? =w.heap[n]? :=fun n hn hne=>k.block n hn hne;unfold VY at hc;exact⟨hk,h.hb,h.hm,(hx b (lt_of_heap h.tb) (by rintro rfl;exact hc (.inl rfl))).trans h.tb,fH h.l fun q hq=>hx q (World.ownsRow.lt h.l q hq).2 (by rintro rfl;exact hc (.inr (.inr (.inl hq)))),fH h.y fun q hq=>hx q (World.ownsRow.lt h.y q hq).2 (by rintro rfl;exact hc (.inr (.inr (.inr hq)))),h.m.same (hx gm h.m.lt (by rintro rfl;exact hc (.inr (.inl rfl)))),h.ap⟩
theorem kD {w:World}{c vars b:Nat}{ph:Bool}{vl:Value}(h:aL w c (P6 vars ph b vl)):w.cell? ⟨c,0,none⟩=some (.int .i64 (vars:Int))∧w.cell? ⟨c,1,none⟩=some (.slice none 0 0)∧w.cell? ⟨c,2,none⟩=some (.bool ph)∧w.cell? ⟨c,3,none⟩=some (.pointer (some ⟨b,0,none⟩))∧w.cell? ⟨c,4,none⟩=some vl∧w.cell? ⟨c,5,none⟩=some (.int .i64 0)∧w.cell? ⟨c,6,none⟩=some (.slice none 0 0)∧w.frozen? ⟨c,4,none⟩=false∧c<w.heap.size:=
 ⟨h.cell 0,h.cell 1,h.cell 2,h.cell 3,h.cell 4,h.cell 5,h.cell 6,h.free 4,h.lt⟩
def uE (n:Nat):List Int:=List.replicate n 0
theorem NQ (P:Nat→Prop)(vars:Nat)(w0 w:World)(b gm bS:Nat)(oc:Option Addr)(cc:Nat)(vl vw:Value)(cls:List (List Int))(ph:Bool)(h:Dc w0 w b gm (.slice oc cls.length cc) vl vw ⟨[],[]⟩)(hP:NR P w b gm vl vw)(hc:lK P w (.slice oc cls.length cc) cls)(hok:Cd.ClsOK vars cls)(hv:vars≤1000)(hB:aL w bS (P6 vars ph b (.slice none 0 0)))(hn:¬VY b gm vl vw bS)(hs:w0.heap.size≤bS)(t:Cd.Tr)(r:Int)(hr:Cd.runF (vars+1) cls ⟨[],[]⟩=(t,r))(ht:t.lits.length≤vars):
  Calls Tryz.prog 111 #[.pointer (some ⟨bS,0,none⟩)] w fun e w'=>e= .returned (.int .i64 r)∧∃xC Ij Ii,Dc w0 w' b gm (.slice oc cls.length cc) xC Ij t∧aL w' bS (P6 vars ph b Ii)∧¬VY b gm xC Ij bS:=by
 have CR:=zh (P7 P vars w0 w b gm oc cc vl vw ⟨[],[]⟩ cls (vars+1) h hP hc hok hv ⟨sm,sm⟩ rfl sm);rw [hr]at CR;have HB:=zh hB;have HN:=zh hn;have Uv:=zh hs;obtain⟨x0,x1,x2,x3,x4,x5,x6,f4,xl⟩:=kD hB;clear h hP hc hok hB hn hs hr;go_enter Tryz.func111,Tryz.ntmps111;go_wp2_with fail;refine CR.out.mono ?_;rintro e w6 ⟨rfl,xC,Ij,hl6,ht6⟩;have HN6:Hid (¬VY b gm xC Ij bS):=zh (by
  have h0:=HN.out;have hq:=HB.out.lt;unfold VY at h0 ⊢;rintro(h | h | h | h)
  ·exact h0 (.inl h)
  ·exact h0 (.inr (.inl h))
  ·rcases ht6.l with e | ⟨k,e,hk⟩
   ·exact h0 (.inr (.inr (.inl (e ▸ h))))
   rw [h]at e;injection e with e;omega
  rcases ht6.y with e | ⟨k,e,hk⟩
  ·exact h0 (.inr (.inr (.inr (e ▸ h))))
  rw [h]at e;injection e with e;omega)
 have vW:Hid (aL w6 bS (P6 vars ph b (.slice none 0 0))):=zh (by
  obtain⟨tt,htt⟩:=HB.out;exact⟨tt,(ht6.k.block bS (lt_of_heap htt) HN.out).trans htt⟩)
 have HL6:=zh hl6;obtain⟨ol,cl,rfl⟩:=hl6.l.len;clear x0 x1 x2 x3 x4 x5 x6 f4 xl CR HB HN ht6 hl6;generalize hnn:t.lits.length=n at *;go_wp2;go_loopg [] n (fun gk wr=>∃(j:Nat) (ov:Option Addr) (cv:Nat),j+gk=n∧Keep au w0 wr∧bC wr w6.heap.size (.slice ov j cv) (uE j)∧aL wr bS (P6 vars ph b (.slice ov j cv))∧Fr (fun k=>k=bS) w6 wr)
 case atStart=>exact⟨0,none,0,om,HL6.out.k,bC.nil _ _,vW.out,Fr.refl _ _⟩
 obtain⟨j,ov,cv,hj,yB,hown,hbl,hfr⟩:=hrel;have HL:=zh (HL6.out.fr hfr HN6.out yB);have HO:=zh hown;have HBL:=zh hbl;have EM:=zh yB;have HFR:=zh hfr;have y1:wr.cell? ⟨b,1,none⟩=some (.slice ol n cl):=by have:=cell_of_heap (o:=1) HL.out.tb rfl;exact this
 have yl:=lt_of_heap HL.out.tb;obtain⟨x0,x1,x2,x3,x4,x5,x6,f4,xl⟩:=kD hbl;clear hown hbl yB hfr;by_cases hjn:j<n
 case neg=>
  have hlt:¬(j:Int)<(n:Int):=om;have hd:decide ((j:Int)<(n:Int))=false:=decide_eq_false hlt;go_wp2;go_quiet (fail);go_wp2;refine bodyPost_ret (by simp [results,Tryz.results111,go_sem];rfl) rfl ?_;exact⟨rfl,_,_,_,HL.out.keep (Keep.drewN (Keep.refl _ _) _),HBL.out.keep (Keep.drewN (Keep.refl _ _) _),HN6.out⟩
 have hlt:(j:Int)<(n:Int):=om;have hd:decide ((j:Int)<(n:Int))=true:=decide_eq_true hlt;go_wp2;go_quiet (fail);obtain⟨w7,hw7⟩:∃w7:World,w7=wr.drewN nq:=⟨_,rfl⟩;have k7:Keep au wr w7:=by rw [hw7];exact Keep.drewN (Keep.refl _ _) _
 rw [← hw7];have zcR:=zh (HBL.out.keep k7);have YN:Hid (bC w7 w6.heap.size (.slice ov j cv) (uE j)):=zh (HO.out.keep k7);have zeu:=zh (EM.out.both k7);have zcS:=zh (HFR.out.then k7);clear hw7 k7 x0 x1 x2 x3 x4 x5 x6 f4 xl y1 yl;obtain⟨x0,x1,x2,x3,x4,x5,x6,f4,xl⟩:=kD zcR.out;go_upto_region 3 with fail;refine aD (fun w'=>Keep au w7 w') [0,10,11,12,13] [([0,1,2,3,4,5,6,7,8],9),([],10),([11,12],13)] [] kr kr (Keep.refl _ _).drew ?_;intro X W hne hF hcl;have aY:=zh hcl;have z4:=fun x=>((hF x).cell xl).trans x4;have z5:=fun x=>((hF x).cell xl).trans x5;have zl:=fun x=>bJ xl (hF x).size;clear hF hcl;simp only [aW,aJ,zl0,zl1,zl2,aX,Bool.false_eq_true,if_false]
 (repeat(quiet_step (fail)));refine wpQuiet_nil ?_
 refine ay rfl rfl fun K hK=> ?_;go_simp;have k8:Keep au w7 (w7.alloc (.cells #[.int .i64 0] TI)).drew:=((Keep.refl _ _).alloc _).drew;refine hK _ _ ⟨fun _=>aY.out _ k8,?_⟩;have ho8:bC (w7.alloc (.cells #[.int .i64 0] TI)).drew w6.heap.size (.slice ov j cv) (uE j):=YN.out.keep k8;have hzl:(uE j).length=j:=List.length_replicate ..;obtain⟨v9,w9,hr9,ho9,hg9,hb9⟩:=ni ho8 (b:=w7.heap.size) (x:=0) (aL.keep (aN _ _ rfl) (Keep.refl _ _).drew) (by rw [hzl];omega) (Nat.le_trans zcS.out.size k8.size);have hzz:uE (j+1)=uE j++ [0]:=List.replicate_succ' ..;rw [← hzz]at ho9;obtain⟨o9,c9,hs9⟩:=ho9.len;have hzl1:(uE (j+1)).length=j+1:=List.length_replicate ..;rw [hzl1]at hs9;subst hs9;have hlo:∀q,(Value.slice ov j cv).ownBlock=some q→w6.heap.size≤q:=fun q hq=>bC.block YN.out q hq;have hbS:bS<w6.heap.size:=vW.out.lt;have EJ:aL w9 bS (P6 vars ph b (.slice ov j cv)):=by
  obtain⟨tt,htt⟩:=zcR.out.keep k8;exact⟨tt,(hg9.block bS (lt_of_heap htt) fun e=>by have:=hlo bS e.symm;omega).trans htt⟩
 have HKN:Hid (Keep au w0 (w9.setCell ⟨bS,4,none⟩ (.slice o9 (j+1) c9))):=zh (aQ ((zeu.out.both k8).grown hg9 fun q hq=>Nat.le_trans HL6.out.k.size (hlo q hq)) _ Uv.out);have HFN:Hid (Fr (fun k=>k=bS) w6 (w9.setCell ⟨bS,4,none⟩ (.slice o9 (j+1) c9))):=zh (((zcS.out.then k8).grown hg9 fun q hq hl=>by have:=hlo q hq;omega).set _ rfl);have HBN:Hid (aL (w9.setCell ⟨bS,4,none⟩ (.slice o9 (j+1) c9)) bS (P6 vars ph b (.slice o9 (j+1) c9))):=zh (EJ.set 4 _);have HON:Hid (bC (w9.setCell ⟨bS,4,none⟩ (.slice o9 (j+1) c9)) w6.heap.size (.slice o9 (j+1) c9) (uE (j+1))):=zh (World.ownsRow_set_other ho9 fun q hq=>by have:=bC.block ho9 q hq;omega);have f9:=EJ.free 4;have g9:w9.cell? ⟨bS,4,none⟩=some (.slice ov j cv):=EJ.cell 4;have gl:=EJ.lt;clear hK k8 ho8 ho9 EJ aY hg9 hb9 hlo hbS hzl hzl1 hzz
 (repeat(quiet_step (fail)));refine wpQuiet_nil ?_
 refine ay rfl rfl fun K hK=> ?_;refine dn _ _ 22 _ _ rfl rfl rfl hr9 ?_;refine hK _ _ ⟨fun h=>(by simp at h),?_⟩;clear hK hr9
 (repeat(quiet_step (fail)));refine wpQuiet_nil ?_
 refine ay rfl rfl fun K hK=> ?_;go_simp;refine hK _ _ ⟨fun h=>(by simp at h),?_⟩;clear hK
 (repeat(quiet_step (fail)));refine wpQuiet_nil ?_
 refine NoPanic.normal ?_;go_wp2;obtain⟨g,rfl⟩:∃g,gk=g+1:=⟨gk-1,om⟩;go_roundg g
 case measure=>omega
 exact⟨j+1,o9,c9,om,HKN.out,HON.out,HBN.out,HFN.out⟩
theorem RD (vars:Nat)(w0 w:World)(b gm bS:Nat)(vc vl vw Ii:Value)(ph:Bool)(t:Cd.Tr)(h:Dc w0 w b gm vc vl vw t)(hv:vars≤1000)(hB:aL w bS (P6 vars ph b Ii))(hall:∀v:Nat,1≤v→v≤vars→(v:Int)∈t.lits∨ -(v:Int)∈t.lits):
  Calls Tryz.prog 116 #[.pointer (some ⟨bS,0,none⟩)] w fun e w'=>e= .returned (.tuple #[.bool true,.int .i64 0])∧w'=w:=by
 have CH:=zh (fun w' (e:w'=w) x (hx:dA x)=>ZO w0 w' b gm vc vl vw t (e ▸ h) x hx);have HA:=zh hall;obtain⟨x0,x1,x2,x3,x4,x5,x6,f4,xl⟩:=kD hB;clear h hall hB;go_enter Tryz.func116,Tryz.ntmps116;go_wp2;go_loopw [13,4] (fun s t wr=>s= .int .i64 0∧t= .int .i64 0∧wr=w) (fun _ _ _=>0)
 case atStart=>exact⟨rfl,rfl,rfl⟩
 obtain⟨rfl,rfl,hw⟩:=hrel;have hw:w=wr:=hw.symm;subst hw;go_wp2;go_loopw [7,4] (fun s t wr=>∃v:Nat,1≤v∧v≤vars+1∧s= .int .i64 (v:Int)∧t= .int .i64 0∧wr=w) (fun s _ _=>(vars+1-intOf s).toNat)
 case atStart=>exact⟨1,om,om,rfl,rfl,rfl⟩
 obtain⟨v,hv1,hv2,rfl,rfl,hw⟩:=hrel;have hw:w=wr:=hw.symm;subst hw;by_cases hvl:v≤vars
 case neg=>
  have hlt:¬(v:Int)≤(vars:Int):=om;have hd:decide ((v:Int)≤(vars:Int))=false:=decide_eq_false hlt;go_wp2;refine bodyPost_ret (by simp [results,Tryz.results116,go_sem];rfl) rfl ?_;exact⟨rfl,rfl⟩
 have hlt:(v:Int)≤(vars:Int):=om;have hd:decide ((v:Int)≤(vars:Int))=true:=decide_eq_true hlt;have C1:=zh (CH.out w rfl (v:Int) (by unfold dA;omega));have C2:=zh (CH.out w rfl (-(v:Int)) (by unfold dA;omega));have HV:=HA.out v hv1 hvl;by_cases m1:(v:Int)∈t.lits
 case pos=>
  rw [decide_eq_true m1]at C1;clear m1 HV C2;go_wp2_with fail;refine C1.out.mono ?_;rintro e w1 ⟨rfl,rfl⟩;go_wp2;go_roundw
  case rel=>exact⟨v+1,om,om,gn,rfl,by first | trivial | rfl⟩
  simp [intOf];omega
 rw [decide_eq_false m1]at C1;rw [decide_eq_true (HV.resolve_left m1)]at C2;clear m1 HV;go_wp2_with fail;refine C1.out.mono ?_;rintro e w1 ⟨rfl,rfl⟩;go_wp2_with fail;refine C2.out.mono ?_;rintro e w1 ⟨rfl,rfl⟩;go_wp2;go_roundw
 case rel=>exact⟨v+1,om,om,gn,rfl,by first | trivial | rfl⟩
 simp [intOf];omega
abbrev Jp:TypeId:=4
structure nH (w w':World):Prop where
 size:w.heap.size≤w'.heap.size
 at':∀(k:Nat) (A:Array Value) (t:TypeId),w.heap[k]? =some (.cells A t (0,0))→t=TI∨t=Jp→w'.heap[k]? =some (.cells A t (0,0))
theorem nH.refl (w:World):nH w w:=⟨Nat.le_refl _,fun _ _ _ h _=>h⟩
theorem nH.trans {a b c:World}(h:nH a b)(k:nH b c):nH a c:=⟨Nat.le_trans h.size k.size,fun n A t e q=>k.at' n A t (h.at' n A t e q) q⟩
theorem nH.of {w w':World}(k:Keep au w w'):nH w w':=⟨k.size,fun n A t h _=>(k.block n (lt_of_heap h) fun _ h=>h).trans h⟩
theorem nH.set {w:World}{b i:Nat}{v:Value}{A:Array Value}{t:TypeId}(hb:w.heap[b]? =some (.cells A t (0,0)))(ht:t≠TI∧t≠Jp):nH w (w.setCell ⟨b,i,none⟩ v):=
 ⟨sm,fun n B u h q=>(heap_setCell_other w ⟨b,i,none⟩ v n (by
  rintro rfl;rw [hb]at h;injection h with h;injection h with _ h;subst h;exact q.elim ht.1 ht.2)).trans h⟩
theorem nH.grown {w w':World}{row:Option Nat}(hg:w.grownBy w' row)(hr:∀k,row=some k→∃A t,w.heap[k]? =some (.cells A t (0,0))∧t≠TI∧t≠Jp):nH w w':=
 ⟨hg.size,fun n B u h q=>(hg.block n (lt_of_heap h) (by
  intro e;obtain⟨A,t,hb,ht⟩:=hr n e.symm;rw [hb]at h;injection h with h;injection h with _ h;subst h;exact q.elim ht.1 ht.2)).trans h⟩
theorem VZ {w:World}{base:Nat}{e:TypeId}{k:Nat}{v:Value}{n:Nat}{xs:List Value}(h:w.ownsRow base e k v n xs):GU v:=by
 obtain⟨hl,h | ⟨g,cap,cur,hv,hb',hg,hl',hm,hs,ht⟩⟩:=h
 ·exact ⟨_,_,_,h.1,Nat.le_refl _,by unfold maxLen;omega⟩
 exact⟨_,_,_,hv,hl',hm⟩
def iP (w:World)(v:Value)(l:List Int):Prop:=aR w v l∧GU v∧∀k,v.ownBlock=some k→∃A,w.heap[k]? =some (.cells A TI (0,0))
theorem iP.fr {w w':World}{v:Value}{l:List Int}(h:iP w v l)(k:nH w w'):iP w' v l:=by
 obtain⟨⟨oa,cap,h1,h2,h3,h4⟩,hc,ht⟩:=h;refine⟨⟨oa,cap,h1,h2,h3,fun hne=> ?_⟩,hc,fun j hj=> ?_⟩
 ·obtain ⟨b,o,e,hb,hx⟩:=h4 hne;obtain⟨A,hA⟩:=ht b (by rw [h1,e];rfl);have hA':=k.at' b A TI hA (.inl rfl);refine⟨b,o,e,bJ hb k.size,fun i x hi=> ?_⟩;rw [← hx i x hi];exact World.cell?_of_block (hA'.trans hA.symm)
 obtain⟨A,hA⟩:=ht j hj;exact⟨A,k.at' j A TI hA (.inl rfl)⟩
theorem iP.keep {w w':World}{v:Value}{l:List Int}(h:iP w v l)(k:Keep au w w'):iP w' v l:=h.fr (.of k)
theorem bC.intsT {w:World}{base:Nat}{v:Value}{l:List Int}(h:bC w base v l)(hx:∀x∈l,dA x):iP w v l:=⟨h.ints hx,VZ h,fun k hk=>jA h hk⟩
theorem iP.nil (w:World):iP w (.slice none 0 0) []:=(bC.nil w 0).intsT fun x hx=>by cases hx
theorem iP.form {w:World}{v:Value}{l:List Int}(h:iP w v l):∃o c,v= .slice o l.length c∧l.length≤c∧c≤maxLen:=by
 obtain⟨⟨oa,cap,h1,_⟩,⟨o,n,c,h2,h3,h4⟩,_⟩:=h;rw [h1]at h2;injection h2 with q1 q2 q3;subst q2;subst q3;exact⟨_,_,h1,h3,h4⟩
def jl (w:World)(g:Nat)(l:List Bool):Prop:=w.heap[g]? =some (.cells (l.map Value.bool).toArray Jp (0,0))∧l.length≤maxLen
theorem jl.fr {w w':World}{g:Nat}{l:List Bool}(h:jl w g l)(k:nH w w'):jl w' g l:=⟨k.at' g _ Jp h.1 (.inr rfl),h.2⟩
theorem jl.bools {w:World}{g:Nat}{l:List Bool}(h:jl w g l):dZ w (.slice (some ⟨g,0,none⟩) l.length l.length) l:=
 ⟨_,_,rfl,Nat.le_refl _,h.2,fun _=>⟨g,0,rfl,lt_of_heap h.1,fun i x hi=>by rw [Nat.zero_add];exact cell_of_heap h.1 (by simp [hi])⟩⟩
theorem jl.set {w:World}{g:Nat}{l:List Bool}(h:jl w g l)(i:Nat)(x:Bool):jl (w.setCell ⟨g,i,none⟩ (.bool x)) g (l.set i x):=by
 refine⟨?_,by simpa using h.2⟩;rw [Go.Joins.block_setCell h.1 (.bool x)];congr 2;rw [List.map_set,List.setIfInBounds_toArray]
structure StR where
 k:Int
 o:Option Addr
 n:Nat
 c:Nat
def ZP (x:StR):List Value:= [.int .i64 x.k,.slice x.o x.n x.c,.slice none 0 0,.int .i64 0,.int .i64 0,.int .i64 0,.slice none 0 0,.int .i64 0,.int .i64 0]
theorem Ik (x:StR):(ZP x).length=9:=rfl
theorem P8 (x:StR):∀u∈ZP x,u.oneCell'=true:=by
 intro u hu;simp [ZP]at hu;rcases hu with rfl | rfl | rfl | rfl | rfl | rfl | rfl | rfl | rfl<;>rfl
theorem Kh {w:World}{base:Nat}{v:Value}{l:List StR}(hown:aO jc 9 ZP w base v l){b:Nat}{x:StR}(hbk:aL w b (stT x.k x.o x.n x.c))(hl:l.length≤100000)(hbase:base≤w.heap.size):
  ∃v' w',(Builtin.append_ #[44,44] 44 #[v,.slice (some ⟨b,0,none⟩) 1 1]).run Tryz.prog w= .ok v' w'∧aO jc 9 ZP w' base v' (l++ [x])∧w.grownBy w' v.ownBlock∧(v'.ownBlock=v.ownBlock∨v'.ownBlock=some w.heap.size):=by
 obtain⟨i,hi,hz,hs,hb⟩:=info_parts infoSt;exact aO.app (T:=jc) (K:=9) (c:=ZP) Ik Tryz.underlying44 hi hz hs hb rfl om hown hbk (P8 x) (by unfold maxLen;omega) om hbase
def dx (w:World)(base:Nat)(v:Value)(l:List Sv.Stp):Prop:=∃rs:List StR,rs.length=l.length∧aO jc 9 ZP w base v rs∧∀(i:Nat) (r:StR) (x:Sv.Stp),rs[i]? =some r→l[i]? =some x→r.k=x.kind∧r.n=x.lits.length∧iP w (.slice r.o r.n r.c) x.lits
theorem dx.nil (w:World)(base:Nat):dx w base (.slice none 0 0) []:=⟨[],rfl,aO.nil _ _,fun i r x h=>by simp at h⟩
theorem dx.fr {w w':World}{base:Nat}{v:Value}{l:List Sv.Stp}(h:dx w base v l)(k:nH w w')(hb:∀j,v.ownBlock=some j→w'.heap[j]? =w.heap[j]?):dx w' base v l:=by
 obtain⟨rs,h1,h2,h3⟩:=h;refine⟨rs,h1,fH h2 hb,fun i r x hr hx=> ?_⟩;obtain⟨a,b,c⟩:=h3 i r x hr hx;exact⟨a,b,c.fr k⟩
theorem dx.lt {w:World}{base:Nat}{v:Value}{l:List Sv.Stp}(h:dx w base v l):∀j,v.ownBlock=some j→base≤j∧j<w.heap.size:=by
 obtain⟨rs,h1,h2,h3⟩:=h;exact fun j hj=>⟨aO.block h2 j hj,aO.lt h2 j hj⟩
theorem dx.mono {w:World}{base base':Nat}{v:Value}{l:List Sv.Stp}(h:dx w base v l)(hb:base'≤base):dx w base' v l:=by
 obtain⟨rs,h1,h2,h3⟩:=h;exact⟨rs,h1,World.ownsRow_mono h2 hb,h3⟩
theorem dx.ty {w:World}{base:Nat}{v:Value}{l:List Sv.Stp}(h:dx w base v l):∀j,v.ownBlock=some j→∃A,w.heap[j]? =some (.cells A jc (0,0)):=by
 obtain⟨rs,h1,h2,h3⟩:=h;exact fun j hj=>jA h2 hj
theorem dx.keep {w w':World}{base:Nat}{v:Value}{l:List Sv.Stp}(h:dx w base v l)(k:Keep au w w'):dx w' base v l:=h.fr (.of k) fun j hj=>k.block j (h.lt j hj).2 fun _ h=>h
theorem dx.form {w:World}{base:Nat}{v:Value}{l:List Sv.Stp}(h:dx w base v l):∃o c,v= .slice o l.length c∧l.length≤c∧c≤maxLen:=by
 obtain⟨rs,h1,h2,h3⟩:=h;obtain⟨o,c,e,a,b⟩:=aO.len h2;rw [h1]at e a;exact⟨o,c,e,a,b⟩
theorem dx.steps {w:World}{base:Nat}{v:Value}{l:List Sv.Stp}(h:dx w base v l):oQ w v l:=by
 obtain⟨o,c,e,a,b⟩:=h.form;obtain⟨rs,h1,h2,h3⟩:=h;refine⟨o,c,e,a,b,fun hne=> ?_⟩;obtain⟨g,cap',e',hb,hl,hc⟩:=aO.cells Ik h2 (by intro h;subst h;cases l<;>simp_all);rw [e]at e';injection e' with q1 q2 q3;refine⟨g,0,q1,hl,fun i x hi=> ?_⟩;have hi':i<rs.length:=by rw [h1];exact(List.getElem?_eq_some_iff.1 hi).1
 have hx:=eD hi';obtain⟨p,q,r⟩:=h3 i _ x hx hi;obtain⟨o',c',e1,e2,e3⟩:=r.form;injection e1 with q1 q2 q3;refine⟨rs[i].o,rs[i].c,by rw [← q];exact r.1,by rw [q3];exact e2,by rw [q3];exact e3,fun j u hj=> ?_⟩;have:=hc i _ hx j u (by
  unfold ZP;rw [p,q];simpa [stT]using hj)
 simpa using this
theorem dx.app {w:World}{base:Nat}{v:Value}{l:List Sv.Stp}(h:dx w base v l){b:Nat}{x:Sv.Stp}{o:Option Addr}{n c:Nat}(hbk:aL w b (stT x.kind o n c))(hx:iP w (.slice o n c) x.lits)(hl:l.length≤100000)(hbase:base≤w.heap.size):
  ∃v' w',(Builtin.append_ #[44,44] 44 #[v,.slice (some ⟨b,0,none⟩) 1 1]).run Tryz.prog w= .ok v' w'∧dx w' base v' (l++ [x])∧w.grownBy w' v.ownBlock∧(v'.ownBlock=v.ownBlock∨v'.ownBlock=some w.heap.size)∧nH w w':=by
 have hty:=h.ty;obtain⟨rs,h1,h2,h3⟩:=h;obtain⟨v',w',hr,ho,hg,hv⟩:=Kh h2 (x:=⟨x.kind,o,n,c⟩) hbk om hbase;have hf:nH w w':=nH.grown hg fun k hk=>by
  obtain⟨A,hA⟩:=hty k hk;exact⟨A,_,hA,dc,dc⟩
 refine⟨v',w',hr,⟨rs++ [⟨x.kind,o,n,c⟩],by simp [h1],ho,fun i r y hr hy=> ?_⟩,hg,hv,hf⟩;by_cases hi:i<rs.length
 ·rw [List.getElem?_append_left hi]at hr;rw [List.getElem?_append_left om]at hy;obtain⟨p,q,s⟩:=h3 i r y hr hy;exact⟨p,q,s.fr hf⟩
 have hj2:i=rs.length:=by
  have:=(List.getElem?_eq_some_iff.1 hr).1;simp at this;omega
 subst hj2;rw [List.getElem?_append_right (Nat.le_refl _)]at hr;rw [h1,List.getElem?_append_right (Nat.le_refl _)]at hy;simp at hr hy;subst hr;subst hy;obtain⟨o',c',e,_⟩:=hx.form;injection e with q1 q2 q3;exact⟨rfl,q2,hx.fr hf⟩
def lF (w:World)(base:Nat)(v:Value)(l:List (List Int)):Prop:=∃vs:List Value,vs.length=l.length∧aO Ch 1 vC w base v vs∧∀(i:Nat) (x:Value) (c:List Int),vs[i]? =some x→l[i]? =some c→iP w x c
theorem lF.nil (w:World)(base:Nat):lF w base (.slice none 0 0) []:=⟨[],rfl,aO.nil _ _,fun i r x h=>by simp at h⟩
theorem lF.fr {w w':World}{base:Nat}{v:Value}{l:List (List Int)}(h:lF w base v l)(k:nH w w')(hb:∀j,v.ownBlock=some j→w'.heap[j]? =w.heap[j]?):lF w' base v l:=by
 obtain⟨rs,h1,h2,h3⟩:=h;exact⟨rs,h1,fH h2 hb,fun i r x hr hx=>(h3 i r x hr hx).fr k⟩
theorem lF.lt {w:World}{base:Nat}{v:Value}{l:List (List Int)}(h:lF w base v l):∀j,v.ownBlock=some j→base≤j∧j<w.heap.size:=by
 obtain⟨rs,h1,h2,h3⟩:=h;exact fun j hj=>⟨aO.block h2 j hj,aO.lt h2 j hj⟩
theorem lF.ty {w:World}{base:Nat}{v:Value}{l:List (List Int)}(h:lF w base v l):∀j,v.ownBlock=some j→∃A,w.heap[j]? =some (.cells A Ch (0,0)):=by
 obtain⟨rs,h1,h2,h3⟩:=h;exact fun j hj=>jA h2 hj
theorem lF.keep {w w':World}{base:Nat}{v:Value}{l:List (List Int)}(h:lF w base v l)(k:Keep au w w'):lF w' base v l:=h.fr (.of k) fun j hj=>k.block j (h.lt j hj).2 fun _ h=>h
theorem lF.form {w:World}{base:Nat}{v:Value}{l:List (List Int)}(h:lF w base v l):∃o c,v= .slice o l.length c∧l.length≤c∧c≤maxLen:=by
 obtain⟨rs,h1,h2,h3⟩:=h;obtain⟨o,c,e,a,b⟩:=aO.len h2;rw [h1]at e a;exact⟨o,c,e,a,b⟩
theorem lF.cls {w:World}{base:Nat}{v:Value}{l:List (List Int)}(h:lF w base v l):fM w v l:=by
 obtain⟨oa,cap,e,a,b⟩:=h.form;obtain⟨vs,h1,h2,h3⟩:=h;refine⟨oa,cap,e,a,b,fun hne=> ?_⟩;obtain⟨g,cap',e',hb,hl,hc⟩:=aO.cells GR h2 (by intro h;subst h;cases l<;>simp_all);rw [e]at e';injection e' with q1 q2 q3;refine⟨g,0,q1,hl,fun i c hi=> ?_⟩;have hi':i<vs.length:=by rw [h1];exact(List.getElem?_eq_some_iff.1 hi).1
 have hx:=eD hi';have p:=h3 i _ c hx hi;refine⟨vs[i],?_,p.1,p.2.1⟩;have:=hc i _ hx 0 _ rfl;simpa using this
theorem lF.app {w:World}{base:Nat}{v:Value}{l:List (List Int)}(h:lF w base v l){b:Nat}{x:Value}{c:List Int}(hbk:aL w b #[x])(hx:iP w x c)(hl:l.length≤100000)(hbase:base≤w.heap.size):
  ∃v' w',(Builtin.append_ #[27,27] 27 #[v,.slice (some ⟨b,0,none⟩) 1 1]).run Tryz.prog w= .ok v' w'∧lF w' base v' (l++ [c])∧w.grownBy w' v.ownBlock∧(v'.ownBlock=v.ownBlock∨v'.ownBlock=some w.heap.size)∧nH w w':=by
 have hty:=h.ty;obtain⟨i,hi,hz,hs',hb⟩:=info_parts MX;obtain⟨vs,h1,h2,h3⟩:=h;have h1c:∀u∈vC x,u.oneCell'=true:=by
  intro u hu;obtain⟨o,n,cc,rfl,_⟩:=hx.2.1;simp [vC]at hu;subst hu;rfl
 obtain⟨v',w',hr,ho,hg,hv⟩:=aO.app (T:=Ch) (K:=1) (c:=vC) GR Tryz.underlying27 hi hz hs' hb rfl om h2 (x:=x) hbk h1c (by unfold maxLen;omega) om hbase;have hf:nH w w':=nH.grown hg fun k hk=>by
  obtain⟨A,hA⟩:=hty k hk;exact⟨A,_,hA,dc,dc⟩
 refine⟨v',w',hr,⟨vs++ [x],by simp [h1],ho,fun j y d hy hd=> ?_⟩,hg,hv,hf⟩;by_cases hj:j<vs.length
 ·rw [List.getElem?_append_left hj]at hy;rw [List.getElem?_append_left om]at hd;exact(h3 j y d hy hd).fr hf
 have hj2:j=vs.length:=by
  have:=(List.getElem?_eq_some_iff.1 hy).1;simp at this;omega
 subst hj2;rw [List.getElem?_append_right (Nat.le_refl _)]at hy;rw [h1,List.getElem?_append_right (Nat.le_refl _)]at hd;simp at hy hd;subst hy;subst hd;exact hx.fr hf
theorem V4 (w0 w:World)(vars b bS:Nat)(ph:Bool)(Ii:Value)(used:Int)(hk0:Keep au w0 w)(hs:w0.heap.size≤bS)(hB:aL w bS (P6 vars ph b Ii)):
  Calls Tryz.prog 112 #[.pointer (some ⟨bS,0,none⟩),.slice none 0 0,.int .i64 used] w fun e w'=>∃o c,e= .returned (.agg #[.int .i64 2,.slice none 0 0,.slice o 1 c,.slice none 0 0,.int .i64 used])∧dx w' w.heap.size (.slice o 1 c) [⟨1,[]⟩]∧Keep au w0 w':=by
 have CN:=fun w'=>zh (AA w' (.slice none 0 0) [] ⟨none,0,rfl,sm,sm,fun h=>absurd rfl h⟩ sm sm);have HB:=zh hB;have Bf:=zh hk0;have Uv:=zh hs;obtain⟨w2,hw2⟩:∃w2:World,w2=w.alloc (.cells #[.int .i64 0,.slice none 0 0,.slice none 0 0,.slice none 0 0,.int .i64 0] 126):=⟨_,rfl⟩;have K2:Hid (Keep au w w2):=zh (by rw [hw2];exact(Keep.refl _ _).alloc _);have BA:Hid (aL w2 w.heap.size #[.int .i64 0,.slice none 0 0,.slice none 0 0,.slice none 0 0,.int .i64 0]):=zh (by rw [hw2];exact aN _ _ rfl);have HB2:=zh (HB.out.keep K2.out);clear hk0 hs hB;go_enter Tryz.func112,Tryz.ntmps112;go_upto_region 1 with fail;rw [← hw2];clear hw2;generalize hg1:w.heap.size=g1 at *;have mE:=zh hg1;clear hg1;obtain⟨x0,x1,x2,x3,x4,x5,x6,f4,xl⟩:=kD HB2.out;refine aD (fun w'=>Keep au w2 w') [12] [([0,1,2,3,4,5],6),([7],8),([],9),([10,11],12)] [] kr kr (Keep.refl _ _).drew ?_;intro X W hne hF hcl;have aY:=zh hcl;have z6:=fun x=>((hF x).cell xl).trans x6;have zl:=fun x=>bJ xl (hF x).size;clear hF hcl;simp only [aW,aJ,zl0,zl1,zl2,aX,Bool.false_eq_true,if_false]
 (repeat(quiet_step (fail)));refine wpQuiet_nil ?_
 refine ay rfl rfl fun K hK=> ?_;go_simp;refine(CN _).out.mono ?_;rintro e w3 ⟨v3,rfl,ho3,hk3⟩;obtain⟨o3,c3,hv3⟩:=ho3.len;rw [show(Sv.negF []).length=0 from rfl]at hv3;subst hv3;have YO:=zh ho3;clear ho3;have k3:Keep au w2 w3:=Keep.both (Keep.refl _ _).drew hk3;refine hK _ _ ⟨fun _=>aY.out _ k3,?_⟩;clear hK K hk3
 (repeat(quiet_step (fail)));refine wpQuiet_nil ?_
 refine ay rfl rfl fun K hK=> ?_;go_simp;have k4:Keep au w2 (w3.alloc (.cells #[.int .i64 1,.slice o3 0 c3,.slice none 0 0,.int .i64 0,.int .i64 0,.int .i64 0,.slice none 0 0,.int .i64 0,.int .i64 0] jc)):=k3.alloc _;refine hK _ _ ⟨fun _=>aY.out _ k4,?_⟩;clear hK K
 (repeat(quiet_step (fail)));refine wpQuiet_nil ?_
 refine ay rfl rfl fun K hK=> ?_;obtain⟨v5,w5,hr5,ho5,hg5,hb5⟩:=Kh (base:=w2.heap.size) (x:=⟨1,o3,0,c3⟩) (b:=w3.heap.size) (aO.nil _ _) (aN _ _ rfl) sm k4.size;have k5:Keep au w2 w5:=k4.grown hg5 fun q hq=>by cases hq
 obtain⟨o5,c5,hv5,_⟩:=ho5.len;replace hv5:v5= .slice o5 1 c5:=hv5;subst hv5;have HO5:=zh ho5;have k35:Keep au w3 w5:=((Keep.refl au w3).alloc (.cells #[.int .i64 1,.slice o3 0 c3,.slice none 0 0,.int .i64 0,.int .i64 0,.int .i64 0,.slice none 0 0,.int .i64 0,.int .i64 0] jc)).grown hg5 fun q hq=>by cases hq
 have zbD:Hid (bC w5 w2.heap.size (.slice o3 0 c3) []):=zh (World.ownsRow_mono (bC.keep YO.out k35) (by first | exact(Keep.refl _ _).drew.size | simp));have hbS:bS<g1:=by have:=HB.out.lt;have:=mE.out;omega
 have dY:=zh (HB2.out.keep k5);have BA5:=zh (BA.out.keep k5);have K5:=zh ((Bf.out.both K2.out).both k5);have f6:w5.frozen? ⟨bS,6,none⟩=false:=dY.out.free 6;have g6:w5.cell? ⟨bS,6,none⟩=some (.slice none 0 0):=dY.out.cell 6;have gl:=dY.out.lt;refine dn _ _ 44 _ _ rfl rfl rfl hr5 ?_;refine hK _ _ ⟨fun _=>aY.out _ k5,?_⟩;clear hK hr5 k35 YO k3 k4 hg5 hb5 aY z6 zl x0 x1 x2 x3 x4 x5 x6 f4 xl CN
 (repeat(quiet_step (fail)));refine wpQuiet_nil ?_
 refine ay rfl rfl fun K hK=> ?_;go_simp;refine hK _ _ ⟨fun h=>(by simp at h),?_⟩;clear hK
 (repeat(quiet_step (fail)));refine wpQuiet_nil ?_
 refine NoPanic.normal ?_;have vW:=zh (dY.out.set 6 (.slice o5 1 c5));have V5:=zh (BA5.out.setOther 6 (.slice o5 1 c5) (show g1≠bS from om));have hlo:∀q,(Value.slice o5 1 c5).ownBlock=some q→w2.heap.size≤q:=fun q hq=>aO.block HO5.out q hq;have hg2:g1<w2.heap.size:=BA.out.lt;have HO6:=zh (World.ownsRow_set_other (b:=bS) (i:=6) (u:= .slice o5 1 c5) HO5.out fun q hq=>by have:=hlo q hq;omega);have zev:=zh (World.ownsRow_set_other (b:=bS) (i:=6) (u:= .slice o5 1 c5) zbD.out fun q hq=>by have:=bC.block zbD.out q hq;omega);have K6:=zh (aQ K5.out (b:=bS) (i:=6) (.slice o5 1 c5) Uv.out);have y6:(w5.setCell ⟨bS,6,none⟩ (.slice o5 1 c5)).cell? ⟨bS,6,none⟩=some (.slice o5 1 c5):=vW.out.cell 6;have yl:=vW.out.lt;have c0:=V5.out.cell 0;have c1:=V5.out.cell 1;have c2:=V5.out.cell 2;have c3':=V5.out.cell 3;have c4:=V5.out.cell 4;have d0:=V5.out.free 0;have d1:=V5.out.free 1;have d2:=V5.out.free 2;have d3:=V5.out.free 3;have d4:=V5.out.free 4;have dl:=V5.out.lt;simp at c0 c1 c2 c3' c4;clear f6 g6 gl vW;generalize w5.setCell ⟨bS,6,none⟩ (.slice o5 1 c5)=w6 at *;go_wp2;refine bodyPost_ret (by simp [results,Tryz.results112,go_sem,c0,c1,c2,c3',c4,dl];rfl) rfl ?_;have hne:∀q,(Value.slice o5 1 c5).ownBlock=some q→q≠g1:=fun q hq=>by have:=hlo q hq;omega
 have hl3:∀q,(Value.slice o3 0 c3).ownBlock=some q→w2.heap.size≤q:=fun q hq=>bC.block zbD.out q hq;have hn3:∀q,(Value.slice o3 0 c3).ownBlock=some q→q≠g1:=fun q hq=>by have:=hl3 q hq;omega
 have hwg:w0.heap.size≤g1:=by have:=mE.out;have:=Bf.out.size;omega
 have hw2:w.heap.size≤w2.heap.size:=K2.out.size;refine⟨o5,c5,rfl,⟨[⟨1,o3,0,c3⟩],rfl,World.ownsRow_mono (World.ownsRow_set_other (World.ownsRow_set_other (World.ownsRow_set_other (World.ownsRow_set_other (World.ownsRow_set_other HO6.out hne) hne) hne) hne) hne) hw2,fun i r x hr hx=> ?_⟩,aQ (aQ (aQ (aQ (aQ K6.out _ hwg) _ hwg) _ hwg) _ hwg) _ hwg⟩;have hi0:i=0:=by have:=(List.getElem?_eq_some_iff.1 hr).1;simp at this;exact this
 subst hi0;simp at hr hx;subst hr;subst hx;refine⟨rfl,rfl,bC.intsT (base:=w2.heap.size) (World.ownsRow_set_other (World.ownsRow_set_other (World.ownsRow_set_other (World.ownsRow_set_other (World.ownsRow_set_other zev.out hn3) hn3) hn3) hn3) hn3) fun x hx=>by cases hx⟩
end Go.Proofs.YtmepglhdcphffaaGreat
