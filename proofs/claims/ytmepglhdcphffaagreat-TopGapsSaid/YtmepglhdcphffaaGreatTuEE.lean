/- Package cdcl: Do where all is forced. Package slices: Clone, Grow, Concat. Forms of rows and free atoms, as they lie; form.Check. For TopGaps. -/
import Derived.Test.YtmepglhdcphffaaGreatTuKK
import Derived.Test.YtmepglhdcphffaaGreatTuPP
import Derived.Lib.AppendZerosOnto
import Derived.Lib.Walk
import Derived.Test.YtmepglhdcphffaaGreatPtAA
namespace Go.Proofs.YtmepglhdcphffaaGreat
set_option maxRecDepth 100000
set_option maxHeartbeats 16000000
set_option linter.unusedSimpArgs false
set_option linter.unusedVariables false
open Go.ChangeShapes Go.WideShapes Go.RowKit Go.Maps
abbrev TAn:TypeId:=126
abbrev TCn:TypeId:=124
def zbX (st:Int)(h s:Value)(u:Int):Value:= .agg #[.int .i64 st,h,s,.slice none 0 0,.int .i64 u]
def fa0:Value:= .agg #[.int .i64 0,.int .i64 0]
def Rl (vars:Nat)(a:Cd.Ans)(w:World)(e:Ending)(w':World):Prop:=Keep au w w'∧match a with
 | .yes T u=>∃g,w.heap.size≤g∧e= .returned (.tuple #[zbX 1 (.slice (some ⟨g,0,none⟩) vars vars) (.slice none 0 0) u,fa0])∧jl w' g (Sv.holdsT vars T)
 | .no st u=>∃o c,e= .returned (.tuple #[zbX 2 (.slice none 0 0) (.slice o st.length c) u,fa0])∧dx w' w.heap.size (.slice o st.length c) (st.map fun c=>⟨1,c⟩)
 | .hungry u=>e= .returned (.tuple #[zbX 3 (.slice none 0 0) (.slice none 0 0) u,fa0])
def mG (w:World)(b:Nat)(t:TypeId):Prop:=∃A,w.heap[b]? =some (.cells A t (0,0))
theorem mG.keep {w w':World}{b:Nat}{t:TypeId}(h:mG w b t)(k:Keep au w w'):mG w' b t:=by
 obtain⟨A,h⟩:=h;exact⟨A,(k.block b (lt_of_heap h) fun _ h=>h).trans h⟩
theorem mG.set {w:World}{b:Nat}{t:TypeId}(h:mG w b t)(i:Nat)(v:Value):mG (w.setCell ⟨b,i,none⟩ v) b t:=by
 obtain⟨A,h⟩:=h;exact⟨_,Go.Joins.block_setCell h v⟩
theorem mG.other {w:World}{b:Nat}{t:TypeId}(h:mG w b t){c:Nat}(hne:b≠c)(i:Nat)(v:Value):mG (w.setCell ⟨c,i,none⟩ v) b t:=by
 obtain⟨A,h⟩:=h;exact⟨A,(heap_setCell_other w ⟨c,i,none⟩ v b hne).trans h⟩
structure oO (w w':World)(b:Nat)(t:TypeId):Prop where
 fr:nH w w'
 ty:mG w' b t
 other:∀k,k≠b→w'.heap[k]? =w.heap[k]?
theorem oO.refl {w:World}{b:Nat}{t:TypeId}(h:mG w b t):oO w w b t:=⟨nH.refl _,h,fun _ _=>rfl⟩
theorem oO.set {w w':World}{b:Nat}{t:TypeId}(h:oO w w' b t)(ht:t≠TI∧t≠Jp)(i:Nat)(v:Value):oO w (w'.setCell ⟨b,i,none⟩ v) b t:=by
 obtain⟨A,hA⟩:=h.ty;exact⟨h.fr.trans (nH.set hA ht),h.ty.set i v,fun k hk=>(heap_setCell_other w' ⟨b,i,none⟩ v k hk).trans (h.other k hk)⟩
theorem IU {w:World}{b:Nat}{t:TypeId}(h:mG w b t)(ht:t≠TI∧t≠Jp)(a0 a1:Value):oO w ((w.setCell ⟨b,0,none⟩ a0).setCell ⟨b,1,none⟩ a1) b t:=((oO.refl h).set ht 0 a0).set ht 1 a1
theorem IV {w:World}{b:Nat}{t:TypeId}(h:mG w b t)(ht:t≠TI∧t≠Jp)(a0 a1 a2 a3 a4:Value):oO w (((((w.setCell ⟨b,0,none⟩ a0).setCell ⟨b,1,none⟩ a1).setCell ⟨b,2,none⟩ a2).setCell ⟨b,3,none⟩ a3).setCell ⟨b,4,none⟩ a4) b t:=(((((oO.refl h).set ht 0 a0).set ht 1 a1).set ht 2 a2).set ht 3 a3).set ht 4 a4
theorem oO.steps {w w':World}{b:Nat}{t:TypeId}(h:oO w w' b t){base:Nat}{v:Value}{l:List Sv.Stp}(hs:dx w base v l)(hb:∀j,v.ownBlock=some j→j≠b):dx w' base v l:=hs.fr h.fr fun j hj=>h.other j (hb j hj)
theorem keep2 {w0 w:World}(h:Keep au w0 w){b:Nat}(hb:w0.heap.size≤b)(a0 a1:Value):Keep au w0 ((w.setCell ⟨b,0,none⟩ a0).setCell ⟨b,1,none⟩ a1):=aQ (aQ h _ hb) _ hb
theorem keep5 {w0 w:World}(h:Keep au w0 w){b:Nat}(hb:w0.heap.size≤b)(a0 a1 a2 a3 a4:Value):Keep au w0 (((((w.setCell ⟨b,0,none⟩ a0).setCell ⟨b,1,none⟩ a1).setCell ⟨b,2,none⟩ a2).setCell ⟨b,3,none⟩ a3).setCell ⟨b,4,none⟩ a4):=aQ (aQ (aQ (aQ (aQ h _ hb) _ hb) _ hb) _ hb) _ hb
theorem Xk:(Tryz.prog.info? Jp).map (fun i=>(i.zero,i.size,i.bytes))=some (some (.bool false),1,1):=kr
theorem Ld (n:Nat):(madeCells (Value.bool false).cells (n*1)).toList=List.replicate n (Value.bool false):=by
 apply List.ext_getElem?;intro i;by_cases hi:i<n
 ·have hm:i%1=0:=Nat.mod_one i;simp [madeCells,Value.cells,hi,hm]
 rw [List.getElem?_eq_none (by simp [madeCells];omega),List.getElem?_eq_none (by simp;omega)]
theorem Le (w:World)(n:Nat)(hn:n≤1000000):∃w',(Instr.makeSlice 24 (.int .i64 (n:Int)) (.int .i64 (n:Int))).run Tryz.prog w= .ok (.slice (some ⟨w.heap.size,0,none⟩) n n) w'∧jl w' w.heap.size (List.replicate n false)∧Keep au w w':=by
 obtain⟨i0,hi0,hz0,hz1,hz2⟩:=info_parts Xk;obtain⟨w',hr,ho,hg⟩:=run_make_full (P:=Tryz.prog) w w.heap.size 24 Jp i0 (.bool false) 1 Tryz.underlying24 hi0 hz0 hz1 .i64 .i64 n (by rw [hz2];omega) (by unfold maxLen;omega) (Nat.le_refl _);refine⟨w',hr,⟨?_,by unfold maxLen;simp;omega⟩,Keep.of_below (dB hg w.heap.size (Nat.le_refl _) sm) (Nat.le_refl _)⟩;rw [List.map_replicate,←Ld];obtain⟨hl,h | ⟨g,cap,cur,hv,hb,hgg,hl',hm,hs,ht⟩⟩:=ho
 ·cases h.1
 cases hv;have e2:cur.toList.take (n*1)=cur.toList:=List.take_of_length_le (by rw [Array.length_toList,hs];omega);rw [hgg,←ht,e2,Array.toArray_toList]
theorem OE (vars:Nat):Sv.holdsT vars []=List.replicate vars false:=by
 unfold Sv.holdsT;apply List.ext_getElem
 ·simp
 intro i h1 h2;simp
theorem Lf {vars:Nat}{T:List Int}(hg:Cd.GoodT vars T){k:Nat}(hk:k<T.length):Sv.holdsT vars (T.take (k+1))=(Sv.holdsT vars (T.take k)).set (T[k].natAbs-1) (decide (0<T[k])):=by
 have h0:=hg.2 _ (List.getElem_mem hk);have hm:∀x,x∈T.take (k+1)↔x∈T.take k∨x=T[k]:=fun x=>by rw [List.take_succ_eq_append_getElem hk];simp only [List.mem_append,List.mem_singleton]
 unfold Sv.holdsT;apply List.ext_getElem
 ·simp
 intro i h1 h2;rw [List.getElem_set];simp only [List.getElem_map,List.getElem_range];split
 ·rename_i e;by_cases hp:0<T[k]
  ·rw [decide_eq_true hp];exact decide_eq_true ((hm _).2 (.inr om))
  rw [decide_eq_false hp];refine decide_eq_false fun q=> ?_;have q1:((i+1:Nat):Int)= -T[k]:=om;rw [q1]at q;exact hg.cons (List.getElem_mem hk) (List.mem_of_mem_take q)
 rename_i e;refine decide_eq_decide.2 ⟨fun q=>((hm _).1 q).resolve_right fun q1=>e om,fun q=>(hm _).2 (.inl q)⟩
theorem Vj (vars:Nat)(w:World)(oc:Option Addr)(cc:Nat)(cls:List (List Int))(ph fuel:Int)(hc:fM w (.slice oc cls.length cc) cls)(hok:Ar vars cls)(Nh:0≤ph∧ph≤2)(hfu:0<fuel∧fuel≤2000)(hU:∀t,Cd.runF (vars+1) cls ⟨[],[]⟩=(t,-1)→∀v:Nat,1≤v→v≤vars→(v:Int)∈t.lits∨ -(v:Int)∈t.lits):
  Calls Tryz.prog 57 #[.agg #[.int .i64 (vars:Int),.slice oc cls.length cc],.slice none 0 0,.agg #[.int .i64 0,.int .i64 0,.int .i64 0,.int .i64 ph],.int .i64 fuel] w (Rl vars (Sv.doC vars (ph==1) fuel.toNat cls) w):=by
 have CB:=zh (fun w' (k:Keep au w w')=>UN vars w' oc cc cls (hc.keep k) hok);have CO:=fun w'=>zh (Fu w' 0 0 0 ph fuel om om om Nh om);have CN:=fun w'=>zh (Qg w' oc cls.length cc);obtain⟨w2,hw2⟩:∃w2:World,w2=(((w.alloc (.cells #[.int .i64 (vars:Int),.slice oc cls.length cc] TCn)).alloc (.cells #[.int .i64 0,.int .i64 0,.int .i64 0,.int .i64 ph] TOp)).alloc (.cells #[.int .i64 0,.slice none 0 0,.slice none 0 0,.slice none 0 0,.int .i64 0] TAn)).alloc (.cells #[.int .i64 0,.int .i64 0] iZ):=⟨_,rfl⟩;have K2:Hid (Keep au w w2):=zh (by rw [hw2];exact((((Keep.refl _ _).alloc _).alloc _).alloc _).alloc _);have B1:Hid (aL w2 w.heap.size #[.int .i64 (vars:Int),.slice oc cls.length cc]):=zh (by rw [hw2];exact aL.old (aL.old (aL.old (aN _ _ rfl) _) _) _);have B2:Hid (aL w2 (w.heap.size+1) #[.int .i64 0,.int .i64 0,.int .i64 0,.int .i64 ph]):=zh (by rw [hw2];exact aL.old (aL.old (aN _ _ sm) _) _);have B3:Hid (aL w2 (w.heap.size+1+1) #[.int .i64 0,.slice none 0 0,.slice none 0 0,.slice none 0 0,.int .i64 0]):=zh (by rw [hw2];exact aL.old (aN _ _ sm) _);have B4:Hid (aL w2 (w.heap.size+1+1+1) #[.int .i64 0,.int .i64 0]):=zh (by rw [hw2];exact aN _ _ sm);have HC:=zh hc;have mg:=zh hok;have hv:vars≤120:=hok.v;obtain⟨t,r,hrun⟩:∃t r,Cd.runF (vars+1) cls ⟨[],[]⟩=(t,r):=⟨_,_,rfl⟩;have zbY:Cd.ClsOK vars cls:=fun c h=>(hok.c c h).1;have HR:=Sv.run_start zbY;rw [hrun]at HR;rw [Sv.doC_unit (ph:=ph==1) (fuel:=fuel.toNat) om hrun fun e=>hU t (by rw [hrun,e])];generalize zdl:(if r≠ -1 then Cd.Ans.no [[]] 1 else Cd.Ans.yes t.lits 0)=ans;have YH:=zh zdl;have zeX:=zh hrun;have HRQ:=zh HR;have ZB:=zh (show r= -1→∀v:Nat,1≤v→v≤vars→(v:Int)∈t.lits∨ -(v:Int)∈t.lits from fun e=>hU t (by rw [hrun,e]));have zeY:=zh zbY;have htl:t.lits.length≤vars:=HR.good.le;have e0:((0:Int)==fuel)=false:=by rw [beq_eq_false_iff_ne];omega
 clear hc hok Nh hfu hU hrun HR zbY zdl;go_enter Tryz.func57,Tryz.ntmps57;go_upto_region 1 with fail;rw [← hw2];have T3:Hid (mG w2 (w.heap.size+1+1) TAn):=zh ⟨_,by rw [hw2,heap_alloc_old _ _ _ sm];exact aK _ _ _ sm⟩;have T4:Hid (mG w2 (w.heap.size+1+1+1) iZ):=zh ⟨_,by rw [hw2];exact aK _ _ _ sm⟩;clear hw2;generalize hg1:w.heap.size=g1 at *;have mE:=zh hg1;clear hg1;have x0:w2.cell? ⟨g1,0,none⟩=some (.int .i64 (vars:Int)):=B1.out.cell 0;have x1:w2.cell? ⟨g1,1,none⟩=some (.slice oc cls.length cc):=B1.out.cell 1;have xl:=B1.out.lt;have CB:=zh (CB.out w2 K2.out);go_wp2_with fail;refine CB.out.mono ?_;rintro e w3 ⟨rfl,hk3⟩;have K4:Hid (Keep au w2 (w3.alloc (.cells #[.int .i64 0,.int .i64 0] iZ))):=zh (Keep.both hk3 ((Keep.refl _ _).alloc _));have B24:=zh (B2.out.keep K4.out);have y0:(w3.alloc (.cells #[.int .i64 0,.int .i64 0] iZ)).cell? ⟨g1+1,0,none⟩=some (.int .i64 0):=B24.out.cell 0;have y1:(w3.alloc (.cells #[.int .i64 0,.int .i64 0] iZ)).cell? ⟨g1+1,1,none⟩=some (.int .i64 0):=B24.out.cell 1;have y2:(w3.alloc (.cells #[.int .i64 0,.int .i64 0] iZ)).cell? ⟨g1+1,2,none⟩=some (.int .i64 0):=B24.out.cell 2;have y3:(w3.alloc (.cells #[.int .i64 0,.int .i64 0] iZ)).cell? ⟨g1+1,3,none⟩=some (.int .i64 ph):=B24.out.cell 3;have yl:=B24.out.lt;clear x0 x1 xl hk3 CB;go_upto_region 4 with fail;generalize w3.alloc (.cells #[.int .i64 0,.int .i64 0] iZ)=w4 at *;go_wp2_with fail;refine(CO _).out.mono ?_;rintro e w5 ⟨rfl,hk5⟩;have K6:Hid (Keep au w4 (w5.alloc (.cells #[.int .i64 0,.int .i64 0] iZ))):=zh (Keep.both hk5 ((Keep.refl _ _).alloc _));clear y0 y1 y2 y3 yl hk5 CO;go_upto_region 7 with fail;generalize w5.alloc (.cells #[.int .i64 0,.int .i64 0] iZ)=w6 at *;have B16:=zh (B1.out.keep (K4.out.both K6.out));have B26:=zh (B24.out.keep K6.out);have x0:w6.cell? ⟨g1,0,none⟩=some (.int .i64 (vars:Int)):=B16.out.cell 0;have x1:w6.cell? ⟨g1,1,none⟩=some (.slice oc cls.length cc):=B16.out.cell 1;have xl:=B16.out.lt;have y3:w6.cell? ⟨g1+1,3,none⟩=some (.int .i64 ph):=B26.out.cell 3;have yl:=B26.out.lt;refine aD (fun w'=>Keep au w6 w') [] [([0,1,2,3,4,5,6,7],8),([9],10)] [11] kr kr (Keep.refl _ _).drew ?_;intro X W hne hF hcl;have aY:=zh hcl;have z0:=fun x=>((hF x).cell xl).trans x0;have z1:=fun x=>((hF x).cell xl).trans x1;have z3:=fun x=>((hF x).cell yl).trans y3;have zl:=fun x=>bJ xl (hF x).size;have zm:=fun x=>bJ yl (hF x).size;clear hF hcl;simp only [aW,aJ,zl0,zl1,zl2,aX,Bool.false_eq_true,if_false]
 (repeat(quiet_step (fail)));refine wpQuiet_nil ?_
 refine ay rfl rfl fun K hK=> ?_;go_simp;refine(CN _).out.mono ?_;rintro e w7 ⟨b,gm,rfl,hl7⟩;have k7:Keep au w6 w7:=Keep.both (Keep.refl _ _).drew hl7.k;refine hK _ _ ⟨fun _=>aY.out _ k7,?_⟩;clear hK K
 (repeat(quiet_step (fail)));refine wpQuiet_nil ?_
 refine ay rfl rfl fun K hK=> ?_;go_simp;have k8:Keep au w6 (w7.alloc (.cells (P6 vars (ph==1) b (.slice none 0 0)) TSe)):=k7.alloc _;have HL8:=zh (hl7.keep ((Keep.refl _ _).alloc (.cells (P6 vars (ph==1) b (.slice none 0 0)) TSe)));have BS8:Hid (aL (w7.alloc (.cells (P6 vars (ph==1) b (.slice none 0 0)) TSe)) w7.heap.size (P6 vars (ph==1) b (.slice none 0 0))):=zh (aN _ _ rfl);refine hK _ _ ⟨fun _=>aY.out _ k8,?_⟩;clear hK K
 (repeat(quiet_step (fail)));refine wpQuiet_nil ?_
 refine NoPanic.normal ?_;obtain⟨bS,hbS⟩:∃bS,bS=w7.heap.size:=⟨_,rfl⟩;obtain⟨w8,hw8⟩:∃w8:World,w8=w7.alloc (.cells #[.int .i64 (vars:Int),.slice none 0 0,.bool (ph==1),.pointer (some ⟨b,0,none⟩),.slice none 0 0,.int .i64 0,.slice none 0 0] TSe):=⟨_,rfl⟩;rw [← hbS,←hw8];have zeZ:=lt_of_heap hl7.tb;have ze0:=hl7.m.lt;have zbZ:w8=w7.alloc (.cells (P6 vars (ph==1) b (.slice none 0 0)) TSe):=hw8;rw [← zbZ]at HL8;rw [← zbZ,←hbS]at BS8;have HN8:Hid (¬VY b gm (.slice none 0 0) (.slice none 0 0) bS):=zh (by unfold VY;rintro(h | h | h | h)<;>first | omega | cases h);have K8:Hid (Keep au w6 w8):=zh (by rw [hw8];exact k7.alloc _);have Uv:Hid (w6.drew.heap.size≤bS):=zh (by rw [hbS];exact hl7.k.size);have EM:Hid (Keep au w w6):=zh ((K2.out.both K4.out).both K6.out);have CP:=zh (NQ (fun k=>k<w6.drew.heap.size) vars w6.drew w8 b gm bS oc cc _ _ cls (ph==1) HL8.out HL8.out.offW ((((HC.out.keep EM.out).keep ((Keep.refl au w6).drew)).inn).keep HL8.out.k) zeY.out om BS8.out HN8.out Uv.out t r zeX.out htl);clear hw8 zbZ hl7 k7 k8 aY hne z0 z1 z3 zl zm zeZ ze0 hbS;go_wp2;go_loopg [13] 0 (fun gk s wr=>s= .int .i64 0∧wr=w8)
 case atStart=>exact⟨rfl,rfl⟩
 obtain⟨rfl,hw⟩:=hrel;have hw:w8=wr:=hw.symm;subst hw;go_wp2_with fail;refine CP.out.mono ?_;rintro e w9 ⟨rfl,xC,Ij,Ii,hl9,hb9,hn9⟩;have HL9:=zh hl9;have EJ:=zh hb9;clear hl9 hb9 hn9 CP;have K9:Hid (Keep au w w9):=zh ((EM.out.both (Keep.refl _ _).drew).both HL9.out.k);by_cases hr:r= -1
 case neg=>
  obtain⟨k,hk,-⟩:=HRQ.out.bad hr;simp only at hk;subst hk;have hge:(0:Int)≤(k:Int):=om;obtain rfl:ans=Cd.Ans.no [[]] 1:=YH.out.symm.trans (if_pos hr);clear hr;have K69:Hid (Keep au w6 w9):=zh ((Keep.refl _ _).drew.both HL9.out.k);have CNO:=zh (V4 w6 w9 vars b bS (ph==1) Ii 1 K69.out Uv.out EJ.out);obtain⟨x0,x1,x2,x3,x4,x5,x6,f4,xl⟩:=kD EJ.out;go_wp2_with fail;refine CNO.out.mono ?_;rintro e w10 ⟨o,c,rfl,hst,hk10⟩;have HST:=zh hst;have ZH:=zh hk10;have Xl:Hid (Keep au w2 w10):=zh ((K4.out.both K6.out).both hk10);have MR:=K9.out.size;clear hst hk10 CNO x0 x1 x2 x3 x4 x5 x6 f4 xl;have nN:=B3.out.keep Xl.out;have DU:=B4.out.keep Xl.out;have c0:=nN.cell 0;have c1:=nN.cell 1;have c2:=nN.cell 2;have c3:=nN.cell 3;have c4:=nN.cell 4;have f0:=nN.free 0;have f1:=nN.free 1;have f2:=nN.free 2;have f3:=nN.free 3;have f4:=nN.free 4;have d0:=DU.cell 0;have d1:=DU.cell 1;have e1:=DU.free 0;have e2:=DU.free 1;have bl:=nN.lt;have dl:=DU.lt;have HBL:=zh bl;have HDL:=zh (B4.out.lt);simp at c0 c1 c2 c3 c4 d0 d1;go_wp2;refine bodyPost_ret (by simp [results,Tryz.results57,go_sem,c0,c1,c2,c3,c4,d0,d1,bl,dl];rfl) rfl ?_;have hg1:=mE.out;have hd2:=HDL.out;have hd9:g1+1+1+1<w9.heap.size:=bJ hd2 ((K4.out.both K6.out).both K69.out).size;refine⟨keep2 (keep5 (K2.out.both Xl.out) om _ _ _ _ _) om _ _,o,c,rfl,?_⟩;have q5:=IV (T3.out.keep Xl.out) ⟨dc,dc⟩ (.int .i64 2) (.slice none 0 0) (.slice o 1 c) (.slice none 0 0) (.int .i64 1);have s5:=q5.steps HST.out fun j hj=>by have:=(HST.out.lt j hj).1;omega
  have hsep:g1+1+1+1≠g1+1+1:=om;have t5:mG _ (g1+1+1+1) iZ:=(((((T4.out.keep Xl.out).other hsep 0 (.int .i64 2)).other hsep 1 (.slice none 0 0)).other hsep 2 (.slice o 1 c)).other hsep 3 (.slice none 0 0)).other hsep 4 (.int .i64 1);exact((IU t5 ⟨dc,dc⟩ _ _).steps s5 fun j hj=>by have:=(HST.out.lt j hj).1;omega).mono om
 subst hr;obtain rfl:ans=Cd.Ans.yes t.lits 0:=YH.out.symm.trans (if_neg sm);have K69:Hid (Keep au w6 w9):=zh ((Keep.refl _ _).drew.both HL9.out.k);have CD:=zh (RD vars w6.drew w9 b gm bS _ _ _ _ (ph==1) t HL9.out om EJ.out (ZB.out rfl));obtain⟨w11,hr11,hb11,hk11⟩:=Le w9 vars om;have B19:=B16.out.keep K69.out;have x0:w9.cell? ⟨g1,0,none⟩=some (.int .i64 (vars:Int)):=B19.cell 0;have xl:=B19.lt;go_wp2_with fail;refine CD.out.mono ?_;rintro e w10 ⟨rfl,hw⟩;subst hw;generalize hg9:w10.heap.size=g9 at *;have HG9:=zh hg9;have K11:=zh hk11;have Xm:Hid (jl w11 g9 (Sv.holdsT vars (t.lits.take 0))):=zh (by rw [List.take_zero,OE];exact hb11);have HGD:=zh HRQ.out.good;clear hb11 hk11 CD B19 hg9;have ze1:=zh (EJ.out.keep K11.out);have Xn:=zh (HL9.out.keep K11.out);obtain⟨y0,y1,y2,y3,y4,y5,y6,f4,yl⟩:=kD ze1.out;obtain⟨ol,cl,rfl⟩:=Xn.out.l.len;have u1:w11.cell? ⟨b,1,none⟩=some (.slice ol t.lits.length cl):=by have:=cell_of_heap (o:=1) Xn.out.tb rfl;exact this
 have ul:=lt_of_heap Xn.out.tb;have zH:Hid (aR w11 (.slice ol t.lits.length cl) t.lits):=zh (Xn.out.l.ints fun x hx=>by have:=(HGD.out.2 x hx).2;unfold dA;omega);clear y0 y1 y2 y4 y5 y6 f4;generalize hn:t.lits.length=n at *;have Zi:=zh hn;clear hn;go_wp2;go_loopw [108] (fun s wr=>∃k:Nat,k≤n∧s= .int .i64 k∧jl wr g9 (Sv.holdsT vars (t.lits.take k))∧Keep au w10 wr∧(∀j,j<w11.heap.size→j≠g9→wr.heap[j]? =w11.heap[j]?)∧w11.heap.size≤wr.heap.size) (fun s _=>(n-intOf s).toNat)
 case atStart=>exact⟨0,om,rfl,Xm.out,K11.out,fun j _ _=>rfl,Nat.le_refl _⟩
 obtain⟨k,hk,rfl,hbr,hkr,hor,hsr⟩:=hrel;have Bg:=zh hbr;have KR:=zh hkr;have VP:=zh hor;have qJ:=zh hsr;clear hbr hkr hor hsr u1 ul y3 yl x0 xl;have h9:=HG9.out;have h11:g9<w11.heap.size:=lt_of_heap Xm.out.1;by_cases hkl:k<n
 case pos=>
  have hlt:(k:Int)<(n:Int):=om;have hkT:k<t.lits.length:=by rw [Zi.out];exact hkl
  have HIR:Hid (aR wr (.slice ol n cl) t.lits):=zh (by
   have hI:=zH.out;have hO:=Xn.out.l;obtain⟨oa,cap,e1,e2,e3,e4⟩:=hI;refine⟨oa,cap,e1,e2,e3,fun hne=> ?_⟩;obtain⟨bb,oo,q1,q2,q3⟩:=e4 hne;injection e1 with z1 z2 z3;have Io:(Value.slice ol n cl).ownBlock=some bb:=by rw [z1,q1];rfl
   have hne9:bb≠g9:=by
    rintro rfl;obtain⟨A,hA⟩:=jA hO Io;rw [Xm.out.1]at hA;injection hA with hA;injection hA with _ hA;exact absurd hA dc
   refine⟨bb,oo,q1,bJ q2 qJ.out,fun i x hx=> ?_⟩;rw [← q3 i x hx];exact World.cell?_of_block (VP.out bb q2 hne9))
  obtain⟨bc,fc,cap,hv',hbc,p0⟩:=HIR.out.at hkT;injection hv' with q1 q2 q3;clear q2;subst q1;subst q3;have hx1:=HIR.out.all _ (List.getElem_mem hkT);have hx2:=HGD.out.2 _ (List.getElem_mem hkT);have HST:=zh (Lf HGD.out hkT);have hlen:(Sv.holdsT vars (t.lits.take k)).length=vars:=by simp [Sv.holdsT]
  generalize Sv.holdsT vars (t.lits.take k)=H0 at *;generalize t.lits[k]=x at *;obtain⟨j,hj⟩:∃j,x.natAbs=j+1:=⟨x.natAbs-1,om⟩;have CV:=zh (xV wr x hx1 (by unfold dA;omega));rw [hj]at CV HST;have hjv:j<vars:=om;have e5:((j+1:Nat):Int)-1=(j:Int):=om;have e6:((j:Int)+1)-1=(j:Int):=om;rw [Nat.add_sub_cancel]at HST;have hjl:(j:Int)<(vars:Int):=om;obtain⟨m,m0⟩:∃y,wr.cell? ⟨g9,j,none⟩=some (.bool y):=⟨H0[j]' om,cell_of_heap (o:=j) Bg.out.1 (by simp [hlen,hjv])⟩;have m1:wr.frozen? ⟨g9,j,none⟩=false:=bE Bg.out.1;have ml:=lt_of_heap Bg.out.1;have lY:=zh (Bg.out.set j (decide (0<x)));have KNX:=zh (aQ KR.out (b:=g9) (i:=j) (.bool (decide (0<x))) om);have hj9:j≤1000:=om;clear hx1 hx2 hj hlen;go_wp2_with fail;refine CV.out.mono ?_;rintro e w12 ⟨rfl,hw⟩;subst hw;go_wp2;go_roundw
  case rel=>exact⟨k+1,om,gn,by rw [HST.out];exact lY.out,KNX.out,fun q hq hne=>(heap_setCell_other _ ⟨g9,j,none⟩ _ q hne).trans (VP.out q hq hne),by simpa using qJ.out⟩
  simp [intOf];omega
 have hlt:¬(k:Int)<(n:Int):=om;have HBE:Hid (jl wr g9 (Sv.holdsT vars t.lits)):=zh (by have:=Bg.out;rwa [List.take_of_length_le (by rw [Zi.out];omega)]at this);have K2r:Hid (Keep au w2 wr):=zh (((K4.out.both K6.out).both K69.out).both KR.out);clear Bg;have nN:=B3.out.keep K2r.out;have DU:=B4.out.keep K2r.out;have c0:=nN.cell 0;have c1:=nN.cell 1;have c2:=nN.cell 2;have c3:=nN.cell 3;have c4:=nN.cell 4;have f0:=nN.free 0;have f1:=nN.free 1;have f2:=nN.free 2;have f3:=nN.free 3;have f4:=nN.free 4;have d0:=DU.cell 0;have d1:=DU.cell 1;have e1:=DU.free 0;have e2:=DU.free 1;have bl:=nN.lt;have dl:=DU.lt;have HDL:=zh (B4.out.lt);simp at c0 c1 c2 c3 c4 d0 d1;clear h9 h11;go_wp2;refine bodyPost_ret (by simp [results,Tryz.results57,go_sem,c0,c1,c2,c3,c4,d0,d1,bl,dl];rfl) rfl ?_;have hg1:=mE.out;have hd2:=HDL.out;have h9:=HG9.out;have hd9:g1+1+1+1<g9:=by have:=((K4.out.both K6.out).both K69.out).size;omega
 refine⟨keep2 (keep5 (K2.out.both K2r.out) om _ _ _ _ _) om _ _,g9,om,rfl,?_⟩;have q5:=IV (T3.out.keep K2r.out) ⟨dc,dc⟩ (.int .i64 1) (.slice (some ⟨g9,0,none⟩) vars vars) (.slice none 0 0) (.slice none 0 0) (.int .i64 0);have hsep:g1+1+1+1≠g1+1+1:=om;have t5:mG _ (g1+1+1+1) iZ:=(((((T4.out.keep K2r.out).other hsep 0 (.int .i64 1)).other hsep 1 (.slice (some ⟨g9,0,none⟩) vars vars)).other hsep 2 (.slice none 0 0)).other hsep 3 (.slice none 0 0)).other hsep 4 (.int .i64 0);exact(HBE.out.fr q5.fr).fr (IU t5 ⟨dc,dc⟩ _ _).fr
def oN {α:Type}(c:α→List Value)(w:World)(v:Value)(l:List α):Prop:=∃oa cap,v= .slice oa l.length cap∧(0<l.length→∃a,oa=some a∧∀j u,(l.flatMap c)[j]? =some u→w.cell? (a.add j)=some u)
theorem vJ {α:Type}{c:α→List Value}{K:Nat}(hK:∀x,(c x).length=K){w:World}{l:List α}{b o:Nat}(h:∀(i:Nat) (x:α),l[i]? =some x→∀(j:Nat) (u:Value),(c x)[j]? =some u→w.cell? ⟨b,o+i*K+j,none⟩=some u):∀(m:Nat) (u:Value),(l.flatMap c)[m]? =some u→w.cell? ((⟨b,o,none⟩:Addr).add m)=some u:=by
 intro m u hm;have hml:=(List.getElem?_eq_some_iff.1 hm).1;rw [Lg hK]at hml;have h0:0<K:=by
  rcases Nat.eq_zero_or_pos K with q | q
  ·rw [q,Nat.mul_zero]at hml;omega
  exact q
 have hi:m/K<l.length:=Nat.div_lt_of_lt_mul (by rw [Nat.mul_comm];exact hml);have hj:=Nat.mod_lt m h0;have e:m/K*K+m%K=m:=by rw [Nat.mul_comm];exact Nat.div_add_mod m K
 have hx:=eD hi;have hg:=flat_get hK l (m/K) _ hx (m%K) hj;rw [e,hm]at hg;rw [show(⟨b,o,none⟩:Addr).add m=⟨b,o+m,none⟩from by unfold Addr.add;split<;>simp_all];have:=h (m/K) _ hx (m%K) u hg.symm;rwa [Nat.add_assoc,e]at this
theorem aO.src {α:Type}{T:TypeId}{c:α→List Value}{K:Nat}(hK:∀x,(c x).length=K){w:World}{base:Nat}{v:Value}{l:List α}(h:aO T K c w base v l):oN c w v l:=by
 obtain⟨oa,cap,e,_,_⟩:=aO.len h;refine⟨oa,cap,e,fun h0=> ?_⟩;obtain⟨g,cap',e',_,_,hc⟩:=aO.cells hK h (by rintro rfl;simp at h0);rw [e]at e';injection e' with q1;exact⟨_,q1,vJ hK hc⟩
theorem J7 {α:Type}{T:TypeId}{c:α→List Value}{K:Nat}(hK:∀x,(c x).length=K)(h1:∀x,∀u∈c x,u.oneCell'=true){sl:TypeId}{i:TypeInfo}{z:Value}{bytes:Nat}(hu:Tryz.prog.underlying sl=some (.slice T))(hi:Tryz.prog.info? T=some i)(hz:i.zero=some z)(hs:i.size=K)(hb:i.bytes=bytes)(hzs:z.cells.size=K)(h0:0<K)
  {w:World} {base:Nat} {v u:Value} {xs ys:List α} (hown:aO T K c w base v xs) (hsr:oN c w u ys) (hmx:xs.length+ys.length≤100000) (hby:bytes≤1000) (hbase:base≤w.heap.size):
  ∃v' w',(Builtin.append_ #[sl,sl] sl #[v,u]).run Tryz.prog w= .ok v' w'∧aO T K c w' base v' (xs++ys)∧w.grownBy w' v.ownBlock:=by
 obtain⟨oa,cap,rfl,hsrc⟩:=hsr;have hbb:(xs.length+ys.length)*bytes≤100000*1000:=Nat.mul_le_mul hmx hby;obtain⟨v',w',hr,ho,hg⟩:=vE (P:=Tryz.prog) (w:=w) (ty:=sl) hu hi hz hs hb hzs h0 base v xs.length (xs.flatMap c) hown oa ys.length cap (ys.flatMap c) (Lg hK ys) hsrc (fun u hu=>by obtain⟨x,_,hx⟩:=List.mem_flatMap.1 hu;exact h1 x u hx) (by unfold maxLen;omega) om hbase;exact⟨v',w',hr,by unfold aO;rw [List.flatMap_append,List.length_append];exact ho,hg⟩
def inC (x:Int):List Value:= [.int .i64 x]
def VO (x:Bool):List Value:= [.bool x]
theorem zao (x:Int):(inC x).length=1:=rfl
theorem IW (x:Bool):(VO x).length=1:=rfl
theorem Qw (l:List Int):l.flatMap inC=iv l:=by
 induction l with
 | nil=>rfl
 | cons x l ih=>rw [List.flatMap_cons,ih];rfl
theorem Vi {w:World}{base:Nat}{v:Value}{l:List Int}(h:aO TI 1 inC w base v l):bC w base v l:=by
 unfold aO at h;rw [Qw]at h;exact h
theorem aR.srcG {w:World}{v:Value}{l:List Int}(h:aR w v l):oN inC w v l:=by
 obtain⟨oa,cap,e,hc⟩:=h.src;exact⟨oa,cap,e,by rw [Qw];exact hc⟩
theorem dZ.srcG {w:World}{v:Value}{l:List Bool}(h:dZ w v l):oN VO w v l:=by
 obtain⟨oa,cap,e,_,_,hc⟩:=h;refine⟨oa,cap,e,fun h0=> ?_⟩;obtain⟨b,o,q,_,h4⟩:=hc (by rintro rfl;simp at h0);refine⟨_,q,vJ IW fun i x hx j u hj=> ?_⟩;have hj0:j=0:=by have:=(List.getElem?_eq_some_iff.1 hj).1;rw [IW]at this;omega
 subst hj0;simp [VO]at hj;subst hj;have:=h4 i x hx;simpa using this
theorem zaq (x:Int):∀u∈inC x,u.oneCell'=true:=by
 intro u hu;simp [inC]at hu;rcases hu with rfl;rfl
theorem zar (x:Bool):∀u∈VO x,u.oneCell'=true:=by
 intro u hu;simp [VO]at hu;rcases hu with rfl;rfl
theorem lG {α:Type}{c:α→List Value}{K:Nat}{w w':World}{v:Value}{l:List α}(h:oN c w v l)(hk:Keep au w w'):oN c w' v l:=by
 obtain⟨oa,cap,e,hc⟩:=h;refine⟨oa,cap,e,fun h0=> ?_⟩;obtain⟨a,q,h4⟩:=hc h0;refine⟨a,q,fun j u hj=> ?_⟩;have:=h4 j u hj;rw [← this];have hl:(a.add j).block<w.heap.size:=by
  apply Classical.byContradiction;intro h';rw [World.cell?,Array.getElem?_eq_none (Nat.le_of_not_lt h')]at this;cases this
 exact World.cell?_of_block (hk.block _ hl fun _ h=>h)
theorem wV (w:World)(v:Value)(l:List _)(h:oN inC w v l)(hl:l.length≤10000):Calls Tryz.prog 26 #[v] w fun e w'=>∃v',e= .returned v'∧aO TI 1 inC w' w.heap.size v' l∧Keep au w w':=by
 have H:=zh h;obtain⟨oa,cap,hv,hc⟩:=h;subst hv;have hn:=fun w=>Go.Lib.run_eql_slice_nil (P:=Tryz.prog) w 22 TI oa l.length cap 0 0 Tryz.underlying22;rcases oa with _ | a
 ·have hl0:l= []:=by
   rcases l with _ | ⟨x,l⟩
   ·rfl
   obtain⟨_,h,_⟩:=hc sm;cases h
  subst hl0;clear hc;simp only [List.length_nil,Option.isNone_none,Option.isNone_some]at hn ⊢;go_enter Tryz.func26,Tryz.ntmps26;go_wp2;refine bodyPost_ret (by simp [results,Tryz.results26,go_sem];rfl) rfl ?_;exact⟨_,rfl,aO.nil _ _,Keep.refl _ _⟩
 clear hc;simp only [Option.isNone_none,Option.isNone_some]at hn;have k1:Keep au w (w.alloc (.cells #[] TI)):=(Keep.refl _ _).alloc _;obtain⟨i,hi,hz,hs,hb⟩:=info_parts Fy;have hown:aO TI 1 inC (w.alloc (.cells #[] TI)) w.heap.size (.slice (some ⟨w.heap.size,0,none⟩) 0 0) []:=by unfold aO;exact qI (Nat.le_refl _)
 obtain⟨v',w',hr,ho',hg⟩:=J7 zao zaq (T:=TI) Tryz.underlying22 hi hz hs hb rfl dc hown (lG (K:=1) H.out k1) (by simp;omega) dc k1.size;have HO:=zh ho';have HK:Hid (Keep au w w'):=zh (k1.grown hg fun k hk=>by cases hk;exact Nat.le_refl _);clear ho' hg k1 hown;go_enter Tryz.func26,Tryz.ntmps26;go_wp2_with (at_builtin;refine aV _ _ 22 _ _ rfl rfl rfl rfl hr ?_);refine bodyPost_ret (by simp [results,Tryz.results26,go_sem];rfl) rfl ?_;exact⟨_,rfl,HO.out,HK.out⟩
theorem NI (w:World)(v:Value)(l:List _)(h:oN VO w v l)(hl:l.length≤10000):Calls Tryz.prog 64 #[v] w fun e w'=>∃v',e= .returned v'∧aO Jp 1 VO w' w.heap.size v' l∧Keep au w w':=by
 have H:=zh h;obtain⟨oa,cap,hv,hc⟩:=h;subst hv;have hn:=fun w=>Go.Lib.run_eql_slice_nil (P:=Tryz.prog) w 24 Jp oa l.length cap 0 0 Tryz.underlying24;rcases oa with _ | a
 ·have hl0:l= []:=by
   rcases l with _ | ⟨x,l⟩
   ·rfl
   obtain⟨_,h,_⟩:=hc sm;cases h
  subst hl0;clear hc;simp only [List.length_nil,Option.isNone_none,Option.isNone_some]at hn ⊢;go_enter Tryz.func64,Tryz.ntmps64;go_wp2;refine bodyPost_ret (by simp [results,Tryz.results64,go_sem];rfl) rfl ?_;exact⟨_,rfl,aO.nil _ _,Keep.refl _ _⟩
 clear hc;simp only [Option.isNone_none,Option.isNone_some]at hn;have k1:Keep au w (w.alloc (.cells #[] Jp)):=(Keep.refl _ _).alloc _;obtain⟨i,hi,hz,hs,hb⟩:=info_parts Xk;have hown:aO Jp 1 VO (w.alloc (.cells #[] Jp)) w.heap.size (.slice (some ⟨w.heap.size,0,none⟩) 0 0) []:=by unfold aO;exact qI (Nat.le_refl _)
 obtain⟨v',w',hr,ho',hg⟩:=J7 IW zar (T:=Jp) Tryz.underlying24 hi hz hs hb rfl dc hown (lG (K:=1) H.out k1) (by simp;omega) dc k1.size;have HO:=zh ho';have HK:Hid (Keep au w w'):=zh (k1.grown hg fun k hk=>by cases hk;exact Nat.le_refl _);clear ho' hg k1 hown;go_enter Tryz.func64,Tryz.ntmps64;go_wp2_with (at_builtin;refine aV _ _ 24 _ _ rfl rfl rfl rfl hr ?_);refine bodyPost_ret (by simp [results,Tryz.results64,go_sem];rfl) rfl ?_;exact⟨_,rfl,HO.out,HK.out⟩
abbrev rD:TypeId:=36
abbrev Bv:TypeId:=29
structure GA where
 k:Int
 o:Option Addr
 c:Nat
 r:Rw
def Jo (a:GA):List Value:= [.int .i64 a.k,.int .i64 0,.int .i64 0,.slice a.o a.r.of.length a.c,.int .i64 a.r.kind,.int .i64 a.r.to]
def gaV (a:GA):Value:= .agg #[.int .i64 a.k,.int .i64 0,.int .i64 0,.slice a.o a.r.of.length a.c,.int .i64 a.r.kind,.int .i64 a.r.to]
def gaR (a:GA):Value:= .agg #[.slice a.o a.r.of.length a.c,.int .i64 a.r.kind,.int .i64 a.r.to]
theorem sG (a:GA):(Jo a).length=6:=rfl
theorem Qi (x:GA):∀u∈Jo x,u.oneCell'=true:=by
 intro u hu;simp [Jo]at hu;rcases hu with rfl | rfl | rfl | rfl | rfl | rfl<;>rfl
theorem infoAt:(Tryz.prog.info? rD).map (fun i=>(i.zero,i.size,i.bytes))=some (some (.agg #[.int .i64 0,.int .i64 0,.int .i64 0,.slice none 0 0,.int .i64 0,.int .i64 0]),6,64):=kr
def Uy (w:World)(a:GA):Prop:=aR w (.slice a.o a.r.of.length a.c) a.r.of∧a.r.of.length≤a.c∧a.c≤maxLen
theorem Uy.keep {w w':World}{a:GA}(h:Uy w a)(k:Keep au w w'):Uy w' a:=⟨h.1.keep k,h.2⟩
def JZ (n:Nat)(a:GA):Prop:=(a.k=1∧a.r=⟨[],0,0⟩)∨(a.k=3∧a.r.kind=1∧a.r.of.length=n∧0<n∧iA a.r (n:Int))
theorem zb0 {x:Int}(h:fO x):dA x:=by unfold fO at h;unfold dA;omega
theorem Uy.row {w:World}{a:GA}{n:Int}(h:Uy w a)(hr:iA a.r n):tF w (gaR a) a.r:=
 ⟨_,rfl,h.1,by have:=hr.kind;unfold dA;omega,zb0 hr.fto,⟨_,_,_,rfl,h.2.1⟩⟩
theorem zas {r:Rw}{n:Int}(h:iA r n):ku r n=(0,0):=by
 have h0:=h.n0;have h1:=h.n12;have h2:=h.len;unfold ku;rw [if_neg om,if_neg (not_not_intro h.kind),if_neg om];have:∀(l:List Int) (i:Nat),(∀x∈l,fO x)→eF l i=(0,0):=by
  intro l
  induction l with
  | nil=>intro i _;rfl
  | cons x l ih=>intro i hx;rw [eF,if_pos (hx x sm)];exact ih _ fun y hy=>hx y (by simp [hy])
 refine this _ _ fun x hx=> ?_;rcases List.mem_append.1 hx with hx | hx
 ·exact h.fit x hx
 rw [List.mem_singleton.1 hx];exact h.fto
def lN (w:World)(v:Value)(l:List GA):Prop:=
 ∃oa cap,v= .slice oa l.length cap∧l.length≤cap∧cap≤maxLen∧(∀a∈l,Uy w a)∧(l≠ []→∃b o,oa=some ⟨b,o,none⟩∧b<w.heap.size∧∀i a,l[i]? =some a→∀j u,(Jo a)[j]? =some u→w.cell? ⟨b,o+i*6+j,none⟩=some u)
theorem lN.len {w:World}{v:Value}{l:List GA}(h:lN w v l):∃oa cap,v= .slice oa l.length cap∧l.length≤cap∧cap≤maxLen:=by
 obtain⟨oa,cap,h1,h2,h3,_⟩:=h;exact⟨oa,cap,h1,h2,h3⟩
theorem lN.keep {w w':World}{v:Value}{l:List GA}(h:lN w v l)(k:Keep au w w'):lN w' v l:=by
 obtain⟨oa,cap,h1,h2,h3,hg,h4⟩:=h;refine⟨oa,cap,h1,h2,h3,fun a ha=>(hg a ha).keep k,fun hne=> ?_⟩;obtain⟨b,o,e,hb,hc⟩:=h4 hne;exact⟨b,o,e,bJ hb k.size,fun i a hi j u hj=>(k.cell hb).trans (hc i a hi j u hj)⟩
theorem lN.mem {w:World}{v:Value}{l:List GA}(h:lN w v l):∀a∈l,Uy w a:=by
 obtain⟨_,_,_,_,_,hg,_⟩:=h;exact hg
theorem lN.at {w:World}{oa:Option Addr}{n cap:Nat}{l:List GA}(h:lN w (.slice oa n cap) l){k:Nat}(hk:k<l.length):
  ∃b o,oa=some ⟨b,o,none⟩∧b<w.heap.size∧w.cell? ⟨b,o+k*6,none⟩=some (.int .i64 l[k].k)∧w.cell? ⟨b,o+k*6+1,none⟩=some (.int .i64 0)∧w.cell? ⟨b,o+k*6+2,none⟩=some (.int .i64 0)∧w.cell? ⟨b,o+k*6+3,none⟩=some (.slice l[k].o l[k].r.of.length l[k].c)∧w.cell? ⟨b,o+k*6+4,none⟩=some (.int .i64 l[k].r.kind)∧w.cell? ⟨b,o+k*6+5,none⟩=some (.int .i64 l[k].r.to):=by
 obtain⟨MP,cap',hv,_,_,_,h4⟩:=h;cases hv;obtain⟨b,o,e,hb,hc⟩:=h4 (by rintro rfl;simp at hk);have:=hc k l[k] (by simp [hk]);exact⟨b,o,e,hb,this 0 _ rfl,this 1 _ rfl,this 2 _ rfl,this 3 _ rfl,this 4 _ rfl,this 5 _ rfl⟩
theorem lN.srcG {w:World}{v:Value}{l:List GA}(h:lN w v l):oN Jo w v l:=by
 obtain⟨oa,cap,e,_,_,_,hc⟩:=h;refine⟨oa,cap,e,fun h0=> ?_⟩;obtain⟨b,o,q,_,h4⟩:=hc (by rintro rfl;simp at h0);exact⟨_,q,vJ sG h4⟩
structure GF where
 n:Nat
 atoms:List GA
 cls:List (List Int)
structure jZ where
 oi:Option Addr
 ci:Nat
 oa:Option Addr
 ca:Nat
 oc:Option Addr
 cc:Nat
def jZ.v (L:jZ)(f:GF):Value:= .agg #[.slice none 0 0,.slice L.oi f.n L.ci,.slice L.oa f.atoms.length L.ca,.slice L.oc f.cls.length L.cc]
structure qm (w:World)(L:jZ)(f:GF):Prop where
 i:dZ w (.slice L.oi f.n L.ci) (List.replicate f.n false)
 a:lN w (.slice L.oa f.atoms.length L.ca) f.atoms
 c:fM w (.slice L.oc f.cls.length L.cc) f.cls
theorem qm.keep {w w':World}{L:jZ}{f:GF}(h:qm w L f)(k:Keep au w w'):qm w' L f:=⟨h.i.keep k,h.a.keep k,h.c.keep k⟩
structure rQ (f:GF):Prop where
 n12:f.n≤12
 n:f.atoms.length≤20
 a:∀a∈f.atoms,JZ f.n a
 c:Ar f.atoms.length f.cls
theorem zat (w:World)(L:jZ)(f:GF)(a:GA)(hm:Uy w a)(ha:JZ f.n a):
  Calls Tryz.prog 53 #[L.v f,gaV a] w fun e w'=>e= .returned (.int .i64 0)∧Keep au w w':=by
 unfold jZ.v gaV;obtain⟨k,o,c,of,kd,tt⟩:=a;obtain⟨oi,ci,oa,ca,oc,cc⟩:=L;simp only;generalize f.n=n at *;generalize f.atoms.length=m at *;generalize f.cls.length=q at*;rcases ha with⟨h1,h2⟩ | ⟨h1,h2,h3,h4,h5⟩
 ·simp only at h1 h2;injection h2 with h2 h3 h4;subst h1 h2 h3 h4;simp only [List.length_nil];have KA:Hid (Keep au w ((w.alloc (.cells #[.slice none 0 0,.slice oi n ci,.slice oa m ca,.slice oc q cc] Bv)).alloc (.cells #[.int .i64 1,.int .i64 0,.int .i64 0,.slice o 0 c,.int .i64 0,.int .i64 0] rD))):=zh (((Keep.refl _ _).alloc _).alloc _);clear hm;go_enter Tryz.func53,Tryz.ntmps53;go_wp2;go_ret;exact⟨rfl,KA.out⟩
 simp only at h1 h2 h3 h5;subst h1;have CR:=zh (fun w' (k:Keep au w w')=>xY w' _ ⟨of,kd,tt⟩ (n:Int) ((hm.row h5).keep k));rw [zas h5]at CR;unfold gaR fV at CR;simp only at CR hm;rw [h3]at CR ⊢;have e1:((n:Int)==0)=false:=by rw [beq_eq_false_iff_ne];omega
 have KA:Hid (Keep au w ((w.alloc (.cells #[.slice none 0 0,.slice oi n ci,.slice oa m ca,.slice oc q cc] Bv)).alloc (.cells #[.int .i64 3,.int .i64 0,.int .i64 0,.slice o n c,.int .i64 kd,.int .i64 tt] rD))):=zh (((Keep.refl _ _).alloc _).alloc _);clear hm h5 h3 h4;subst h2;go_enter Tryz.func53,Tryz.ntmps53;go_wp2_with fail;refine(CR.out _ KA.out).mono ?_;rintro e w3 ⟨rfl,hk3⟩;have K3:Hid (Keep au w w3):=zh (KA.out.both hk3);clear hk3 CR;go_wp2;go_ret;exact⟨rfl,K3.out⟩
theorem wU (w:World)(L:jZ)(f:GF)(h:qm w L f)(hok:rQ f):
  Calls Tryz.prog 23 #[L.v f] w fun e w'=>e= .returned (.agg #[.int .i64 0,.int .i64 0])∧Keep au w w':=by
 have HA:=zh h.a;have Ns:=zh hok.a;have CA:=zh (fun w' a (hm:Uy w' a) (ha:JZ f.n a)=>zat w' L f a hm ha);have CC:=zh (fun w' (k:Keep au w w')=>Fj f.atoms.length w' L.oc L.cc f.cls (h.c.keep k) hok.c);have hn:=hok.n12;have hm:=hok.n;unfold jZ.v at CA ⊢;obtain⟨oi,ci,oa,ca,oc,cc⟩:=L;simp only at CA CC HA ⊢;obtain⟨n,hn'⟩:∃n,f.n=n:=⟨_,rfl⟩;obtain⟨m,hm'⟩:∃m,f.atoms.length=m:=⟨_,rfl⟩;have HN:=zh hn';have HM:=zh hm';rw [hn']at CA Ns hn ⊢;rw [hm']at CA CC HA hm ⊢;generalize f.cls.length=q at *;clear h hok hn' hm';have e1:¬(12:Int)<(n:Int):=om;have e2:¬(120:Int)<(m:Int):=om;obtain⟨w2,hw2⟩:∃w2:World,w2=(w.alloc (.cells #[.slice none 0 0,.slice oi n ci,.slice oa m ca,.slice oc q cc] Bv)).alloc (.cells #[.int .i64 0,.int .i64 0] iZ):=⟨_,rfl⟩;obtain⟨b2,hb2⟩:∃b2,b2=w.heap.size+1:=⟨_,rfl⟩;have K2:Hid (Keep au w w2):=zh (by rw [hw2];exact((Keep.refl _ _).alloc _).alloc _);have HB1:Hid (w2.heap[w.heap.size]? =some (.cells #[.slice none 0 0,.slice oi n ci,.slice oa m ca,.slice oc q cc] Bv (0,0))):=zh (by rw [hw2,heap_alloc_old _ _ _ sm];exact aK _ _ _ rfl);have HB2:Hid (w2.heap[b2]? =some (.cells #[.int .i64 0,.int .i64 0] iZ (0,0))):=zh (by rw [hw2,hb2];exact aK _ _ _ sm);go_enter Tryz.func23,Tryz.ntmps23;go_upto_region 1 with fail;rw [← hw2,←hb2];have Jm:Hid (w.heap.size≤b2):=zh om;clear hw2 hb2;generalize hg1:w.heap.size=b1 at *;have mE:=zh hg1;clear hg1;have x0:=cell_of_heap (o:=0) HB1.out rfl;have x1:=cell_of_heap (o:=1) HB1.out rfl;have x2:=cell_of_heap (o:=2) HB1.out rfl;have x3:=cell_of_heap (o:=3) HB1.out rfl;have xl:=lt_of_heap HB1.out;have yl:=lt_of_heap HB2.out;go_wp2;go_loopw [16] (fun s wr=>s= .int .i64 0∧Keep au w2 wr) (fun s _=>0)
 case atStart=>exact⟨rfl,kp⟩
 obtain⟨rfl,hkr⟩:=hrel;have KR:=zh hkr;have z1:=(hkr.cell (i:=1) xl).trans x1;have z2:=(hkr.cell (i:=2) xl).trans x2;have zl:=bJ xl hkr.size;clear hkr;obtain⟨w3,hw3⟩:∃W:World,W=wr:=⟨_,rfl⟩;subst hw3;go_wp2;clear z1 z2 zl;go_loopw [43] (fun s wr=>∃j:Nat,j≤m∧s= .int .i64 j∧Keep au w2 wr) (fun s _=>(m-intOf s).toNat)
 case atStart=>exact⟨0,om,rfl,KR.out⟩
 obtain⟨j,hj,rfl,hkr⟩:=hrel;have KJ:=zh hkr;clear hkr;have y0:=(KJ.out.cell (i:=0) xl).trans x0;have y1:=(KJ.out.cell (i:=1) xl).trans x1;have y2:=(KJ.out.cell (i:=2) xl).trans x2;have y3:=(KJ.out.cell (i:=3) xl).trans x3;have yl0:=bJ xl KJ.out.size;by_cases hjl:j<m
 case pos=>
  have hlt:(j:Int)<(m:Int):=om;have hjm:j<f.atoms.length:=by rw [HM.out];exact hjl
  have HAk:=HA.out.keep (K2.out.both KJ.out);obtain⟨ba,fa,rfl,hba,p0,p1,p2,p3,p4,p5⟩:=HAk.at hjm;have ho:=Ns.out _ (List.getElem_mem hjm);have hgm:=HAk.mem _ (List.getElem_mem hjm);clear HAk;generalize f.atoms[j]=a at *;have ka:Keep au wr (wr.alloc (.cells #[.int .i64 a.k,.int .i64 0,.int .i64 0,.slice a.o a.r.of.length a.c,.int .i64 a.r.kind,.int .i64 a.r.to] rD)):=(Keep.refl _ _).alloc _;have K3:=zh (KJ.out.both ka);have CA:=zh (CA.out _ a (hgm.keep ka) ho);unfold gaV at CA;clear ho hgm ka;generalize a.r.of.length=al at *;generalize a.r.kind=ak at *;generalize a.r.to=at' at *;generalize a.k=kk at *;generalize a.o=ao at *;generalize a.c=ac at *;go_wp2_with fail;refine CA.out.mono ?_;rintro e w4 ⟨rfl,hk4⟩;have K4:=zh (K3.out.both hk4);clear hk4 CA;go_wp2;go_roundw
  case rel=>exact⟨j+1,om,gn,K4.out⟩
  simp [intOf];omega
 have hlt:¬(j:Int)<(m:Int):=om;have CC:=zh (CC.out wr (K2.out.both KJ.out));clear y0 y1;go_wp2_with fail;refine CC.out.mono ?_;rintro e w4 ⟨rfl,hk4⟩;have KE:=zh (KJ.out.both hk4);have Xo:=zh ((KE.out.block b2 yl fun _ h=>h).trans HB2.out);have u0:=cell_of_heap (o:=0) Xo.out rfl;have u1:=cell_of_heap (o:=1) Xo.out rfl;have f0:=aL.free (A:=_) ⟨_,Xo.out⟩ 0;have f1:=aL.free (A:=_) ⟨_,Xo.out⟩ 1;have ul:=lt_of_heap Xo.out;clear hk4 CC y2 y3 yl0;go_wp2;refine bodyPost_ret (by simp [results,Tryz.results23,go_sem,u0,u1,ul];rfl) rfl ?_;exact⟨rfl,aQ (aQ (K2.out.both KE.out) _ (by rw [mE.out];exact Jm.out)) _ (by rw [mE.out];exact Jm.out)⟩
end Go.Proofs.YtmepglhdcphffaaGreat
