/- Package cut: at. -/
import Derived.Test.YtaiffmebphhdaaaGreatCuZ
import Derived.Test.YtaiffmebphhdaaaGreatSpE
namespace Go.Proofs.YtaiffmebphhdaaaGreat
set_option maxRecDepth 100000
set_option maxHeartbeats 32000000
set_option linter.unusedSimpArgs false
set_option linter.unusedVariables false
open Go.ChangeShapes Go.WideShapes Go.RowKit Go.Maps
variable {P:Nat→Prop}
abbrev TBd:TypeId:=115
def idR (m:Nat):List Int:=(List.range m).map fun(i:Nat)=>(i:Int)+1
theorem idR_succ (m:Nat):idR (m+1)=idR m++ [(m:Int)+1]:=by simp [idR,List.range_succ]
theorem idR_len (m:Nat):(idR m).length=m:=by simp [idR]
theorem idR_all (m n:Nat)(B:Bds):allI m n B=idR m++(bRows B n).map CB.id:=by
 unfold allI idR
 congr 1
def sgJ (j:Nat):Int:=if j=0 then 1 else -1
def hB (B:Bds)(k:Nat):Nat→List CB
 | 0=>bRows B k
 | j+1=>hB B k j++(bGet B (k:Nat) (sgJ j)).toList
theorem hB_two (B:Bds)(k:Nat):hB B k 2=bRows B (k+1):=by
 simp only [hB,bRows];rfl
theorem hB_len (B:Bds)(k j:Nat)(hk:k<12)(hj:j≤2):(hB B k j).length≤24:=by
 have h1:=bRows_len (B:=B) k;have h2:∀s,(bGet B (k:Nat) s).toList.length≤1:=fun s=>by rcases bGet B (k:Nat) s with _ | x<;>simp
 have a:=h2 (sgJ 0);have b:=h2 (sgJ 1);obtain rfl | rfl | rfl:j=0∨j=1∨j=2:=by omega
 ·simp only [hB];omega
 ·simp only [hB,List.length_append];omega
 ·simp only [hB,List.length_append];omega
structure AtL (w1 wr:World)(rows:List Rw)(CL:List CB)(u6 u7:Value)(zs:List RwV):Prop where
 z:zs.map RwV.r=rows++CL.map CB.row
 ok:∀x∈zs,IsInts w1 x.sv x.r.of∧I64 x.r.kind∧I64 x.r.to∧CapOK x.sv
 a:wr.ownsRow w1.heap.size TRw 3 u6 (rows.length+CL.length) (zs.flatMap rwC)
 b:wr.ownsRow w1.heap.size TI 1 u7 (rows.length+CL.length) (iv (idR rows.length++CL.map CB.id))
 k:Keep NoS w1 wr
theorem AtL.keep {w1 wr w':World}{rows:List Rw}{CL:List CB}{u6 u7:Value}{zs:List RwV}(h:AtL w1 wr rows CL u6 u7 zs)(k:Keep NoS wr w'):AtL w1 w' rows CL u6 u7 zs:=⟨h.z,h.ok,owns_keep h.a k,owns_keep h.b k,h.k.both k⟩
theorem AtL.rows {w1 wr:World}{rows:List Rw}{CL:List CB}{u6 u7:Value}{zs:List RwV}(h:AtL w1 wr rows CL u6 u7 zs):IsRows wr u6 (rows++CL.map CB.row):=by
 have hl:zs.length=rows.length+CL.length:=by
  have:=congrArg List.length h.z
  simpa using this
 have:OwnR w1 wr w1.heap.size u6 (rows++CL.map CB.row):=⟨zs,h.z,h.ok,by unfold OwnG;rw [hl];exact h.a⟩
 exact this.rows h.k
theorem AtL.ints {w1 wr:World}{rows:List Rw}{CL:List CB}{u6 u7:Value}{zs:List RwV}(h:AtL w1 wr rows CL u6 u7 zs):OwnI wr w1.heap.size u7 (idR rows.length++CL.map CB.id):=by
 unfold OwnI;rw [List.length_append,idR_len,List.length_map];exact h.b
structure TwoU (w6:World)(vA vB:Value)(fB:Bool)(sB:Value)(w:World):Prop where
 size:w6.heap.size≤w.heap.size
 old:∀(c:Nat) (o:Obj),w6.heap[c]? =some o→vA.ownBlock≠some c→vB.ownBlock≠some c→w.heap[c]? =some o
 new:fB=true→∀c,sB.ownBlock=some c→vB.ownBlock=some c∨w6.heap.size≤c
theorem TwoU.start {fB:Bool}{sB:Value}(w:World)(vA vB:Value)(hf:fB=false):TwoU w vA vB fB sB w.drew:=⟨(Keep.refl NoS w).drew.size,fun c o h _ _=>((Keep.refl NoS w).drew.block c (lt_of_heap h) fun _ h=>h).trans h,fun h=>by rw [hf]at h;cases h⟩
theorem TwoU.keep {w6 w w':World}{vA vB sB:Value}{fB:Bool}(h:TwoU w6 vA vB fB sB w)(k:Keep NoS w w'):TwoU w6 vA vB fB sB w':=⟨Nat.le_trans h.size k.size,fun c o hc h1 h2=>(k.block c (lt_of_heap (h.old c o hc h1 h2)) fun _ h=>h).trans (h.old c o hc h1 h2),h.new⟩
section
variable {w6 w0 w:World} {eA kA nA eB kB nB:Nat} {vA vB sB:Value} {fB:Bool} {xA cA xB cB:List Value} {gg:Nat} {TG:TypeId} {arr:Value→Value→Array Value} {gx:Nat} {ox:Obj} {bA aA bB aB s1 s2:Bool} {sbA saA sbB saB:Value}
theorem TwoU.appA {slA:TypeId}(h:TwoU w6 vA vB fB sB w)(hap:AppOK slA eA kA)(hl:cA.length=kA)(h1:∀u∈cA,u.oneCell'=true)(hn:nA≤100000)(hC:TwoC w0 eA kA nA eB kB nB vA vB xA cA xB cB gg TG arr gx ox bA aA bB aB s1 s2 sbA saA sbB saB w)(hb:bA=true)(ha:aA=false){v':Value}{w':World}(hr:(Builtin.append_ #[slA,slA] slA #[vA,sbA]).run Tryz.prog w= .ok v' w'):TwoU w6 vA vB fB sB w':=by
 obtain⟨b,rfl,hbk,hbv⟩:=hC.pa hb ha;obtain⟨v2,w2,hr2,ho,hg,hv⟩:=hap.app w _ vA nA xA b cA (hC.a0 ha) hbk hl h1 hn hC.k.size;rw [hr2]at hr
 injection hr with q1 q2
 subst q2;exact⟨Nat.le_trans h.size hg.size,fun c o hc g1 g2=>(hg.block c (lt_of_heap (h.old c o hc g1 g2)) fun e=>g1 e.symm).trans (h.old c o hc g1 g2),h.new⟩
theorem TwoU.appB {slB:TypeId}(h:TwoU w6 vA vB fB sB w)(hap:AppOK slB eB kB)(hl:cB.length=kB)(h1:∀u∈cB,u.oneCell'=true)(hn:nB≤100000)(hC:TwoC w0 eA kA nA eB kB nB vA vB xA cA xB cB gg TG arr gx ox bA aA bB aB s1 s2 sbA saA sbB saB w)(hb:bB=true)(ha:aB=false){v':Value}{w':World}(hr:(Builtin.append_ #[slB,slB] slB #[vB,sbB]).run Tryz.prog w= .ok v' w'):TwoU w6 vA vB true v' w':=by
 obtain⟨b,rfl,hbk,hbv⟩:=hC.pb hb ha;obtain⟨v2,w2,hr2,ho,hg,hv⟩:=hap.app w _ vB nB xB b cB (hC.b0 ha) hbk hl h1 hn hC.k.size;rw [hr2]at hr
 injection hr with q1 q2
 subst q1 q2;refine⟨Nat.le_trans h.size hg.size,fun c o hc g1 g2=>(hg.block c (lt_of_heap (h.old c o hc g1 g2)) fun e=>g2 e.symm).trans (h.old c o hc g1 g2),fun _ c hc=> ?_⟩
 rcases hv with hv | hv
 ·exact .inl (hv ▸ hc)
 ·rw [hv]at hc;cases hc;exact .inr h.size
end
def pvO (vA vB vR:Value)(b12:Nat)(id:Int):Nat→Value→Prop
 | 0,v=>v=vA
 | 1,v=>v= .pointer (some ⟨b12,0,none⟩)
 | 2,v=>v=vR
 | 5,v=>v=vB
 | 6,v=>v= .pointer (some ⟨b12,3,none⟩)
 | 7,v=>v= .int .i64 id
 | _,_=>True
theorem step_hungry {lp:List Rw→LP}{rows:List Rw}{ints:List Bool}{rc:CSt→Bds→CRes}{s:CSt}{B:Bds}(h:lp (allR rows ints.length B)= .hungry):stepF lp rows ints rc s B=⟨3,[],s⟩:=by unfold stepF;rw [h]
theorem step_no {lp:List Rw→LP}{rows:List Rw}{ints:List Bool}{rc:CSt→Bds→CRes}{s:CSt}{B:Bds}{l:List Rat}(h:lp (allR rows ints.length B)= .no l):
  (allFit l l.length=true→stepF lp rows ints rc s B=⟨2,(sortP (pairsF l (allI rows.length ints.length B))).map (·.1),{s with steps:=s.steps++ [⟨4,(sortP (pairsF l (allI rows.length ints.length B))).map (·.1),(sortP (pairsF l (allI rows.length ints.length B))).map (·.2),noRw⟩]}⟩)∧(allFit l l.length=false→stepF lp rows ints rc s B=⟨2,[],{s with much:=true}⟩):=by
 unfold stepF;rw [h];exact⟨fun e=>by simp only [e,if_true],fun e=>by simp only [e];rfl⟩
theorem step_yes {lp:List Rw→LP}{rows:List Rw}{ints:List Bool}{rc:CSt→Bds→CRes}{s:CSt}{B:Bds}{pt:List Rat}(h:lp (allR rows ints.length B)= .yes pt):
  (openK ints pt=none→stepF lp rows ints rc s B=⟨1,[],{s with point:=pt.map fqOf,much:=s.much || !allFit pt pt.length}⟩)∧(∀k,openK ints pt=some k→stepF lp rows ints rc s B=branchF rows.length rc s B k (floorQ (pt.getD k 0))):=by
 unfold stepF;rw [h];exact⟨fun e=>by simp only [e],fun k e=>by simp only [e]⟩
theorem nb_floor {j:Nat}{q:Rat}(h:NB j q)(hj:1≤j):NB j ((floorQ q:Int):Rat):=by
 refine⟨?_,?_⟩
 ·rw [Rat.num_intCast]
  refine Nat.le_trans (dl_mono ?_) h.1;unfold floorQ;exact Int.natAbs_ediv_le_natAbs _ _
 ·rw [Rat.den_intCast]
  exact Nat.le_trans (dl_le (k:=1) (by decide)) hj
theorem branch_any (w0 w:World)(bS:Nat)(orr:Option Addr)(cr:Nat)(oi:Option Addr)(ci:Nat)(rows:List Rw)(ints:List Bool)(hx:CutX w0 (.slice orr rows.length cr) (.slice oi ints.length ci) rows ints)(d:Nat)(hA:AtC w0 bS (.slice orr rows.length cr) (.slice oi ints.length ci) rows ints d)
  (s:CSt) (B:Bds) (g k:Nat) (z:Int) (xb:Bool) (xS:ByteArray) (xc:Bool) (xU:ByteArray) (h:IsS P w0 w bS (.slice orr rows.length cr) (.slice oi ints.length ci) s) (hB:IsB w w0.heap.size g B) (ha:AtOK rows.length ints.length s.atoms) (hb:BdOK rows.length ints.length s.atoms B) (hk:k<ints.length)
  (hz:IsNum (.agg #[.bool xb,.string xS,.bool xc,.string xU]) (z:Rat)) (hzn:NB 4000 (z:Rat)) (hf:s.fuel<d) (hph:PhiOK s) (hsl:s.steps.length≤7001) (hS:Snd rows ints s B (branchF rows.length (atF (lpN ints.length) rows ints d) s B k z)):
  Calls Tryz.prog 62 #[.pointer (some ⟨bS,0,none⟩),.map (some g),.int .i64 (k:Int),.agg #[.bool xb,.string xS,.bool xc,.string xU]] w (AtPost P w0 bS (.slice orr rows.length cr) (.slice oi ints.length ci) w (branchF rows.length (atF (lpN ints.length) rows ints d) s B k z)):=by
 by_cases hbad:z< -1000000∨1000000≤z∨3000<s.steps.length+8∨120<rows.length+s.atoms.length+2
 ·exact branch_no w0 w bS orr cr oi ci rows ints hx d hA s B g k z xb xS xc xU h hB ha hb hk hz hzn hf hph hsl hbad
 ·exact branch_go w0 w bS orr cr oi ci rows ints hx d hA s B g k z xb xS xc xU h hB ha hb hk hz hzn hf hph hsl hbad hS
theorem at_step (w0:World)(bS:Nat)(orr:Option Addr)(cr:Nat)(oi:Option Addr)(ci:Nat)(rows:List Rw)(ints:List Bool)(hx:CutX w0 (.slice orr rows.length cr) (.slice oi ints.length ci) rows ints)(d:Nat)(hA:AtC w0 bS (.slice orr rows.length cr) (.slice oi ints.length ci) rows ints d):AtC w0 bS (.slice orr rows.length cr) (.slice oi ints.length ci) rows ints (d+1):=by
 intro P w s B g h hBm ha hb hf hph;obtain⟨va,vt,vp,xs,ys,hc⟩:=h;obtain⟨⟨oa,ca,rfl⟩,⟨ot,ct,rfl⟩,op,cp,rfl⟩:=hc.forms;have HC:=zh hc;have HX:=zh hx;have HAC:=zh hA;have HBM:=zh hBm;have HAO:=zh ha;have HBO:=zh hb;have HPH:=zh hph;have hn12:ints.length≤12:=hx.n12;have hm40:rows.length≤40:=hx.m40;obtain⟨t0,t1,t2,t3,t4,t5,t6,lS⟩:=blk7C hc.blk;have t2f:=hc.blk.free 2;clear hc hx hA hBm ha hb;unfold AtPost
 by_cases h0:s.fuel=0
 case pos=>
  have HRES:Hid (atF (lpN ints.length) rows ints (d+1) s B=⟨3,[],s⟩):=zh (by unfold atF;rw [if_pos h0])
  replace t2:w.cell? ⟨bS,2,none⟩=some (.int .i64 0):=by rw [t2,h0];rfl
  clear h0 hf hph;go_enter Tryz.func33,Tryz.ntmps33;go_wp2;refine bodyPost_ret (by simp [results,Tryz.results33,go_sem];rfl) rfl ?_
  rw [HRES.out];exact⟨_,rfl,OwnI.nil _ _,⟨_,_,_,_,_,HC.out⟩,KT.refl _⟩
 case neg=>
 obtain⟨f,hfu⟩:∃f,s.fuel=f+1:=⟨s.fuel-1,by omega⟩
 replace t2:w.cell? ⟨bS,2,none⟩=some (.int .i64 ((f:Int)+1)):=by rw [t2,hfu];rfl
 have hf2000:f≤2000:=by unfold PhiOK at hph;omega
 have e0:((f:Int)+1==0)=false:=by rw [beq_eq_false_iff_ne];omega
 obtain⟨s1,hs1⟩:∃s1:CSt,s1= {s with fuel:=f}:=⟨_,rfl⟩
 have HRES:Hid (atF (lpN ints.length) rows ints (d+1) s B=stepF (lpN ints.length) rows ints (atF (lpN ints.length) rows ints d) s1 B):=zh (by unfold atF;rw [if_neg h0,hs1,hfu];rfl)
 have HAO:Hid (AtOK rows.length ints.length s1.atoms):=zh (by rw [hs1];exact HAO.out)
 have HBO:Hid (BdOK rows.length ints.length s1.atoms B):=zh (by rw [hs1];exact HBO.out)
 have HPH:Hid (PhiOK s1):=zh (by have:=HPH.out;unfold PhiOK at this ⊢;rw [hs1];simp only;omega)
 have HFD:Hid (s1.fuel<d):=zh (by rw [hs1];simp only;omega)
 have hsl:s1.steps.length≤7001:=by have:=HPH.out;unfold PhiOK at this;omega
 have HC1:Hid (IsC P w0 (w.setCell ⟨bS,2,none⟩ (.int .i64 (f:Int))) bS (.slice orr rows.length cr) (.slice oi ints.length ci) s1 (.slice oa s.atoms.length ca) (.slice ot s.steps.length ct) (.slice op s.point.length cp) xs ys):=zh (by
  rw [hs1];exact HC.out.set 2 _ (by simp) rfl rfl HC.out.p)
 have T1:Hid (KT P w (w.setCell ⟨bS,2,none⟩ (.int .i64 (f:Int)))):=zh (KT.set HC.out.b (.inr (.inr rfl)) (fun hp=>(HC.out.av bS hp).2.1 rfl) _)
 clear h0 hf hph hfu hs1 HC;go_enter Tryz.func33,Tryz.ntmps33;go_upto_region 4 with fail
 clear t0 t1 t2 t3 t4 t5 t6 lS t2f e0;generalize w.setCell ⟨bS,2,none⟩ (.int .i64 (f:Int))=w1 at *;obtain⟨t0,t1,t2,t3,t4,t5,t6,lS⟩:=blk7C HC1.out.blk;have CC:=zh (slCloneR_any w1 (.slice orr rows.length cr) rows (HX.out.hr.keep HC1.out.k) (by omega))
 go_wp2_with fail;refine CC.out.mono ?_;rintro e w2 ⟨u,rfl,hu2,hk2⟩;have k2:Keep NoS w1 w2:=Keep.trans kp hk2 fun _ _ _ h=>h
 obtain⟨zs0,hz1,hz2,hz3⟩:=hu2;have hzl:zs0.length=rows.length:=by rw [← hz1,List.length_map]
 unfold OwnG at hz3;rw [hzl]at hz3;obtain⟨ou,cu,rfl⟩:=owns_form hz3;have K2:=zh k2;have HZ1:=zh hz1;have HZ2:=zh hz2;have HZ3:=zh hz3;clear hk2 k2 hz1 hz2 hz3 hzl CC t0 t1 t2 t3 t4 t5 t6 lS;go_wp2;go_loopw [41,7] (fun s u wr=>∃k:Nat,k≤rows.length∧s= .int .i64 k∧OwnI wr w2.heap.size u (idR k)∧Keep NoS w2 wr) (fun s _ _=>(rows.length-intOf s).toNat)
 case atStart=>exact⟨0,by omega,rfl,OwnI.nil _ _,Keep.refl _ _⟩
 case round=>
 obtain⟨k,hk,rfl,hou,hkr⟩:=hrel;have KR:=zh hkr;have HOU:=zh hou;obtain⟨ov,cv,hvv⟩:=hou.len;rw [idR_len]at hvv;subst hvv;clear hou hkr
 by_cases hkl:k<rows.length
 case pos=>
  have hlt:(k:Int)<(rows.length:Int):=by omega
  have ka:Keep NoS wr (wr.alloc (.cells #[.int .i64 ((k:Int)+1)] TI)):=(Keep.refl _ _).alloc _;obtain⟨v4,w4,hr4,ho4,hg4⟩:=app_ints (HOU.out.keep ka) (one_int wr ((k:Int)+1) (by unfold I64;omega)) (by rw [idR_len];simp only [List.length_singleton];omega) (KR.out.both ka).size
  have K4:=zh ((KR.out.both ka).grown hg4 fun k hk=>OwnI.block HOU.out k hk)
  rw [← idR_succ]at ho4;have HO4:=zh ho4;clear ka ho4 hg4;go_wp2_with (at_builtin;refine wpList_app_run _ _ 38 _ _ rfl rfl rfl rfl hr4 ?_);go_roundw
  case rel=>exact⟨k+1,by omega,by go_num,HO4.out,K4.out⟩
  case measure=>simp [intOf];omega
 case neg=>
 have hlt:¬(k:Int)<(rows.length:Int):=by omega
 obtain rfl:rows.length=k:=by omega
 have HL0:Hid (AtL w1 wr rows (hB B 0 0) (.slice ou rows.length cu) (.slice ov rows.length cv) zs0):=zh ⟨by simp [hB,bRows,HZ1.out],HZ2.out,by simp only [hB,bRows];exact owns_keep HZ3.out KR.out,by
  simp only [hB,bRows,List.map_nil,List.append_nil,List.length_nil,Nat.add_zero];have h:=World.ownsRow_mono HOU.out K2.out.size;rw [idR_len]at h;exact h,K2.out.both KR.out⟩
 clear HZ1 HZ2 HZ3 HOU KR hk;obtain⟨wk,rfl⟩:∃W:World,W=wr:=⟨_,rfl⟩;obtain⟨t0,t1,t2,t3,t4,t5,t6,lS⟩:=blk7C (HC1.out.keep HL0.out.k).blk;go_wp2;go_loopw [55,6,7] (fun s u v wr=>∃(k:Nat) (zs:List RwV),k≤ints.length∧s= .int .i64 k∧AtL w1 wr rows (hB B k 0) u v zs) (fun s _ _ _=>(ints.length-intOf s).toNat)
 case atStart=>exact⟨0,zs0,by omega,rfl,HL0.out⟩
 case round=>
 obtain⟨k,zs,hk,rfl,hal⟩:=hrel;have HAL:=zh hal;obtain⟨o6,c6,rfl⟩:=owns_form hal.a;obtain⟨o7,c7,rfl⟩:=owns_form hal.b;have n58:(Value.slice o7 (rows.length+(hB B k 0).length) c7).ownBlock≠some wr.heap.size:=fun e=>by have:=(own_lt hal.b e).2;omega
 clear hal
 by_cases hkl:k<ints.length
 case pos=>
  have hlt:(k:Int)<(ints.length:Int):=by omega
  have ka:Keep NoS wr (wr.alloc (.cells #[.int .i64 1,.int .i64 (-1)] TI)):=(Keep.refl _ _).alloc _;have HH58:Hid ((wr.alloc (.cells #[.int .i64 1,.int .i64 (-1)] TI)).heap[wr.heap.size]? =some (.cells #[.int .i64 1,.int .i64 (-1)] TI (0,0))):=zh (heap_alloc_at _ _ _ rfl);have HAL:=zh (HAL.out.keep ka);have N58:=zh n58;clear n58 HL0 t0 t1 t2 t3 t4 t5 t6 lS;go_upto_region 15 with fail
  clear ka;generalize wr.alloc (.cells #[.int .i64 1,.int .i64 (-1)] TI)=w5 at *;generalize wr.heap.size=b58 at *;have HC58:Hid (w5.heap[b58]? =some (.cells #[.int .i64 1,.int .i64 (-1)] TI (0,0))):=HH58;go_loopw [60,6,7] (fun s u v wr=>∃(j:Nat) (zs:List RwV),j≤2∧s= .int .i64 j∧AtL w1 wr rows (hB B k j) u v zs∧wr.heap[b58]? =some (.cells #[.int .i64 1,.int .i64 (-1)] TI (0,0))∧v.ownBlock≠some b58) (fun s _ _ _=>(2-intOf s).toNat)
  case atStart=>exact⟨0,zs,by omega,rfl,HAL.out,HC58.out,N58.out⟩
  case round=>
   obtain⟨j,ys5,hj,rfl,hal,hk58,hn58⟩:=hrel;have HK58:=zh hk58;obtain⟨o8,c8,rfl⟩:=owns_form hal.a;obtain⟨o9,c9,rfl⟩:=owns_form hal.b;have HAL:=zh hal;have HN58:=zh hn58;clear hal hk58 hn58
   by_cases hj2:j<2
   case neg=>
    have hlt2:¬(j:Int)<2:=by omega
    obtain rfl:j=2:=by omega
    have HAN:=HAL;rw [hB_two]at HAN;clear HAL;have HAN:Hid (AtL w1 wr rows (hB B (k+1) 0) (.slice o8 (rows.length+(hB B k 2).length) c8) (.slice o9 (rows.length+(hB B k 2).length) c9) ys5):=HAN;go_wp2;go_roundw
    case rel=>exact⟨k+1,ys5,by omega,by go_num,HAN.out⟩
    case measure=>simp [intOf];omega
   case pos=>
    have hlt2:(j:Int)<2:=by omega
    have hML:=hB_len B k j (by omega) (by omega)
    obtain⟨L,clock,hM,hL⟩:=(HBM.out.kt T1.out);have hMr:=hM.kt (.of (HAL.out.k):KT P w1 wr);have HGB:=zh (hL (k:Int) (sgJ j));have HOW:=zh hM.own;have x58:wr.cell? ⟨b58,j,none⟩=some (.int .i64 (sgJ j)):=by
     obtain rfl | rfl:j=0∨j=1:=by omega
     ·exact cell_of_heap (o:=0) HK58.out rfl
     ·exact cell_of_heap (o:=1) HK58.out rfl
    have l58:b58<wr.heap.size:=lt_of_heap HK58.out;have HSUC:Hid (hB B k (j+1)=hB B k j++(bGet B (k:Nat) (sgJ j)).toList):=zh rfl;generalize hsg:sgJ j=sg at *;have HMH:=zh hMr.h;clear hM hL hMr hsg
    rcases hg:getL L (k:Int) sg with _ | en
    case none=>
     rw [hg]at HGB;have HSU:Hid (hB B k (j+1)=hB B k j):=zh (by rw [HSUC.out,←HGB.out];simp)
     have hv:lookV L (k:Int) sg= .tuple #[.agg #[.slice none 0 0,.int .i64 0,.int .i64 0,.int .i64 0],.bool false]:=by unfold lookV;rw [hg]
     clear HGB HSUC hg HOW;go_wp2_with (refine wpList_lookL _ rfl _ _ rfl g L clock (k:Int) sg _ rfl rfl HMH.out hv ?_);have ke:Keep NoS wr (wr.alloc (.cells #[.slice none 0 0,.int .i64 0,.int .i64 0,.int .i64 0] TBd)):=(Keep.refl _ _).alloc _;go_roundw
     case rel=>exact⟨j+1,ys5,by omega,by go_num,by rw [HSU.out];exact HAL.out.keep ke,(ke.block b58 l58 fun _ h=>h).trans HK58.out,HN58.out⟩
     case measure=>simp [intOf];omega
    case some=>
     rw [hg]at HGB;obtain⟨hen,hek,hes⟩:=getL_mem hg;have hv:lookV L (k:Int) sg= .tuple #[en.v,.bool true]:=by unfold lookV;rw [hg]
     have hown:=HOW.out en hen;obtain⟨ek,es,esv,⟨⟨eof,ekd,eto⟩,eid⟩,eb⟩:=en;simp only at hek hes hown;obtain⟨kq,sq,zq,iq,g1,g2,g3,g4⟩:=HBO.out.b _ (bGet_mem (HGB.out.symm.trans rfl));have hfit:=lim_fit g1;have hia:=(List.getElem?_eq_some_iff.1 g4).1;have hcap:=HAO.out.cap;simp only at g3 hfit;have hid:0≤eid∧eid≤200:=by omega
     have HSU:Hid (hB B k (j+1)=hB B k j++ [⟨⟨eof,ekd,eto⟩,eid⟩]):=zh (by rw [HSUC.out,←HGB.out];rfl)
     have HNW:Hid (IsInts w1 esv eof∧I64 ekd∧I64 eto∧CapOK esv):=zh ⟨hown.ints hfit.o,hfit.k,hfit.t,hown.cap⟩;obtain⟨oe,ce,hev⟩:=hown.len;subst hev;clear HGB HSUC hg HOW g1 g2 g3 g4 hfit hia hcap hown hen hek hes;have hv:lookV L (k:Int) sg= .tuple #[.agg #[.slice oe eof.length ce,.int .i64 ekd,.int .i64 eto,.int .i64 eid],.bool true]:=hv;go_upto_region 19 with(refine wpList_lookL _ rfl _ _ rfl g L clock (k:Int) sg _ rfl rfl HMH.out hv ?_)
     have ke:Keep NoS wr (wr.alloc (.cells #[.slice oe eof.length ce,.int .i64 ekd,.int .i64 eto,.int .i64 eid] TBd)):=(Keep.refl _ _).alloc _;have HX6:Hid ((wr.alloc (.cells #[.slice oe eof.length ce,.int .i64 ekd,.int .i64 eto,.int .i64 eid] TBd)).heap[wr.heap.size]? =some (.cells #[.slice oe eof.length ce,.int .i64 ekd,.int .i64 eto,.int .i64 eid] TBd (0,0))):=zh (heap_alloc_at _ _ _ rfl);have HA6:=zh (HAL.out.keep ke);have HK6:=zh ((ke.block b58 l58 fun _ h=>h).trans HK58.out)
     have HQA:Hid ((Value.slice o8 (rows.length+(hB B k j).length) c8).ownBlock≠some b58):=zh fun e=>by
      obtain⟨A,e1⟩:=own_at HAL.out.a e;rw [HK58.out]at e1;exact absurd (Obj.cells.inj (Option.some.inj e1)).2.1 (by decide)
     obtain⟨M,hM⟩:∃M,rows.length+(hB B k j).length=M:=⟨_,rfl⟩;have hA6:=HA6.out.a;have hB6:=HA6.out.b;rw [hM]at hA6 hB6 ⊢;have HAA:=zh hA6;have HBB:=zh hB6;have hMM:M≤64:=by omega
     have HM:=zh hM;clear ke HAL x58 l58 hv HMH hM hA6 hB6 HK58;generalize wr.alloc (.cells #[.slice oe eof.length ce,.int .i64 ekd,.int .i64 eto,.int .i64 eid] TBd)=w6 at *;obtain⟨b12,hb12⟩:∃b12,wr.heap.size=b12:=⟨_,rfl⟩;rw [hb12]at HX6 ⊢;clear hb12;refine wp_region_rel (fun S σ w'=>TwoC w1 TRw 3 M TI 1 M (.slice o8 M c8) (.slice o9 M c9) (ys5.flatMap rwC) [.slice oe eof.length ce,.int .i64 ekd,.int .i64 eto] (iv (idR rows.length++(hB B k j).map CB.id)) [.int .i64 eid] b12 TBd (fun _ _=> #[.slice oe eof.length ce,.int .i64 ekd,.int .i64 eto,.int .i64 eid]) b12 (.cells #[.slice oe eof.length ce,.int .i64 ekd,.int .i64 eto,.int .i64 eid] TBd (0,0)) (S 3) (S 4) (S 8) (S 9) false false (σ 3) (σ 4) (σ 8) (σ 9) w'∧(S 10=true→σ 10=σ 4)∧(S 11=true→σ 11=σ 9)∧TwoU w6 (.slice o8 M c8) (.slice o9 M c9) (S 9) (σ 9) w') (fun S d v w=>pvO (.slice o8 M c8) (.slice o9 M c9) (.agg #[.slice oe eof.length ce,.int .i64 ekd,.int .i64 eto]) b12 eid d v) (by kernel_rfl) (by kernel_rfl) (by kernel_rfl) (by kernel_rfl) (fun S σ hS=>⟨TwoC.start (hS 3) (hS 4) (hS 8) (hS 9) rfl rfl (⟨HA6.out.k.size,HA6.out.k,HAA.out,HBB.out,HX6.out,HX6.out⟩),fun h=>(by rw [hS 10]at h;cases h),fun h=>(by rw [hS 11]at h;cases h),TwoU.start _ _ _ (hS 9)⟩) _ (fun σ=>by
      show putAll _ σ [0,1,2,3,4,5,6,7,8,9,10,11] _=_;simp only [putAll,zl0,zl1,zl2,Act.put,List.setIfInBounds_toArray,List.set_cons_zero,List.set_cons_succ];rfl) ?_ ?_
     ·intro S σ wz hC hall e he HK
      have he:e<12:=he;obtain rfl | rfl | rfl | rfl | rfl | rfl | rfl | rfl | rfl | rfl | rfl | rfl:e=0∨e=1∨e=2∨e=3∨e=4∨e=5∨e=6∨e=7∨e=8∨e=9∨e=10∨e=11:=by omega
      ·refine wpAt rfl rfl fun K hK=> ?_
       go_simp;exact hK _ _ ⟨_,hC,fun d _ _ h=>h,rfl,HK.init 10 (HK.down 10 (by kernel_rfl))⟩
      ·refine wpAt rfl rfl fun K hK=> ?_
       go_simp;exact hK _ _ ⟨_,hC,fun d _ _ h=>h,rfl,rfl⟩
      ·have h1:σ 1= .pointer (some ⟨b12,0,none⟩):=HK.post 1 (by kernel_rfl)
       rw [h1];have m0:=cell_of_heap (o:=0) hC.1.blk rfl;have m1:=cell_of_heap (o:=1) hC.1.blk rfl;have m2:=cell_of_heap (o:=2) hC.1.blk rfl;have ml:=lt_of_heap hC.1.blk;refine wpAt rfl rfl fun K hK=> ?_
       go_simp;exact hK _ _ ⟨_,hC,fun d _ _ h=>h,rfl,rfl⟩
      ·have h2:σ 2=(.agg #[.slice oe eof.length ce,.int .i64 ekd,.int .i64 eto]):=HK.post 2 (by kernel_rfl)
       rw [h2];refine wpAt rfl rfl fun K hK=> ?_
       go_simp;exact hK _ _ ⟨_,⟨hC.1.buildA ((Keep.refl _ _).alloc _) (b:=wz.heap.size) (blk_at _ _ rfl) (Nat.le_refl _),hC.2.1,hC.2.2.1,hC.2.2.2.keep ((Keep.refl _ _).alloc _)⟩,fun d _ _ h=>h,rfl,trivial⟩
      ·obtain ⟨v',w2,hr,hc2⟩:=hC.1.appA appOK_r (by decide) (by decide) (fun A f h=>absurd (Obj.cells.inj h).2.1 (by decide)) rfl (by intro u hu;simp at hu;rcases hu with rfl | rfl | rfl<;>rfl) (by omega) (HK.up 3 (by kernel_rfl)) HK.self rfl
       have h0:σ 0=(.slice o8 M c8):=HK.post 0 (by kernel_rfl)
       rw [h0];refine wpAt rfl rfl fun K hK=> ?_
       refine wp_app_run _ _ 22 _ _ rfl rfl rfl hr ?_;exact hK _ _ ⟨_,⟨hc2,fun h=>absurd (show S 10=true from h) (by rw [HK.down 10 (by kernel_rfl)];decide),hC.2.2.1,hC.2.2.2.appA appOK_r rfl (by intro u hu;simp at hu;rcases hu with rfl | rfl | rfl<;>rfl) (by omega) hC.1 (HK.up 3 (by kernel_rfl)) HK.self hr⟩,fun d _ _ h=>h,rfl,trivial⟩
      ·refine wpAt rfl rfl fun K hK=> ?_
       go_simp;exact hK _ _ ⟨_,hC,fun d _ _ h=>h,rfl,HK.init 11 (HK.down 11 (by kernel_rfl))⟩
      ·refine wpAt rfl rfl fun K hK=> ?_
       go_simp;exact hK _ _ ⟨_,hC,fun d _ _ h=>h,rfl,rfl⟩
      ·have h6:σ 6= .pointer (some ⟨b12,3,none⟩):=HK.post 6 (by kernel_rfl)
       rw [h6];have m0:=cell_of_heap (o:=3) hC.1.blk rfl;have ml:=lt_of_heap hC.1.blk;refine wpAt rfl rfl fun K hK=> ?_
       go_simp;exact hK _ _ ⟨_,hC,fun d _ _ h=>h,rfl,rfl⟩
      ·have h7:σ 7= .int .i64 eid:=HK.post 7 (by kernel_rfl)
       rw [h7];refine wpAt rfl rfl fun K hK=> ?_
       go_simp;exact hK _ _ ⟨_,⟨hC.1.buildB ((Keep.refl _ _).alloc _) (b:=wz.heap.size) (blk_at _ _ rfl) (Nat.le_refl _),hC.2.1,hC.2.2.1,hC.2.2.2.keep ((Keep.refl _ _).alloc _)⟩,fun d _ _ h=>h,rfl,trivial⟩
      ·obtain ⟨v',w2,hr,hc2⟩:=hC.1.appB appOK_i (by decide) (by decide) rfl (by intro u hu;simp at hu;subst hu;rfl) (by omega) (HK.up 8 (by kernel_rfl)) HK.self rfl
       have h5:σ 5=(.slice o9 M c9):=HK.post 5 (by kernel_rfl)
       rw [h5];refine wpAt rfl rfl fun K hK=> ?_
       refine wp_app_run _ _ 38 _ _ rfl rfl rfl hr ?_;exact hK _ _ ⟨_,⟨hc2,hC.2.1,fun h=>absurd (show S 11=true from h) (by rw [HK.down 11 (by kernel_rfl)];decide),hC.2.2.2.appB appOK_i rfl (by intro u hu;simp at hu;subst hu;rfl) (by omega) hC.1 (HK.up 8 (by kernel_rfl)) HK.self hr⟩,fun d _ _ h=>h,rfl,trivial⟩
      ·refine wpAt rfl rfl fun K hK=> ?_
       go_simp;exact hK _ _ ⟨_,⟨hC.1,fun _=>rfl,hC.2.2⟩,fun d _ _ h=>h,rfl,trivial⟩
      ·refine wpAt rfl rfl fun K hK=> ?_
       go_simp;exact hK _ _ ⟨_,⟨hC.1,hC.2.1,fun _=>rfl,hC.2.2.2⟩,fun d _ _ h=>h,rfl,trivial⟩
     ·intro S σ w9 hCC hS hP
      have hT:=hCC.1.done (hS 3 (show 3<12 by omega)) (hS 4 (show 4<12 by omega)) (hS 8 (show 8<12 by omega)) (hS 9 (show 9<12 by omega))
      obtain⟨oA,cA',hvA⟩:=owns_form hT.a;obtain⟨oB,cB',hvB⟩:=owns_form hT.b;have qasA:σ 10=_:=(hCC.2.1 (hS 10 (show 10<12 by omega))).trans hvA
      have qasB:σ 11=_:=(hCC.2.2.1 (hS 11 (show 11<12 by omega))).trans hvB
      rw [qasA,qasB];refine NoPanic.normal ?_;have HML':Hid (M+1=rows.length+(hB B k (j+1)).length):=zh (by rw [HSU.out,List.length_append,List.length_singleton];have:=HM.out;omega)
      have HA9:Hid (AtL w1 w9 rows (hB B k (j+1)) (.slice oA (M+1) cA') (.slice oB (M+1) cB') (ys5++ [⟨.slice oe eof.length ce,⟨eof,ekd,eto⟩⟩])):=zh ⟨by rw [HSU.out,List.map_append,List.map_append,HA6.out.z,List.append_assoc];rfl,fun x hx=>by
       rcases List.mem_append.1 hx with hx | hx
       ·exact HA6.out.ok x hx
       ·rw [List.mem_singleton.1 hx];exact HNW.out,by
       rw [← HML'.out,List.flatMap_append,←hvA];exact hT.a,by
       rw [← HML'.out,HSU.out,List.map_append,←List.append_assoc,iv_app,←hvB];exact hT.b,hT.k⟩
      have HK9:=zh (hCC.2.2.2.old b58 _ HK6.out (by have h:=HQA.out;rw [HM.out]at h;exact h) (by have h:=HN58.out;rw [HM.out]at h;exact h))
      have HN9:Hid ((Value.slice oB (M+1) cB').ownBlock≠some b58):=zh fun e=>by
       rcases hCC.2.2.2.new (hS 9 (show 9<12 by omega)) b58 (by rw [hvB];exact e)with h | h
       ·have h5:=HN58.out;rw [HM.out]at h5;exact h5 h
       ·have:=lt_of_heap HK6.out;omega
      clear hT hvA hvB qasA qasB hP hS hCC;go_wp2;go_roundw
      case rel=>exact⟨j+1,_,by omega,by go_num,HA9.out,HK9.out,HN9.out⟩
      case measure=>simp [intOf];omega
 case neg=>
 have hlt:¬(k:Int)<(ints.length:Int):=by omega
 obtain rfl:ints.length=k:=by omega
 have HRW:=zh (show IsRows wr (.slice o6 (rows.length+(hB B ints.length 0).length) c6) (allR rows ints.length B)from HAL.out.rows)
 have HIW:=zh (show OwnI wr w1.heap.size (.slice o7 (rows.length+(hB B ints.length 0).length) c7) (allI rows.length ints.length B)from by rw [idR_all];exact HAL.out.ints)
 have HOKR:=zh (allR_ok hn12 HX.out.ok HBO.out);have hbl:=bRows_len (B:=B) ints.length;have hRl:(allR rows ints.length B).length=rows.length+(hB B ints.length 0).length:=by simp [allR,hB]
 have hIl:(allI rows.length ints.length B).length=rows.length+(hB B ints.length 0).length:=by simp [allI,hB]
 have h64:(allR rows ints.length B).length≤64:=by rw [hRl];show rows.length+(bRows B ints.length).length≤64;omega
 have HCR:=zh (HC1.out.keep HAL.out.k);have T2:=zh (T1.out.trans (.of HAL.out.k));have HBMr:=zh ((HBM.out.kt T1.out).kt (.of HAL.out.k:KT P w1 wr));have CN:=zh (fun w' (k:Keep NoS wr w')=>tabNew_any w' _ _ ints.length (HRW.out.keep k) HOKR.out hn12 h64)
 have HINV:=zh (start_inv hn12 h64 HOKR.out);have LPO:Hid (LPok ints.length (lpN ints.length)):=zh (lp_ok hn12 _);obtain⟨R,hR⟩:∃R,allR rows ints.length B=R:=⟨_,rfl⟩;have HR:=zh hR;rw [hR]at HRW HOKR CN HINV hRl h64;obtain⟨M,hM⟩:∃M,rows.length+(hB B ints.length 0).length=M:=⟨_,rfl⟩;rw [hM]at HRW HIW CN hRl hIl ⊢;clear hM hR HAL HC1 T1 HL0 K2 hk t0 t1 t2 t3 t4 t5 t6 lS;obtain⟨t0,t1,t2,t3,t4,t5,t6,lS⟩:=blk7C HCR.out.blk;go_wp2_with fail;refine(CN.out _ kp).mono ?_;rintro e w3 ⟨bT,rfl,hT⟩;have HT:=zh hT;have K3:Hid (Keep NoS wr w3):=zh (Keep.trans kp (by obtain⟨L,hL⟩:=hT;exact hL.k) fun _ _ _ h=>h)
 clear hT CN t0 t1 t2 t3 t4 t5 t6;have CF:=zh (fun w' (k:Keep NoS w3 w')=>feas_any _ w' bT _ ints.length R _ 1048576 (HT.out.keep k) HINV.out (Nat.le_refl _) (by omega))
 rw [show((1048576:Nat):Int)=1048576 from rfl]at CF
 go_wp2_with fail;refine(CF.out _ kp).mono ?_;rintro e w4 hcase;clear CF
 rcases hcase with⟨T,nm',hfe,rfl,hT4⟩ | ⟨l,u,hfe,rfl,hu,hk4⟩ | ⟨hfe,rfl,hk4⟩
 case inr.inr=>
  have hl:lpN ints.length R= .hungry:=by unfold lpN lpT;rw [hfe]
  rw [← HR.out]at hl;have HRS:=HRES.out.trans (step_hungry hl);go_wp2;refine bodyPost_ret (by simp [results,Tryz.results33,go_sem];rfl) rfl ?_
  rw [HRS];exact⟨_,rfl,OwnI.nil _ _,⟨_,_,_,_,_,HCR.out.keep hk4⟩,T2.out.trans (.of hk4)⟩
 case inr.inl=>
  have hl:lpN ints.length R= .no l:=by unfold lpN lpT;rw [hfe]
  rw [← HR.out]at hl;have HRS:=zh (step_no (rc:=atF (lpN ints.length) rows ints d) (s:=s1) hl);have hlno:=LPO.out.no _ l (by rw [HR.out];exact h64) (by rw [HR.out];exact HOKR.out) hl
  obtain⟨Tn,bn,way,hIT,hBK,hEN,hll⟩:=feas_no 1048576 _ l HINV.out hfe;have hnb:∀q∈l,NB 1000 q:=by
   rw [hll];have hi:=(line_spec hBK.mem).1;rw [hIT.wf.bl,hIT.hr]at hi;exact refK_nb hIT hi hBK.way _ (by rw [hIT.hn,hIT.hr];exact Nat.le_refl _)
  have hlen:l.length=M:=by rw [hlno.1,HR.out,hRl]
  have hnep:=pairs_ne hlno.1 (hIl.trans (hRl.symm.trans (by rw [HR.out]))) hlno.2.1
  have hne:l≠ []:=by
   intro h0;rw [h0]at hnep;exact hnep (by simp [pairsF])
  obtain⟨ou',cu',lu,hue,h1,h2,h3,h4⟩:=hu;obtain⟨gu,go,rfl,h5⟩:=h4 hne;have hu:IsNums w4 u l:=⟨_,cu',lu,hue,h1,h2,h3,fun _=>⟨gu,go,rfl,h5⟩⟩
  have CRF:=zh (fun w' (k:Keep NoS w4 w')=>refuted_any w0 w' bS _ _ s1 u _ l (allI rows.length ints.length B) M ⟨_,_,_,_,_,(HCR.out.keep hk4).keep k⟩ (hu.keep k) hnb (((HIW.out.keep hk4).keep k).ints (fun x hx=>by have:=allI_rng hm40 HAO.out HBO.out x hx;unfold I64;omega)) hlen hIl (by omega) (allI_rng hm40 HAO.out HBO.out) (pairs_nd (allI_nd HBO.out)) hnep (by omega))
  rw [hlen]at hue HRS;have K4:=zh hk4;subst hue;clear hfe HT hIT hBK hEN hll hnb hlen hne h1 h2 h3 h4 h5 hu hk4 hl hlno hnep;have hnil:∀w,Sem.run Tryz.prog (binOp BinOp.neq 64 (Value.slice (some ⟨gu,go,none⟩) M cu') (Value.slice none 0 0)) w= .ok (.bool true) w:=fun w=>rfl
  go_wp2_with fail;refine(CRF.out _ kp).mono ?_;rintro e w5 ⟨hyes,hno,kt5⟩;have T5:=zh ((T2.out.trans (.of K4.out)).trans ((KT.of (P:=P) (show Keep NoS w4 w4 from Keep.refl _ _)).trans kt5))
  clear CRF hnil kt5 K4 HCR
  rcases hfit:allFit l M with _ | _
  case false=>
   obtain⟨rfl,hs5⟩:=hno hfit;have HRX:=zh (HRES.out.trans (HRS.out.2 hfit));clear hyes hno HRS HRES;obtain⟨va5,vt5,vp5,xs5,ys5,hc5⟩:=hs5;obtain⟨t0,t1,t2,t3,t4,t5,t6,lS5⟩:=blk7C hc5.blk;have t6f:=hc5.blk.free 6;have HC5:=zh hc5;clear hc5 t0 t1 t2 t3 t4 t5;have hfin:IsS P w0 (w5.setCell ⟨bS,6,none⟩ (.bool true)) bS (.slice orr rows.length cr) (.slice oi ints.length ci) {s1 with much:=true}:=⟨_,_,_,_,_,HC5.out.set 6 _ (by simp) rfl rfl HC5.out.p⟩
   have hkt:=T5.out.trans (KT.set HC5.out.b (.inr (.inr rfl)) (fun hp=>(HC5.out.av bS hp).2.1 rfl) (.bool true) (i:=6))
   have HFI:=zh hfin;have HKT:=zh hkt;clear hfin hkt HC5;generalize s1.much=mu at*
   rcases mu with _ | _
   case false=>
    go_simp
    repeat go_step
    refine bodyPost_ret (by simp [results,Tryz.results33,go_sem];rfl) rfl ?_
    rw [HRX.out];exact⟨_,rfl,OwnI.nil _ _,HFI.out,HKT.out⟩
   case true=>
    go_simp
    repeat go_step
    refine bodyPost_ret (by simp [results,Tryz.results33,go_sem];rfl) rfl ?_
    rw [HRX.out];exact⟨_,rfl,OwnI.nil _ _,HFI.out,HKT.out⟩
  case true=>
   obtain⟨u5,rfl,ho5,hs5⟩:=hyes hfit;have HRX:=zh (HRES.out.trans (HRS.out.1 hfit));clear hyes hno HRS HRES;obtain⟨ou5,cu5,hv5⟩:=ho5.len;rw [List.length_map]at hv5;subst hv5;obtain⟨va5,vt5,vp5,xs5,ys5,hc5⟩:=hs5;obtain⟨t0,t1,t2,t3,t4,t5,t6,lS5⟩:=blk7C hc5.blk;have t6f:=hc5.blk.free 6;have kts:KT P w5 (w5.setCell ⟨bS,6,none⟩ (.bool s1.much)):=KT.set hc5.b (.inr (.inr rfl)) (fun hp=>(hc5.av bS hp).2.1 rfl) _
   have HFI:=zh (show IsS P w0 (w5.setCell ⟨bS,6,none⟩ (.bool s1.much)) bS (.slice orr rows.length cr) (.slice oi ints.length ci) _ from⟨_,_,_,_,_,hc5.set 6 (.bool s1.much) (by simp) rfl rfl hc5.p⟩)
   have HKT:=zh (T5.out.trans kts);have HOF:=zh (kts.ints ho5);clear hc5 t0 t1 t2 t3 t4 t5 kts ho5 T5;generalize s1.much=mu at*
   rcases mu with _ | _
   case false=>
    go_simp
    repeat go_step
    refine bodyPost_ret (by simp [results,Tryz.results33,go_sem];rfl) rfl ?_
    rw [HRX.out];exact⟨_,rfl,HOF.out,HFI.out,HKT.out⟩
   case true=>
    go_simp
    repeat go_step
    refine bodyPost_ret (by simp [results,Tryz.results33,go_sem];rfl) rfl ?_
    rw [HRX.out];exact⟨_,rfl,HOF.out,HFI.out,HKT.out⟩
 case inl=>
  have hl:lpN ints.length R= .yes (T.ptK T.n):=by unfold lpN lpT;rw [hfe]
  rw [← HR.out]at hl;have HRS:=zh (step_yes (rc:=atF (lpN ints.length) rows ints d) (s:=s1) hl);have hly:=LPO.out.yes _ _ (by rw [HR.out];exact h64) (by rw [HR.out];exact HOKR.out) hl
  obtain⟨hIT,_⟩:=feas_yes 1048576 _ T HINV.out hfe;have HNP:=zh (ptK_nb hIT);have CP:=zh (fun w' (k:Keep NoS w4 w')=>point_any _ w' bT nm' T (hT4.keep k) hIT.wf hIT.nb)
  have K4:Hid (Keep NoS wr w4):=zh (by obtain⟨L,hL⟩:=hT4;exact hL.k)
  clear hfe HT hT4 hIT hl;obtain⟨pt,hpt⟩:∃pt,T.ptK T.n=pt:=⟨_,rfl⟩;rw [hpt]at HRS hly HNP CP;have HLY:=zh hly;have hnil:∀w,Sem.run Tryz.prog (binOp BinOp.neq 64 (Value.slice none 0 0) (Value.slice none 0 0)) w= .ok (.bool false) w:=fun w=>by kernel_rfl
  go_wp2_with fail;refine(CP.out _ kp).mono ?_;rintro e w5 ⟨u,rfl,hu5,hk5⟩;have k5:Keep NoS w4 w5:=Keep.trans kp hk5 fun _ _ _ h=>h
  have HU5:=zh hu5;obtain⟨ou,cu',hvu,_,_⟩:=hu5.len;have hpl:pt.length=ints.length:=hly.1;rw [hpl]at hvu;subst hvu;have HC5:=zh ((HCR.out.keep K4.out).keep k5);have T5:=zh (T2.out.trans (.of (K4.out.both k5)));have HBM5:=zh (HBMr.out.kt (.of (K4.out.both k5):KT P wr w5));have CO:=zh (fun w' (k:Keep NoS w5 w')=>open_any w' bS _ _ _ _ _ _ _ ints _ pt (HC5.out.keep k).blk (HX.out.hi.keep (HC5.out.keep k).k) (HU5.out.keep k) HNP.out hpl)
  clear CP hu5 hk5 k5 hly hnil K4 HCR T2 HBMr hpt HINV HOKR HRW HIW;go_wp2_with fail;refine(CO.out _ kp).mono ?_;rintro e w6 ⟨rfl,hk6⟩;have k6:Keep NoS w5 w6:=Keep.trans kp hk6 fun _ _ _ h=>h
  have HU6:=zh (HU5.out.keep k6);have HC6:=zh (HC5.out.keep k6);have T6:=zh (T5.out.trans (.of k6));have HBM6:=zh (HBM5.out.kt (.of k6:KT P w5 w6));clear CO hk6 k6 HU5 HC5 T5 HBM5
  rcases hok:openK ints pt with _ | kk
  case none=>
   have HRX:=zh (HRES.out.trans (HRS.out.1 hok));have e1:openZ ints pt= -1:=by unfold openZ;rw [hok]
   rw [e1];clear HRS HRES hok e1;have CT:=zh (fun w' (k:Keep NoS w6 w')=>tabFracs_any w' _ _ (HU6.out.keep k) HNP.out (by omega))
   go_wp2_with fail;refine(CT.out _ kp).mono ?_;rintro e w7 ⟨u7,rfl,hu7,hk7⟩;have k7:Keep NoS w6 w7:=Keep.trans kp hk7 fun _ _ _ h=>h
   obtain⟨ou7,cu7,hv7⟩:=owns_form hu7;rw [List.length_map,hpl]at hv7;subst hv7;have hc7:=HC6.out.keep k7;have hu7':OwnF w7 w0.heap.size (.slice ou7 ints.length cu7) (pt.map fqOf):=World.ownsRow_mono hu7 HC6.out.k.size;obtain⟨t0,t1,t2,t3,t4,t5,t6,lS7⟩:=blk7C hc7.blk;have t5f:=hc7.blk.free 5;have t6f:=hc7.blk.free 6;have hcA:IsC P w0 (w7.setCell ⟨bS,5,none⟩ (.slice ou7 ints.length cu7)) bS (.slice orr rows.length cr) (.slice oi ints.length ci) {s1 with point:=pt.map fqOf} _ _ (.slice ou7 ints.length cu7) _ _:=hc7.set 5 _ (by simp) rfl rfl hu7'
   have ktA:KT P w7 (w7.setCell ⟨bS,5,none⟩ (.slice ou7 ints.length cu7)):=KT.set hc7.b (.inr (.inr rfl)) (fun hp=>(hc7.av bS hp).2.1 rfl) _
   have hcB:=fun(b:Bool)=>show IsS P w0 ((w7.setCell ⟨bS,5,none⟩ (.slice ou7 ints.length cu7)).setCell ⟨bS,6,none⟩ (.bool b)) bS (.slice orr rows.length cr) (.slice oi ints.length ci) {s1 with point:=pt.map fqOf,much:=b}from⟨_,_,_,_,_,hcA.set 6 (.bool b) (by simp) rfl rfl hcA.p⟩
   have ktB:=fun(b:Bool)=>(T6.out.trans (.of k7)).trans (ktA.trans (KT.set (P:=P) hcA.b (.inr (.inr rfl)) (fun hp=>(hcA.av bS hp).2.1 rfl) (.bool b) (i:=6)))
   have HFB:=zh hcB;have HTB:=zh ktB;clear hcA ktA hcB ktB hc7 hu7 hu7' hk7 k7 t0 t1 t2 t3 t4 CT HC6 T6 HU6 HBM6;generalize s1.much=mu at *;generalize allFit pt pt.length=af at*
   rcases mu with _ | _<;>rcases af with _ | _
   ·have HFI:=zh (HFB.out true)
    have HKT:=zh (HTB.out true);go_simp
    repeat go_step
    refine bodyPost_ret (by simp [results,Tryz.results33,go_sem];rfl) rfl ?_
    rw [HRX.out];exact⟨_,rfl,OwnI.nil _ _,HFI.out,HKT.out⟩
   ·have HFI:=zh (HFB.out false)
    have HKT:=zh (HTB.out false);go_simp
    repeat go_step
    refine bodyPost_ret (by simp [results,Tryz.results33,go_sem];rfl) rfl ?_
    rw [HRX.out];exact⟨_,rfl,OwnI.nil _ _,HFI.out,HKT.out⟩
   ·have HFI:=zh (HFB.out true)
    have HKT:=zh (HTB.out true);go_simp
    repeat go_step
    refine bodyPost_ret (by simp [results,Tryz.results33,go_sem];rfl) rfl ?_
    rw [HRX.out];exact⟨_,rfl,OwnI.nil _ _,HFI.out,HKT.out⟩
   ·have HFI:=zh (HFB.out true)
    have HKT:=zh (HTB.out true);go_simp
    repeat go_step
    refine bodyPost_ret (by simp [results,Tryz.results33,go_sem];rfl) rfl ?_
    rw [HRX.out];exact⟨_,rfl,OwnI.nil _ _,HFI.out,HKT.out⟩
  case some=>
   have HRX:=zh (HRES.out.trans (HRS.out.2 kk hok));obtain⟨hk1,hk2,hk3⟩:=openK_some hok;have e1:openZ ints pt=(kk:Int):=by unfold openZ;rw [hok]
   rw [e1];have hlk:¬(kk:Int)<0:=by omega
   have hkI:(kk:Int)<(ints.length:Int):=by omega
   have HSB:=zh (snd_branch HAO.out HBO.out hk1 hk2 hk3 (fun r hr=>HLY.out.2 r hr) (fun s B h1 h2=>snd_at LPO.out hn12 hm40 HX.out.ok d s B h1 h2))
   have hkp:kk<pt.length:=by omega
   obtain⟨bp,opp,rfl,hbp,pb,pS,pc,pU,p0,p1,p2,p3,hxp⟩:=HU6.out.at hkp;have eg:pt.getD kk 0=pt[kk]:=by rw [List.getD_eq_getElem?_getD,List.getElem?_eq_getElem hkp];rfl
   rw [eg]at HRX HSB;have hnp:=HNP.out _ (List.getElem_mem hkp);clear HRS HRES hok e1 hk2 hk3 HLY HU6 HNP eg;generalize pt[kk]=q at *;clear hkp;have CFL:=zh (fun w'=>exFloor_any w' _ _ hxp (hnp.mono (by omega)))
   have HNF:=zh ((nb_floor hnp (by omega)).mono (k:=4000) (by omega))
   obtain⟨z,hz⟩:∃z,floorQ q=z:=⟨_,rfl⟩;have hz':q.num/(q.den:Int)=z:=hz;rw [hz]at HRX HSB HNF;rw [hz']at CFL;obtain⟨⟨zb,zS,zc,zU⟩,hzv,hzn⟩:=numInt z;rw [hzv]at CFL;unfold NV.v at CFL hzn;simp only at CFL hzn;have HZN:=zh hzn;clear hz hz' hzv hzn hxp hnp;go_wp2_with fail;refine(CFL.out _).mono ?_;rintro e w7 ⟨rfl,hk7⟩;have k7:Keep NoS w6 w7:=Keep.trans kp hk7 fun _ _ _ h=>h
   have CBR:=zh (branch_any w0 w7 bS orr cr oi ci rows ints HX.out d HAC.out s1 B g kk z zb zS zc zU ⟨_,_,_,_,_,HC6.out.keep k7⟩ (HBM6.out.kt (.of k7:KT P w6 w7)) HAO.out HBO.out hk1 HZN.out HNF.out HFD.out HPH.out hsl HSB.out);have T7:=zh (T6.out.trans (.of k7));clear k7 hk7 CFL HC6 T6 HBM6 p0 p1 p2 p3;go_wp2_with fail;refine CBR.out.mono ?_;rintro e w8 ⟨c8,rfl,ho8,hs8,kt8⟩;have HO8:=zh ho8;have HS8:=zh hs8;have T8:=zh (T7.out.trans kt8);obtain⟨oc8,cc8,hv8⟩:=ho8.len;subst hv8;clear CBR ho8 hs8 kt8 T7;go_simp
   repeat go_step
   refine bodyPost_ret (by simp [results,Tryz.results33,go_sem];rfl) rfl ?_
   rw [HRX.out];exact⟨_,rfl,HO8.out,HS8.out,T8.out⟩
theorem at_any (w0:World)(bS:Nat)(orr:Option Addr)(cr:Nat)(oi:Option Addr)(ci:Nat)(rows:List Rw)(ints:List Bool)(hx:CutX w0 (.slice orr rows.length cr) (.slice oi ints.length ci) rows ints):∀d,AtC w0 bS (.slice orr rows.length cr) (.slice oi ints.length ci) rows ints d
 | 0=>fun P w s B g _ _ _ _ h _=>absurd h (by omega)
 | d+1=>at_step w0 bS orr cr oi ci rows ints hx d (at_any w0 bS orr cr oi ci rows ints hx d)
end Go.Proofs.YtaiffmebphhdaaaGreat
