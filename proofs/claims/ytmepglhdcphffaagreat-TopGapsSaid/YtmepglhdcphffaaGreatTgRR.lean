/- Package form: atoms, functions, Holds: weak contracts. For TopGaps. Package form: Holds: a weak contract. For TopGaps. Package solve: the parts of round. For TopGaps. Package solve: round. For TopGaps. -/
import Derived.Test.YtmepglhdcphffaaGreatTgGG
import Derived.Test.YtmepglhdcphffaaGreatPtAA
namespace Go.Proofs.YtmepglhdcphffaaGreat
set_option maxRecDepth 100000
set_option maxHeartbeats 16000000
set_option linter.unusedSimpArgs false
set_option linter.unusedVariables false
open Go.ChangeShapes Go.WideShapes Go.RowKit Go.Maps
def AtE (f:GF)(e:Ending):Prop:=∃r:Bool,e= .returned (.bool r)∧((∀a∈f.atoms,a.k=1)→r=true)
theorem Pe (r:Rw)(nums:List Fq):∃(b:Bool) (c d:Int),holdsV r nums= .tuple #[.bool b,.agg #[.int .i64 c,.int .i64 d]]:=by
 unfold holdsV fV;split
 ·exact ⟨_,_,_,rfl⟩
 exact⟨_,_,_,rfl⟩
theorem Pf (w:World)(L:jZ)(M:Rx)(f:GF)(nums:List Fq)(h:qm w L f)(hok:rQ f)(hm:FE w M f (List.replicate f.atoms.length true) nums):
  Calls Tryz.prog 130 #[L.v f,M.v f.atoms.length f.n] w fun e w'=>AtE f e∧Keep au w w':=by
 have HA:=zh h.a;have HH:=zh hm.h;have Ns:=zh hok.a;have hm20:=hok.n;have CR:=zh (fun w' (k:Keep au w w') a (hg:Uy w' a) (hr:iA a.r (f.n:Int))=>G6 w' (gaR a) a.r (.slice M.on f.n M.cn) nums (hg.row hr) (hm.n.keep k));unfold jZ.v Rx.v;obtain⟨oi,ci,oa,ca,oc,cc⟩:=L;obtain⟨oh,ch,ot,ct,on,cn⟩:=M;simp only at HA HH CR ⊢;obtain⟨m,hm'⟩:∃m,f.atoms.length=m:=⟨_,rfl⟩;have HM:=zh hm';rw [hm']at HA HH hm20 ⊢;obtain⟨n,hn'⟩:∃n,f.n=n:=⟨_,rfl⟩;rw [hn']at CR Ns ⊢;generalize f.cls.length=q at *;clear h hok hm hm' hn';obtain⟨w2,hw2⟩:∃w2:World,w2=(w.alloc (.cells #[.slice none 0 0,.slice oi n ci,.slice oa m ca,.slice oc q cc] Bv)).alloc (.cells #[.slice oh m ch,.slice ot 0 ct,.slice on n cn] TMd):=⟨_,rfl⟩;obtain⟨b2,hb2⟩:∃b2,b2=w.heap.size+1:=⟨_,rfl⟩;have K2:Hid (Keep au w w2):=zh (by rw [hw2];exact((Keep.refl _ _).alloc _).alloc _);have HB1:Hid (w2.heap[w.heap.size]? =some (.cells #[.slice none 0 0,.slice oi n ci,.slice oa m ca,.slice oc q cc] Bv (0,0))):=zh (by rw [hw2,heap_alloc_old _ _ _ sm];exact aK _ _ _ rfl);have HB2:Hid (w2.heap[b2]? =some (.cells #[.slice oh m ch,.slice ot 0 ct,.slice on n cn] TMd (0,0))):=zh (by rw [hw2,hb2];exact aK _ _ _ sm);go_enter Tryz.func130,Tryz.ntmps130;go_upto_region 1 with fail;rw [← hw2,←hb2];clear hw2 hb2;generalize hg1:w.heap.size=b1 at *;clear hg1;have x2:=cell_of_heap (o:=2) HB1.out rfl;have xl:=lt_of_heap HB1.out;go_wp2;clear x2 xl;go_loopw [11] (fun s wr=>∃k:Nat,k≤m∧s= .int .i64 k∧Keep au w2 wr) (fun s _=>(m-intOf s).toNat)
 case atStart=>exact⟨0,om,rfl,kp⟩
 obtain⟨k,hk,rfl,hkr⟩:=hrel;have KR:=zh hkr;clear hkr;by_cases hkl:k<m
 case neg=>
  have hlt:¬(k:Int)<(m:Int):=om;go_wp2;go_ret;exact⟨⟨true,rfl,fun _=>rfl⟩,K2.out.both KR.out⟩
 have hlt:(k:Int)<(m:Int):=om;have hkm:k<f.atoms.length:=by rw [HM.out];exact hkl
 have hAr:=HA.out.keep (K2.out.both KR.out);obtain⟨ba,fa,rfl,hba,p0,p1,p2,p3,p4,p5⟩:=hAr.at hkm;have ho:=Ns.out _ (List.getElem_mem hkm);have hgm:=hAr.mem _ (List.getElem_mem hkm);have hall:∀h:∀a∈f.atoms,a.k=1,f.atoms[k].k=1:=fun h=>h _ (List.getElem_mem hkm);clear hAr;generalize f.atoms[k]=a at *;have ka:Keep au wr (wr.alloc (.cells #[.int .i64 a.k,.int .i64 0,.int .i64 0,.slice a.o a.r.of.length a.c,.int .i64 a.r.kind,.int .i64 a.r.to] rD)):=(Keep.refl _ _).alloc _;have HBA:Hid (aL (wr.alloc (.cells #[.int .i64 a.k,.int .i64 0,.int .i64 0,.slice a.o a.r.of.length a.c,.int .i64 a.r.kind,.int .i64 a.r.to] rD)) wr.heap.size #[.int .i64 a.k,.int .i64 0,.int .i64 0,.slice a.o a.r.of.length a.c,.int .i64 a.r.kind,.int .i64 a.r.to]):=zh (aN _ _ rfl);obtain⟨bh,fh,hoh,hbh,h0⟩:=(HH.out.keep ((K2.out.both KR.out).both ka)).at (k:=k) (by rw [List.length_replicate];exact hkl);rw [List.getElem_replicate]at h0;subst hoh;have K6:=zh (KR.out.both ka);have HGM:=zh (hgm.keep ka);have HHA:=zh hall;clear ka hgm hall;go_upto_region 4 with fail;have CRR:=zh (fun hr:iA a.r (n:Int)=>CR.out _ (K2.out.both K6.out) a HGM.out hr);unfold gaR at CRR;generalize wr.alloc (.cells #[.int .i64 a.k,.int .i64 0,.int .i64 0,.slice a.o a.r.of.length a.c,.int .i64 a.r.kind,.int .i64 a.r.to] rD)=w6 at *;generalize wr.heap.size=b6 at *;clear p0 p1 p2 p3 p4 p5 hba CR;have y0:=(K6.out.cell (i:=0) (lt_of_heap HB2.out)).trans (cell_of_heap (o:=0) HB2.out rfl);have y2:=(K6.out.cell (i:=2) (lt_of_heap HB2.out)).trans (cell_of_heap (o:=2) HB2.out rfl);have yl:=bJ (lt_of_heap HB2.out) K6.out.size;have a0:w6.cell? ⟨b6,0,none⟩=some (.int .i64 a.k):=HBA.out.cell 0;have a3:w6.cell? ⟨b6,3,none⟩=some (.slice a.o a.r.of.length a.c):=HBA.out.cell 3;have a4:w6.cell? ⟨b6,4,none⟩=some (.int .i64 a.r.kind):=HBA.out.cell 4;have a5:w6.cell? ⟨b6,5,none⟩=some (.int .i64 a.r.to):=HBA.out.cell 5;have al:=HBA.out.lt;rcases ho with⟨g1,g2⟩ | ⟨g1,g2,g3,g4,g5⟩
 ·rw [g1]at a0;clear g1 g2 CRR;go_wp2;go_roundw
  case rel=>exact⟨k+1,om,gn,K6.out⟩
  simp [intOf];omega
 have CRR:=zh (CRR.out g5);obtain⟨hb,hc,hd,hform⟩:=Pe a.r nums;rw [hform]at CRR;have OT:Hid (¬ ∀a∈f.atoms,a.k=1):=zh (fun h=>by have:=HHA.out h;omega);rw [g1]at a0;clear g1 g2 g3 g4 g5 hform;generalize a.r.of.length=q4 at *;generalize a.r.kind=q5 at *;generalize a.r.to=q6 at *;go_wp2_with fail;refine CRR.out.mono ?_;rintro e w7 ⟨rfl,hk7⟩;have h0:=(hk7.cell hbh).trans h0;have y0:=(hk7.cell yl).trans y0;have yl:=bJ yl hk7.size;have hbh:=bJ hbh hk7.size;have K7:=zh (K6.out.both hk7);clear hk7 CRR a0 a3 a4 a5 al y2;cases hb
 ·go_wp2;go_ret;exact⟨⟨false,rfl,fun h=>absurd h OT.out⟩,K2.out.both K7.out⟩
 go_wp2;go_roundw
 case rel=>exact⟨k+1,om,gn,K7.out⟩
 simp [intOf];omega
theorem Pg (w:World)(L:jZ)(M:Rx)(f:GF):Calls Tryz.prog 131 #[L.v f,M.v f.atoms.length f.n] w fun e w'=>e= .returned (.bool true)∧Keep au w w':=by
 unfold jZ.v Rx.v;obtain⟨oi,ci,oa,ca,oc,cc⟩:=L;obtain⟨oh,ch,ot,ct,on,cn⟩:=M;simp only;generalize f.atoms.length=m at *;generalize f.cls.length=q at *;generalize f.n=n at *;go_enter Tryz.func131,Tryz.ntmps131;go_wp2;go_loopw [12] (fun s wr=>s= .int .i64 0∧Keep au w wr) (fun _ _=>0)
 case atStart=>exact⟨rfl,kp⟩
 obtain⟨rfl,hkr⟩:=hrel;have KR:=zh hkr;clear hkr;go_wp2;go_ret;exact⟨rfl,KR.out⟩
def HoP (P:Prop)(r1:Bool)(e:Ending):Prop:=∃r:Bool,e= .returned (.tuple #[.bool r,.agg #[.int .i64 0,.int .i64 0]])∧(P→r1=true→r=true)
def HoE (f:GF)(e:Ending):Prop:=HoP (∀a∈f.atoms,a.k=1) (f.cls.all fun c=>c.any (Sv.litB (List.replicate f.atoms.length true))) e
theorem OY (w:World)(L:jZ)(M:Rx)(f:GF)(nums:List Fq)(h:qm w L f)(hok:rQ f)(hm:FE w M f (List.replicate f.atoms.length true) nums):
  Calls Tryz.prog 62 #[L.v f,M.v f.atoms.length f.n] w fun e w'=>HoE f e∧Keep au w w':=by
 have CF:=zh (fun w' (k:Keep au w w')=>Ry w' L M f _ nums (h.keep k) hok (hm.keep k));have CA:=zh (fun w' (k:Keep au w w')=>Pf w' L M f nums (h.keep k) hok (hm.keep k));have CU:=fun w'=>zh (Pg w' L M f);have CC:=zh (fun w' (k:Keep au w w')=>Zb w' _ _ f.cls (List.replicate f.atoms.length true) (h.c.keep k) (hm.h.keep k) (fun c hc x hx=>by have:=(hok.c.c c hc).1.2 x hx;rw [List.length_replicate];exact this) (by rw [List.length_replicate];have:=hok.n;omega));have HI:=zh h.i;have hn12:=hok.n12;unfold HoE;unfold AtE at CA;unfold jZ.v Rx.v at CF CA CU ⊢;obtain⟨oi,ci,oa,ca,oc,cc⟩:=L;obtain⟨oh,ch,ot,ct,on,cn⟩:=M;simp only at CF CA CU CC HI ⊢;generalize (f.cls.all fun c=>c.any (Sv.litB (List.replicate f.atoms.length true)))=r1 at*;obtain⟨P,hP⟩:∃P:Prop,P= ∀a∈f.atoms,a.k=1:=⟨_,rfl⟩;rw [← hP]at CA ⊢;generalize f.n=n at *;generalize f.atoms.length=m at *;generalize f.cls.length=q at *;clear h hok hm hP;obtain⟨w2,hw2⟩:∃w2:World,w2=((w.alloc (.cells #[.slice none 0 0,.slice oi n ci,.slice oa m ca,.slice oc q cc] Bv)).alloc (.cells #[.slice oh m ch,.slice ot 0 ct,.slice on n cn] TMd)).alloc (.cells #[.int .i64 0,.int .i64 0] iZ):=⟨_,rfl⟩;obtain⟨b2,hb2⟩:∃b2,b2=w.heap.size+1:=⟨_,rfl⟩;obtain⟨b3,hb3⟩:∃b3,b3=b2+1:=⟨_,rfl⟩;have K2:Hid (Keep au w w2):=zh (by rw [hw2];exact(((Keep.refl _ _).alloc _).alloc _).alloc _);have HB1:Hid (aL w2 w.heap.size #[.slice none 0 0,.slice oi n ci,.slice oa m ca,.slice oc q cc]):=zh (by rw [hw2];exact aL.old (aL.old (aN _ _ rfl) _) _);have HB2:Hid (aL w2 b2 #[.slice oh m ch,.slice ot 0 ct,.slice on n cn]):=zh (by rw [hw2,hb2];exact aL.old (aN _ _ sm) _);have HB3:Hid (aL w2 b3 #[.int .i64 0,.int .i64 0]):=zh (by rw [hw2,hb3,hb2];exact aN _ _ sm);go_enter Tryz.func62,Tryz.ntmps62;go_upto_region 1 with fail;rw [← hw2,←hb2,←hb3];have Jm:Hid (w.heap.size≤b3):=zh om;clear hw2 hb2 hb3;generalize hg1:w.heap.size=b1 at *;have mE:=zh hg1;clear hg1;have FACTS:Hid (∀w',Keep au w2 w'→w'.cell? ⟨b1,0,none⟩=some (.slice none 0 0)∧w'.cell? ⟨b1,1,none⟩=some (.slice oi n ci)∧w'.cell? ⟨b1,2,none⟩=some (.slice oa m ca)∧w'.cell? ⟨b1,3,none⟩=some (.slice oc q cc)∧w'.cell? ⟨b2,0,none⟩=some (.slice oh m ch)∧w'.cell? ⟨b2,1,none⟩=some (.slice ot 0 ct)∧w'.cell? ⟨b2,2,none⟩=some (.slice on n cn)∧b1<w'.heap.size∧b2<w'.heap.size):=zh (fun w' k=>by
  have h1:=HB1.out.keep k;have h2:=HB2.out.keep k;exact⟨h1.cell 0,h1.cell 1,h1.cell 2,h1.cell 3,h2.cell 0,h2.cell 1,h2.cell 2,h1.lt,h2.lt⟩)
 have FIN:Hid (∀w',Keep au w2 w'→w'.cell? ⟨b3,0,none⟩=some (.int .i64 0)∧w'.cell? ⟨b3,1,none⟩=some (.int .i64 0)∧w'.frozen? ⟨b3,0,none⟩=false∧w'.frozen? ⟨b3,1,none⟩=false∧b3<w'.heap.size):=zh (fun w' k=>by
  have h:=HB3.out.keep k;exact⟨h.cell 0,h.cell 1,h.free 0,h.free 1,h.lt⟩)
 obtain⟨x0,x1,x2,x3,y0,y1,y2,xl,yl⟩:=FACTS.out w2 (Keep.refl _ _);have CF:=zh (CF.out w2 K2.out);go_wp2_with fail;refine CF.out.mono ?_;rintro e w3 ⟨rfl,hk3⟩;have K4:Hid (Keep au w2 (w3.alloc (.cells #[.int .i64 0,.int .i64 0] iZ))):=zh (Keep.both hk3 ((Keep.refl _ _).alloc _));clear hk3 CF x0 x1 x2 x3 y0 y1 y2 xl yl HB1 HB2 HB3;obtain⟨x0,x1,x2,x3,y0,y1,y2,xl,yl⟩:=FACTS.out _ K4.out;go_wp2;clear x0 x1 x2 x3 y0 y1 y2 xl yl;go_loopw [19] (fun s wr=>∃k:Nat,k≤n∧s= .int .i64 k∧Keep au w2 wr) (fun s _=>(n-intOf s).toNat)
 case atStart=>exact⟨0,om,rfl,K4.out⟩
 obtain⟨k,hk,rfl,hkr⟩:=hrel;have K5:=zh hkr;clear hkr;by_cases hkl:k<n
 case pos=>
  have hlt:(k:Int)<(n:Int):=om;obtain⟨bh,fh,hoh,hbh,h0⟩:=(HI.out.keep (K2.out.both K5.out)).at (k:=k) (by rw [List.length_replicate];exact hkl);rw [List.getElem_replicate]at h0;subst hoh;go_wp2;go_roundw
  case rel=>exact⟨k+1,om,gn,K5.out⟩
  simp [intOf];omega
 have hlt:¬(k:Int)<(n:Int):=om;obtain⟨x0,x1,x2,x3,y0,y1,y2,xl,yl⟩:=FACTS.out _ K5.out;have CC:=zh (CC.out wr (K2.out.both K5.out));go_wp2_with fail;refine CC.out.mono ?_;rintro e w6 ⟨rfl,hk6⟩;have K6:=zh (K5.out.both hk6);clear hk6 CC x0 x1 x2 x3 y0 y1 y2 xl yl;obtain⟨x0,x1,x2,x3,y0,y1,y2,xl,yl⟩:=FACTS.out _ K6.out;cases r1
 case false=>
  obtain⟨t0,t1,f0,f1,tl⟩:=FIN.out _ K6.out;go_wp2;refine bodyPost_ret (by simp [results,Tryz.results62,go_sem,t0,t1,tl];rfl) rfl ?_;exact⟨⟨false,rfl,fun _ h=>h⟩,aQ (aQ (K2.out.both K6.out) _ (by rw [mE.out];exact Jm.out)) _ (by rw [mE.out];exact Jm.out)⟩
 have CA:=zh (CA.out w6 (K2.out.both K6.out));go_wp2_with fail;refine CA.out.mono ?_;rintro e w7 ⟨⟨r2,rfl,hr2⟩,hk7⟩;have K7:=zh (K6.out.both hk7);have HR2:=zh hr2;clear hk7 CA x0 x1 x2 x3 y0 y1 y2 xl yl hr2;obtain⟨x0,x1,x2,x3,y0,y1,y2,xl,yl⟩:=FACTS.out _ K7.out;cases r2
 case false=>
  obtain⟨t0,t1,f0,f1,tl⟩:=FIN.out _ K7.out;go_wp2;refine bodyPost_ret (by simp [results,Tryz.results62,go_sem,t0,t1,tl];rfl) rfl ?_;exact⟨⟨false,rfl,fun h _=>HR2.out h⟩,aQ (aQ (K2.out.both K7.out) _ (by rw [mE.out];exact Jm.out)) _ (by rw [mE.out];exact Jm.out)⟩
 go_wp2_with fail;refine(CU _).out.mono ?_;rintro e w8 ⟨rfl,hk8⟩;have K8:=zh (K7.out.both hk8);clear hk8 CU x0 x1 x2 x3 y0 y1 y2 xl yl;obtain⟨t0,t1,f0,f1,tl⟩:=FIN.out _ K8.out;go_wp2;refine bodyPost_ret (by simp [results,Tryz.results62,go_sem,t0,t1,tl];rfl) rfl ?_;exact⟨⟨true,rfl,fun _ _=>rfl⟩,aQ (aQ (K2.out.both K8.out) _ (by rw [mE.out];exact Jm.out)) _ (by rw [mE.out];exact Jm.out)⟩
structure Uq where
 a:Int
 b:Int
 c:Int
 d:Int
theorem iN.new {a w:World}(h:iN a w){b:Nat}(hb:a.heap.size≤b)(i:Nat)(v:Value):iN a (w.setCell ⟨b,i,none⟩ v):=
 ⟨by simpa using h.size,fun k A t e q1 q2 q3=>by
  have hk:k<a.heap.size:=lt_of_heap e;have hne:k≠b:=om;exact(heap_setCell_other w ⟨b,i,none⟩ v k hne).trans (h.at' k A t e q1 q2 q3)⟩
theorem iN.new6 {a w:World}(h:iN a w){b:Nat}(hb:a.heap.size≤b)(a0 a1 a2 a3 a4 a5:Value):iN a ((((((w.setCell ⟨b,0,none⟩ a0).setCell ⟨b,1,none⟩ a1).setCell ⟨b,2,none⟩ a2).setCell ⟨b,3,none⟩ a3).setCell ⟨b,4,none⟩ a4).setCell ⟨b,5,none⟩ a5):=(((((h.new hb 0 a0).new hb 1 a1).new hb 2 a2).new hb 3 a3).new hb 4 a4).new hb 5 a5
theorem iN.sv {a w:World}(h:iN a w){b:Nat}(hb:mG w b MQ)(i:Nat)(v:Value):iN a (w.setCell ⟨b,i,none⟩ v):=
 ⟨by simpa using h.size,fun k A t e q1 q2 q3=>(heap_setCell_other w ⟨b,i,none⟩ v k (by
  rintro rfl;obtain⟨B,hB⟩:=hb;have:=h.at' k A t e q1 q2 q3;rw [hB]at this;injection this with this;injection this with _ this;exact q1 this.symm)).trans (h.at' k A t e q1 q2 q3)⟩
theorem QI (w:World):oN VO w (.slice none 0 0) []:=⟨none,0,rfl,fun h=>absurd h sm⟩
theorem QG (w:World):mh w (.slice none 0 0) []:=⟨none,0,rfl,Nat.le_refl _,by unfold maxLen;omega,sm,fun h=>absurd rfl h⟩
def Zl (w0 w:World)(b:Nat)(L:jZ)(f:GF)(fuel:Int)(D:Int→Prop)(X:zI→Prop)(e:Ending)(w':World):Prop:=Keep au w0 w'∧iN w w'∧
 ((∃st,D st∧∃(oh:Option Addr) (nh ch:Nat) (lb:List Bool) (o3:Option Addr) (n3 c3:Nat) (o5:Option Addr) (n5 c5:Nat) (os:Option Addr) (cs m0:Nat) (l:List ji) (u:Int),e= .returned (.agg #[.int .i64 st,.slice oh nh ch,.slice o3 n3 c3,.slice o5 n5 c5,.slice os l.length cs,.int .i64 u])∧oN VO w' (.slice oh nh ch) lb∧lb.length≤1000∧mh w' (.slice os l.length cs) l∧(∀x∈l,Ur m0 x)∧m0≤1000∧l.length≤5000)∨
 (∃s,X s∧e= .returned (.agg #[.int .i64 0,.slice none 0 0,.slice none 0 0,.slice none 0 0,.slice none 0 0,.int .i64 0])∧∃M,ug w0 w' b L f fuel M s))
theorem Zl.hungry {w0 w w':World}{b:Nat}{L:jZ}{f:GF}{fuel:Int}{D:Int→Prop}{X:zI→Prop}(k:Keep au w0 w')(hn:iN w w')(hD:D 3)(u:Int):Zl w0 w b L f fuel D X (.returned (.agg #[.int .i64 3,.slice none 0 0,.slice none 0 0,.slice none 0 0,.slice none 0 0,.int .i64 u])) w':=
 ⟨k,hn,.inl ⟨3,hD,none,0,0,[],none,0,0,none,0,0,none,0,0,[],u,rfl,QI _,sm,QG _,sm,om,sm⟩⟩
theorem dx.neT {w:World}{base:Nat}{v:Value}{l:List Sv.Stp}(h:dx w base v l){b:Nat}{t:TypeId}(hb:mG w b t)(ht:jc≠t):∀q,v.ownBlock=some q→q≠b:=by
 obtain⟨_,_,h2,_⟩:=h;exact fq h2 hb ht
theorem D9 {w:World}{b b':Nat}{t t':TypeId}(h:mG w b t)(h':mG w b' t')(ht:t≠t'):b≠b':=by
 rintro rfl;obtain⟨A,hA⟩:=h;obtain⟨B,hB⟩:=h';rw [hA]at hB;injection hB with hB;injection hB with _ hB;exact ht hB
def Ae (n base:Nat)(ans:Cd.Ans)(A:Array Value)(w:World):Prop:=match ans with
 | .yes T u=>∃g,A= #[.int .i64 1,.slice (some ⟨g,0,none⟩) n n,.slice none 0 0,.slice none 0 0,.int .i64 (u:Int)]∧jl w g (Sv.holdsT n T)
 | .no st u=>∃o c,A= #[.int .i64 2,.slice none 0 0,.slice o st.length c,.slice none 0 0,.int .i64 (u:Int)]∧dx w base (.slice o st.length c) (st.map fun c=>⟨1,c⟩)
 | .hungry u=>A= #[.int .i64 3,.slice none 0 0,.slice none 0 0,.slice none 0 0,.int .i64 (u:Int)]
theorem Ae.keep {n base:Nat}{ans:Cd.Ans}{A:Array Value}{w w':World}(h:Ae n base ans A w)(k:Keep au w w'):Ae n base ans A w':=by
 rcases ans with⟨T,u⟩ | ⟨st,u⟩ | u
 ·obtain ⟨g,e,h⟩:=h;exact⟨g,e,h.fr (nH.of k)⟩
 ·obtain ⟨o,c,e,h⟩:=h;exact⟨o,c,e,h.keep k⟩
 exact h
theorem Ae.one {n base:Nat}{ans:Cd.Ans}{A:Array Value}{w w':World}{b':Nat}{t:TypeId}(h:Ae n base ans A w)(hb:mG w b' t)(o:oO w w' b' t)(ht:jc≠t):Ae n base ans A w':=by
 rcases ans with⟨T,u⟩ | ⟨st,u⟩ | u
 ·obtain ⟨g,e,h⟩:=h;exact⟨g,e,h.fr o.fr⟩
 ·obtain ⟨og,c,e,h⟩:=h;exact⟨og,c,e,o.steps h (h.neT hb ht)⟩
 exact h
theorem Rl.cells {n base:Nat}{ans:Cd.Ans}{w w':World}{e:Ending}(h:Rl n ans w e w')(hb:base≤w.heap.size):Keep au w w'∧∃A,e= .returned (.tuple #[.agg A,fa0])∧Ae n base ans A w':=by
 obtain⟨k,h⟩:=h;refine⟨k,?_⟩;rcases ans with⟨T,u⟩ | ⟨st,u⟩ | u
 ·obtain ⟨g,_,e,h⟩:=h;exact⟨_,e,g,rfl,h⟩
 ·obtain ⟨o,c,e,h⟩:=h;exact⟨_,e,o,c,rfl,h.mono hb⟩
 exact⟨_,h,rfl⟩
theorem O0 {w:World}{b:Nat}{t:TypeId}(h:mG w b t)(ht:t≠TI∧t≠Jp)(a0 a1 a2 a3 a4 a5:Value):oO w ((((((w.setCell ⟨b,0,none⟩ a0).setCell ⟨b,1,none⟩ a1).setCell ⟨b,2,none⟩ a2).setCell ⟨b,3,none⟩ a3).setCell ⟨b,4,none⟩ a4).setCell ⟨b,5,none⟩ a5) b t:=((((((oO.refl h).set ht 0 a0).set ht 1 a1).set ht 2 a2).set ht 3 a3).set ht 4 a4).set ht 5 a5
theorem keep6 {w0 w:World}(h:Keep au w0 w){b:Nat}(hb:w0.heap.size≤b)(a0 a1 a2 a3 a4 a5:Value):Keep au w0 ((((((w.setCell ⟨b,0,none⟩ a0).setCell ⟨b,1,none⟩ a1).setCell ⟨b,2,none⟩ a2).setCell ⟨b,3,none⟩ a3).setCell ⟨b,4,none⟩ a4).setCell ⟨b,5,none⟩ a5):=aQ (aQ (aQ (aQ (aQ (aQ h _ hb) _ hb) _ hb) _ hb) _ hb) _ hb
theorem ug.used1 {w0 w:World}{b:Nat}{L:jZ}{f:GF}{fuel:Int}{M:Fp}{s:zI}(h:ug w0 w b L f fuel M s)(u:Nat):ug w0 (w.setCell ⟨b,9,none⟩ (.int .i64 (u:Int))) b L f fuel M ⟨s.cls,s.steps,u⟩:=by
 have hT:=YP h;have hfr:nH w (w.setCell ⟨b,9,none⟩ (.int .i64 (u:Int))):=nH.set h.bk ⟨dc,dc⟩;refine⟨aQ h.k _ h.hb,h.hb,?_,fH h.a fun q hq=>heap_setCell_other w ⟨b,9,none⟩ _ q (fq h.a hT dc q hq),h.c.fr hfr fun q hq=>heap_setCell_other w ⟨b,9,none⟩ _ q (h.c.neT hT dc q hq),h.st.fr (iN.setS h.bk) fun q hq=>heap_setCell_other w ⟨b,9,none⟩ _ q (h.st.neT hT dc q hq)⟩;rw [Go.Joins.block_setCell h.bk _];simp [svC]
def ze (wA:World)(b b3 n:Nat)(oA oC:Option Addr)(cA nC cC:Nat)(ph:Uq)(fuel us:Int)(base:Nat)(ans:Cd.Ans)(S:Nat→Bool):Nat→Value→World→Prop
 | 0,v,_=>v= .pointer (some ⟨b,0,none⟩)
 | 1,v,_=>v= .pointer (some ⟨b,0,none⟩)
 | 2,v,_=>v= .pointer (some ⟨b,4,none⟩)
 | 3,v,_=>v= .slice oA n cA
 | 4,v,_=>v= .int .i64 (n:Int)
 | 5,v,_=>v= .pointer (some ⟨b,0,none⟩)
 | 6,v,_=>v= .pointer (some ⟨b,0,none⟩)
 | 7,v,_=>v= .pointer (some ⟨b,5,none⟩)
 | 8,v,_=>v= .slice oC nC cC
 | 9,v,_=>v= .agg #[.int .i64 (n:Int),.slice oC nC cC]
 | 10,v,_=>v= .agg #[.int .i64 ph.a,.int .i64 ph.b,.int .i64 ph.c,.int .i64 ph.d]
 | 11,v,_=>v= .pointer (some ⟨b,0,none⟩)
 | 12,v,_=>v= .pointer (some ⟨b,0,none⟩)
 | 13,v,_=>v= .pointer (some ⟨b,8,none⟩)
 | 14,v,_=>v= .int .i64 fuel
 | 15,v,_=>v= .pointer (some ⟨b,0,none⟩)
 | 16,v,_=>v= .pointer (some ⟨b,0,none⟩)
 | 17,v,_=>v= .pointer (some ⟨b,9,none⟩)
 | 18,v,_=>v= .int .i64 us
 | 19,v,_=>v= .int .i64 (fuel-us)
 | 20,v,w=>∃A,v= .tuple #[.agg A,fa0]∧Ae n base ans A w
 | 21,v,w=>∃A,v= .tuple #[.agg A,fa0]∧Ae n base ans A w
 | 22,v,w=>∃A,v= .agg A∧Ae n base ans A w
 | 23,v,_=>v=fa0
 | 24,v,w=>∃b',v= .pointer (some ⟨b',0,none⟩)∧wA.heap.size≤b'∧mG w b' TAn∧(S 26=false→aL w b' #[.int .i64 0,.slice none 0 0,.slice none 0 0,.slice none 0 0,.int .i64 0])∧(S 26=true→∃A,aL w b' A∧Ae n base ans A w)
 | 25,v,w=>∃b',v= .pointer (some ⟨b',0,none⟩)∧wA.heap.size≤b'∧mG w b' iZ∧aL w b' #[.int .i64 0,.int .i64 0]
 | 26,_,_=>True
 | 27,_,_=>True
 | _,_,_=>True
theorem sN {wA:World}{b b3 n:Nat}{oA oC:Option Addr}{cA nC cC:Nat}{ph:Uq}{fuel us:Int}{base:Nat}{ans:Cd.Ans}{S:Nat→Bool}{w w':World}{e:Nat}(he:e≠26∧e≠27)(k:Keep au w w'):∀(d:Nat) (v:Value),ze wA b b3 n oA oC cA nC cC ph fuel us base ans S d v w→ze wA b b3 n oA oC cA nC cC ph fuel us base ans (mark S e) d v w'
 | 0,v,h=>h
 | 1,v,h=>h
 | 2,v,h=>h
 | 3,v,h=>h
 | 4,v,h=>h
 | 5,v,h=>h
 | 6,v,h=>h
 | 7,v,h=>h
 | 8,v,h=>h
 | 9,v,h=>h
 | 10,v,h=>h
 | 11,v,h=>h
 | 12,v,h=>h
 | 13,v,h=>h
 | 14,v,h=>h
 | 15,v,h=>h
 | 16,v,h=>h
 | 17,v,h=>h
 | 18,v,h=>h
 | 19,v,h=>h
 | 20,v,h=>by
  obtain⟨A,e1,h1⟩:=h;exact⟨A,e1,h1.keep k⟩
 | 21,v,h=>by
  obtain⟨A,e1,h1⟩:=h;exact⟨A,e1,h1.keep k⟩
 | 22,v,h=>by
  obtain⟨A,e1,h1⟩:=h;exact⟨A,e1,h1.keep k⟩
 | 23,v,h=>h
 | 24,v,h=>by
  obtain⟨b',e1,h0,h1,h2,h3⟩:=h;refine⟨b',e1,h0,h1.keep k,fun hm=>(h2 (pW hm)).keep k,fun hm=> ?_⟩;rw [dL (Ne.symm he.1)]at hm;obtain⟨A,q1,q2⟩:=h3 hm;exact⟨A,q1.keep k,q2.keep k⟩
 | 25,v,h=>by
  obtain⟨b',e1,h0,h1,h2⟩:=h;exact⟨b',e1,h0,h1.keep k,h2.keep k⟩
 | 26,v,h=>h
 | 27,v,h=>h
 | n+28,v,h=>trivial
theorem Gl {wA:World}{b b3 n:Nat}{oA oC:Option Addr}{cA nC cC:Nat}{ph:Uq}{fuel us:Int}{base:Nat}{ans:Cd.Ans}{S:Nat→Bool}{w w':World}{σ:Nat→Value}{b7:Nat}(e0:σ 24= .pointer (some ⟨b7,0,none⟩))(hg:wA.heap.size≤b7)(hb:mG w b7 TAn)(o:oO w w' b7 TAn){A0:Array Value}(hA:aL w' b7 A0)(hC:Ae n base ans A0 w'):∀(d:Nat),d≠26→ze wA b b3 n oA oC cA nC cC ph fuel us base ans S d (σ d) w→ze wA b b3 n oA oC cA nC cC ph fuel us base ans (mark S 26) d (σ d) w'
 | 0,_,h=>h
 | 1,_,h=>h
 | 2,_,h=>h
 | 3,_,h=>h
 | 4,_,h=>h
 | 5,_,h=>h
 | 6,_,h=>h
 | 7,_,h=>h
 | 8,_,h=>h
 | 9,_,h=>h
 | 10,_,h=>h
 | 11,_,h=>h
 | 12,_,h=>h
 | 13,_,h=>h
 | 14,_,h=>h
 | 15,_,h=>h
 | 16,_,h=>h
 | 17,_,h=>h
 | 18,_,h=>h
 | 19,_,h=>h
 | 20,_,h=>by
  obtain⟨A,e1,h1⟩:=h;exact⟨A,e1,h1.one hb o dc⟩
 | 21,_,h=>by
  obtain⟨A,e1,h1⟩:=h;exact⟨A,e1,h1.one hb o dc⟩
 | 22,_,h=>by
  obtain⟨A,e1,h1⟩:=h;exact⟨A,e1,h1.one hb o dc⟩
 | 23,_,h=>h
 | 24,_,h=>⟨b7,e0,hg,o.ty,fun hm=>(by rw [kM]at hm;cases hm),fun _=>⟨A0,hA,hC⟩⟩
 | 25,_,h=>by
  obtain⟨b',e1,h0,h1,h2⟩:=h;have hne:b'≠b7:=D9 h1 hb dc;obtain⟨A1,hA1⟩:=h1;obtain⟨t,ht⟩:=h2;exact⟨b',e1,h0,⟨A1,(o.other b' hne).trans hA1⟩,⟨t,(o.other b' hne).trans ht⟩⟩
 | 26,hd,h=>absurd rfl hd
 | 27,_,h=>h
 | n+28,_,h=>trivial
theorem Tp {wA:World}{b b3 n:Nat}{oA oC:Option Addr}{cA nC cC:Nat}{ph:Uq}{fuel us:Int}{base:Nat}{ans:Cd.Ans}{S:Nat→Bool}{w w':World}{σ:Nat→Value}{b7:Nat}(e0:σ 25= .pointer (some ⟨b7,0,none⟩))(hg:wA.heap.size≤b7)(hb:mG w b7 iZ)(o:oO w w' b7 iZ)(hA:aL w' b7 #[.int .i64 0,.int .i64 0]):∀(d:Nat),d≠27→ze wA b b3 n oA oC cA nC cC ph fuel us base ans S d (σ d) w→ze wA b b3 n oA oC cA nC cC ph fuel us base ans (mark S 27) d (σ d) w'
 | 0,_,h=>h
 | 1,_,h=>h
 | 2,_,h=>h
 | 3,_,h=>h
 | 4,_,h=>h
 | 5,_,h=>h
 | 6,_,h=>h
 | 7,_,h=>h
 | 8,_,h=>h
 | 9,_,h=>h
 | 10,_,h=>h
 | 11,_,h=>h
 | 12,_,h=>h
 | 13,_,h=>h
 | 14,_,h=>h
 | 15,_,h=>h
 | 16,_,h=>h
 | 17,_,h=>h
 | 18,_,h=>h
 | 19,_,h=>h
 | 20,_,h=>by
  obtain⟨A,e1,h1⟩:=h;exact⟨A,e1,h1.one hb o dc⟩
 | 21,_,h=>by
  obtain⟨A,e1,h1⟩:=h;exact⟨A,e1,h1.one hb o dc⟩
 | 22,_,h=>by
  obtain⟨A,e1,h1⟩:=h;exact⟨A,e1,h1.one hb o dc⟩
 | 23,_,h=>h
 | 24,_,h=>by
  obtain⟨b',e1,h0,h1,h2,h3⟩:=h;have hne:b'≠b7:=D9 h1 hb dc;obtain⟨A1,hA1⟩:=h1;refine⟨b',e1,h0,⟨A1,(o.other b' hne).trans hA1⟩,fun hm=> ?_,fun hm=> ?_⟩
  ·obtain ⟨t,ht⟩:=h2 (pW hm);exact⟨t,(o.other b' hne).trans ht⟩
  rw [dL om]at hm;obtain⟨A2,⟨t,ht⟩,q2⟩:=h3 hm;exact⟨A2,⟨t,(o.other b' hne).trans ht⟩,q2.one hb o dc⟩
 | 25,_,h=>⟨b7,e0,hg,o.ty,hA⟩
 | 26,_,h=>h
 | 27,hd,h=>absurd rfl hd
 | n+28,_,h=>trivial
theorem dP {wA:World}{b b3 n:Nat}{oA oC:Option Addr}{cA nC cC:Nat}{ph:Uq}{fuel us:Int}{base:Nat}{ans:Cd.Ans}{S:Nat→Bool}{w:World}{σ:Nat→Value}{e:Nat}(he:e≠26∧e≠27):∀d,d≠e→S d=true→ze wA b b3 n oA oC cA nC cC ph fuel us base ans S d (σ d) w→ze wA b b3 n oA oC cA nC cC ph fuel us base ans (mark S e) d (σ d) w:=fun d _ _=>sN he (Keep.refl _ _) d _
def Ea (wA:World)(b b14:Nat)(fv mv:Value)(Pr:Bool→Prop)(S:Nat→Bool):Nat→Value→World→Prop
 | 0,v,_=>v= .pointer (some ⟨b,0,none⟩)
 | 1,v,_=>v= .pointer (some ⟨b,0,none⟩)
 | 2,v,_=>v= .pointer (some ⟨b,0,none⟩)
 | 3,v,_=>v=fv
 | 4,v,_=>v=mv
 | 5,v,_=>∃r,v= .tuple #[.bool r,fa0]∧Pr r
 | 6,v,_=>∃r,v= .tuple #[.bool r,fa0]∧Pr r
 | 7,v,_=>∃r,v= .bool r∧Pr r
 | 8,v,_=>v=fa0
 | 9,v,w=>∃b',v= .pointer (some ⟨b',0,none⟩)∧wA.heap.size≤b'∧mG w b' iZ∧(S 11=false→aL w b' #[.int .i64 0,.int .i64 0])
 | 10,v,_=>∃r,v= .bool r∧Pr r
 | 11,_,_=>True
 | _,_,_=>True
theorem eH {wA:World}{b b14:Nat}{fv mv:Value}{Pr:Bool→Prop}{S:Nat→Bool}{w w':World}{e:Nat}(he:e≠11)(k:Keep au w w'):∀(d:Nat) (v:Value),Ea wA b b14 fv mv Pr S d v w→Ea wA b b14 fv mv Pr (mark S e) d v w'
 | 0,v,h=>h
 | 1,v,h=>h
 | 2,v,h=>h
 | 3,v,h=>h
 | 4,v,h=>h
 | 5,v,h=>h
 | 6,v,h=>h
 | 7,v,h=>h
 | 8,v,h=>h
 | 9,v,h=>by
  obtain⟨b',e1,h0,h1,h2⟩:=h;exact⟨b',e1,h0,h1.keep k,fun hm=>(h2 (pW hm)).keep k⟩
 | 10,v,h=>h
 | 11,v,h=>h
 | n+12,v,h=>trivial
theorem IZ {wA:World}{b b14:Nat}{fv mv:Value}{Pr:Bool→Prop}{S:Nat→Bool}{w w':World}{b':Nat}(hb:mG w b' iZ)(o:oO w w' b' iZ):∀(d:Nat) (v:Value),d≠11→Ea wA b b14 fv mv Pr S d v w→Ea wA b b14 fv mv Pr (mark S 11) d v w'
 | 0,v,_,h=>h
 | 1,v,_,h=>h
 | 2,v,_,h=>h
 | 3,v,_,h=>h
 | 4,v,_,h=>h
 | 5,v,_,h=>h
 | 6,v,_,h=>h
 | 7,v,_,h=>h
 | 8,v,_,h=>h
 | 9,v,_,h=>by
  obtain⟨b2,e1,h0,h1,h2⟩:=h;refine⟨b2,e1,h0,?_,fun hm=>by rw [kM]at hm;cases hm⟩;by_cases e:b2=b'
  ·subst e;exact o.ty
  obtain⟨A,hA⟩:=h1;exact⟨A,(o.other b2 e).trans hA⟩
 | 10,v,_,h=>h
 | 11,v,hd,h=>absurd rfl hd
 | n+12,v,_,h=>trivial
abbrev C9:Type:= {l:List Value // l.length=9∧∀u∈l,u.oneCell'=true}
def c9 (x:C9):List Value:=x.1
theorem Yd (x:C9):(c9 x).length=9:=x.2.1
theorem zcr (x:C9):∀u∈c9 x,u.oneCell'=true:=x.2.2
theorem Ye {w:World}{base:Nat}{v u:Value}{xs ys:List C9}(hown:aO jc 9 c9 w base v xs)(hu:oN c9 w u ys)(hl:xs.length+ys.length≤100000)(hb:base≤w.heap.size):
  ∃v' w',(Builtin.append_ #[44,44] 44 #[v,u]).run Tryz.prog w= .ok v' w'∧aO jc 9 c9 w' base v' (xs++ys)∧w.grownBy w' v.ownBlock:=by
 obtain⟨i,hi,hz,hs,hbb⟩:=info_parts infoSt;exact J7 Yd zcr Tryz.underlying44 hi hz hs hbb rfl dc hown hu hl dc hb
theorem Ph (w:World)(ty:TypeId)(n:Nat)(h0:0<n)(hn:n≤1000000):∃w' G,(Builtin.append_ #[44,3] ty #[.slice none 0 0,.int .i64 (n:Int)]).run Tryz.prog w= .ok (.slice (some ⟨w.heap.size,0,none⟩) n G) w'∧n≤G∧G≤9223372036854775807∧aO jc 9 c9 w' w.heap.size (.slice (some ⟨w.heap.size,0,none⟩) 0 G) []∧Keep au w w':=by
 obtain⟨i0,hi0,hz0,hz1,hz2⟩:=info_parts infoSt;have hGn:n≤grownCap w n 0 jc:=grownCap_ge w _ _ _;have hGm:=grownCap_le_maxLen w n 0 jc (by unfold maxLen;omega);have hold:(Builtin.firstCells i0.size 0 (.slice none 0 0)).run Tryz.prog w.drew= .ok ([]:List Value).toArray w.drew:=run_firstCells_none w.drew i0.size 0 0 0;have h:=Lib.run_append_grow_zeros w 44 3 ty jc i0 (.agg #[.int .i64 0,.slice none 0 0,.slice none 0 0,.int .i64 0,.int .i64 0,.int .i64 0,.slice none 0 0,.int .i64 0,.int .i64 0]) .i64 .i64 Tryz.underlying44 Tryz.underlying3 hi0 hz0 none 0 0 [] hold n h0 (by rw [hz1];decide) om om (by rw [hz2];omega) (growslice_fits om (by rw [hz2];omega));rw [Nat.zero_add]at h;refine⟨_,_,h,hGn,hGm,⟨rfl,.inr ⟨w.heap.size,_,_,rfl,Nat.le_refl _,aK _ _ _ rfl,Nat.zero_le _,hGm,?_,sm⟩⟩,((Keep.refl _ _).drew).alloc _⟩;simp [size_zeroCells,Value.cells];omega
theorem TY (w:World)(n:Nat)(hn:n≤1000000):Calls Tryz.prog 119 #[.slice none 0 0,.int .i64 (n:Int)] w fun e w'=>∃v,e= .returned v∧aO jc 9 c9 w' w.heap.size v []∧Keep au w w':=by
 by_cases h0:0<n
 ·obtain ⟨w2,G,hr,h1,h2,h3,h4⟩:=Ph w 44 n h0 hn;have HO:=zh h3;have HK:=zh h4;have hp:(n:Int)>0:=om;have hp':¬(n:Int)<0:=om;clear h3 h4;go_enter Tryz.func119,Tryz.ntmps119;go_wp2_with (at_builtin;refine Lib.wpList_append_run _ rfl _ _ _ _ rfl _ _ rfl rfl _ _ hr ?_);refine bodyPost_ret (by simp [results,Tryz.results119,go_sem];rfl) rfl ?_;exact⟨_,rfl,HO.out,HK.out⟩
 obtain rfl:n=0:=om;go_enter Tryz.func119,Tryz.ntmps119;go_wp2;refine bodyPost_ret (by simp [results,Tryz.results119,go_sem];rfl) rfl ?_;exact⟨_,rfl,aO.nil _ _,Keep.refl _ _⟩
theorem LH (w:World)(b:Nat)(v1 v2:Value)(l1 l2:List C9)(hb:aL w b #[v1,v2])(h1:oN c9 w v1 l1)(h2:oN c9 w v2 l2)(hl1:l1.length≤10000)(hl2:l2.length≤10000):
  Calls Tryz.prog 58 #[.slice (some ⟨b,0,none⟩) 2 2] w fun e w'=>∃v,e= .returned v∧aO jc 9 c9 w' w.heap.size v (l1++l2)∧Keep au w w':=by
 have H1:=zh h1;have H2:=zh h2;obtain⟨o1,c1,rfl,_⟩:=h1;obtain⟨o2,c2,rfl,_⟩:=h2;obtain⟨p0,p1,f0,f1,lb⟩:=hb.two;have CG:=fun w'=>zh (TY w' (l1.length+l2.length) om);have P0:=zh p0;have P1:=zh p1;clear hb;go_enter Tryz.func58,Tryz.ntmps58;go_wp2;go_loopw [11,3] (fun s z wr=>∃k:Nat,k≤2∧s= .int .i64 k∧z= .int .i64 (((if k=0 then 0 else if k=1 then l1.length else l1.length+l2.length):Nat):Int)∧Keep au w wr) (fun s _ _=>(2-intOf s).toNat)
 case atStart=>exact⟨0,om,rfl,rfl,kp⟩
 obtain⟨k,hk,rfl,rfl,hkr⟩:=hrel;have KR:=zh hkr;have x0:=(hkr.cell lb).trans p0;have x1:=(hkr.cell lb).trans p1;have lbr:=bJ lb hkr.size;clear hkr;obtain rfl | rfl | rfl:k=0∨k=1∨k=2:=om
 ·have hn:¬((0:Int)+(l1.length:Int)<0):=om;go_wp2;go_roundw
  case rel=>exact⟨1,om,rfl,sm,KR.out⟩
  simp [intOf]
 ·have hn:¬((l1.length:Int)+(l2.length:Int)<0):=om;go_wp2;go_roundw
  case rel=>exact⟨2,om,rfl,sm,KR.out⟩
  simp [intOf]
 have e2:(((if 2=0 then 0 else if 2=1 then l1.length else l1.length+l2.length):Nat):Int)=((l1.length+l2.length:Nat):Int):=rfl;rw [e2];go_wp2_with fail;refine(CG _).out.mono ?_;rintro e w3 ⟨v,rfl,ho3,hk3⟩;have K3:=zh (KR.out.both hk3);have YO:=zh (World.ownsRow_mono ho3 KR.out.size);obtain⟨o3,c3,hv3,_⟩:=aO.len ho3;subst hv3;have y0:=(hk3.cell lbr).trans x0;have y1:=(hk3.cell lbr).trans x1;have lb3:=bJ lbr hk3.size;clear ho3 hk3 CG x0 x1 p0 p1;go_wp2;go_loopw [27,6] (fun s u wr=>∃k:Nat,k≤2∧s= .int .i64 k∧aO jc 9 c9 wr w.heap.size u (if k=0 then []else if k=1 then l1 else l1++l2)∧Keep au w wr∧wr.cell? ⟨b,0,none⟩=some (.slice o1 l1.length c1)∧wr.cell? ⟨b,1,none⟩=some (.slice o2 l2.length c2)∧b<wr.heap.size) (fun s _ _=>(2-intOf s).toNat)
 case atStart=>exact⟨0,om,rfl,YO.out,K3.out,y0,y1,lb3⟩
 obtain⟨k,hk,rfl,hou,hkr,z0,z1,lbz⟩:=hrel;have KR:=zh hkr;obtain rfl | rfl | rfl:k=0∨k=1∨k=2:=om
 ·obtain ⟨v4,w4,hr4,ho4,hg4⟩:=Ye (show aO jc 9 c9 wr w.heap.size u6 []from hou) (lG (K:=9) H1.out hkr) (by simp;omega) hkr.size;have K4:=zh (hkr.grown hg4 fun k hk=>aO.block hou k hk);have Rs:=zh ho4;obtain⟨o4,c4,hv4,_⟩:=aO.len ho4;subst hv4;have q0:=(K4.out.cell lb).trans (show w.cell? ⟨b,0,none⟩=some (.slice o1 l1.length c1)from P0.out);have q1:=(K4.out.cell lb).trans (show w.cell? ⟨b,1,none⟩=some (.slice o2 l2.length c2)from P1.out);have lb4:=bJ lb K4.out.size;clear hou hkr ho4 hg4;go_wp2_with (at_builtin;refine aV _ _ 44 _ _ rfl rfl rfl rfl hr4 ?_);go_roundw
  case rel=>exact⟨1,om,rfl,Rs.out,K4.out,q0,q1,lb4⟩
  simp [intOf]
 ·obtain ⟨v4,w4,hr4,ho4,hg4⟩:=Ye (show aO jc 9 c9 wr w.heap.size u6 l1 from hou) (lG (K:=9) H2.out hkr) om hkr.size;have K4:=zh (hkr.grown hg4 fun k hk=>aO.block hou k hk);have Rs:=zh ho4;obtain⟨o4,c4,hv4,_⟩:=aO.len ho4;subst hv4;have q0:=(K4.out.cell lb).trans (show w.cell? ⟨b,0,none⟩=some (.slice o1 l1.length c1)from P0.out);have q1:=(K4.out.cell lb).trans (show w.cell? ⟨b,1,none⟩=some (.slice o2 l2.length c2)from P1.out);have lb4:=bJ lb K4.out.size;clear hou hkr ho4 hg4;go_wp2_with (at_builtin;refine aV _ _ 44 _ _ rfl rfl rfl rfl hr4 ?_);go_roundw
  case rel=>exact⟨2,om,rfl,(by have h:=Rs.out;rw [List.length_append]at h;exact h),K4.out,q0,q1,lb4⟩
  simp [intOf]
 have zD:=zh (show aO jc 9 c9 wr w.heap.size u6 (l1++l2)from hou);clear hou hkr;go_wp2;refine bodyPost_ret (by simp [results,Tryz.results58,go_sem];rfl) rfl ?_;exact⟨_,rfl,zD.out,KR.out⟩
theorem BJ {xs:List C9}{ys:List ji}(h:xs.map c9=ys.map zN):xs.length=ys.length∧xs.flatMap c9=ys.flatMap zN:=
 ⟨by have:=congrArg List.length h;simpa using this,by rw [List.flatMap_def,List.flatMap_def,h]⟩
theorem zaT {w:World}{v:Value}{xs:List C9}{ys:List ji}(h:xs.map c9=ys.map zN)(hs:oN zN w v ys):oN c9 w v xs:=by
 obtain⟨h1,h2⟩:=BJ h;obtain⟨oa,cap,e,hc⟩:=hs;exact⟨oa,cap,by rw [h1];exact e,by rw [h1,h2];exact hc⟩
theorem eZ.src9 {w:World}{base:Nat}{v:Value}{l:List ji}(h:eZ w base v l):∃xs:List C9,xs.map c9=l.map zN∧oN c9 w v xs:=by
 have h1:∀y∈l,∃x:C9,c9 x=zN y:=fun y hy=>⟨⟨zN y,yK _,(h.2 y hy).one⟩,rfl⟩;have h2:∀l':List ji,(∀y∈l',∃x:C9,c9 x=zN y)→∃xs:List C9,xs.map c9=l'.map zN:=by
  intro l'
  induction l' with
  | nil=>intro _;exact⟨[],rfl⟩
  | cons a t ih=>
   intro hh;obtain⟨x,hx⟩:=hh a sm;obtain⟨xs,hxs⟩:=ih fun y hy=>hh y (by simp [hy]);exact⟨x::xs,by rw [List.map_cons,List.map_cons,hx,hxs]⟩
 obtain⟨xs,hxs⟩:=h2 l h1;exact⟨xs,hxs,zaT hxs (aO.src yK h.1)⟩
structure UG (w:World)(y:ji):Prop where
 l:iP w y.lv y.st.lits
 n:lJ w 0 y.nv y.st.nums
 ok:∀g∈y.st.nums,dA g.N∧dA g.D
 rv:y.rv= .slice none 0 0
 r:y.st.row=⟨[],0,0⟩
theorem UG.stG {w:World}{y:ji}(h:UG w y):StG w y:=⟨h.l.1,h.l.2.1,aO.fracs h.n h.ok,h.rv,h.r⟩
theorem UG.fr {w w':World}{y:ji}(h:UG w y)(k:nH w w')(hb:∀q,y.nv.ownBlock=some q→w'.heap[q]? =w.heap[q]?):UG w' y:=⟨h.l.fr k,dO h.n hb,h.ok,h.rv,h.r⟩
theorem UG.keep {w w':World}{y:ji}(h:UG w y)(k:Keep au w w'):UG w' y:=h.fr (.of k) fun q hq=>k.block q (aO.lt h.n q hq) fun _ h=>h
theorem Ob.stO {w:World}{y:ji}{m:Nat}(h:Ob w y)(hp:Ur m y)(hm:m≤1000):UG w y:=
 ⟨bC.intsT h.l fun x hx=>(by have:=(hp.v.2 x hx).2;unfold dA;omega),h.n,fun g hg=>(by
  rcases hp.k with⟨h1,_⟩ | ⟨_,_,h3,_⟩
  ·have:=h.k;omega
  have:=h3 g hg;unfold bF at this;unfold dA;omega),h.rv,h.r⟩
theorem dx.src9 {w:World}{base:Nat}{v:Value}(h:dx w base v [⟨1,[]⟩]):∃(xs:List C9) (y:ji),xs.map c9= [y].map zN∧oN c9 w v xs∧UG w y∧y.st=⟨1,[],[],⟨[],0,0⟩⟩:=by
 obtain⟨rs,h1,h2,h3⟩:=h;obtain⟨r,rfl⟩:=List.length_eq_one_iff.1 h1;obtain⟨q1,q2,q3⟩:=h3 0 r ⟨1,[]⟩ rfl rfl;obtain⟨rk,ro,rn,rc⟩:=r;simp only at q1 q2 q3;subst q1;have hs:=aO.src Ik h2;refine⟨[⟨ZP ⟨1,ro,rn,rc⟩,rfl,P8 _⟩],⟨.slice ro rn rc,.slice none 0 0,.slice none 0 0,⟨1,[],[],⟨[],0,0⟩⟩⟩,rfl,?_,⟨q3,aO.nil _ _,sm,rfl,rfl⟩,rfl⟩;obtain⟨oa,cap,e,hc⟩:=hs;exact⟨oa,cap,e,hc⟩
theorem zaU {w:World}{base:Nat}{v:Value}{xs:List C9}{ys:List ji}(ho:aO jc 9 c9 w base v xs)(he:xs.map c9=ys.map zN)(hm:∀y∈ys,StG w y):mh w v ys:=by
 obtain⟨h1,h2⟩:=BJ he;obtain⟨oa,cap,e,a,c⟩:=aO.len ho;rw [h1]at e a;refine⟨oa,cap,e,a,c,hm,fun hne=> ?_⟩;obtain⟨g,cap',e',hb,hl,hc⟩:=aO.cells Yd ho (by rintro rfl;simp at h1;exact hne (List.length_eq_zero_iff.1 h1.symm));rw [e]at e';injection e' with q1 q2 q3;refine⟨g,0,q1,hl,fun i y hi j u hj=> ?_⟩;have hi':i<xs.length:=by rw [h1];exact(List.getElem?_eq_some_iff.1 hi).1
 have hx:=eD hi';have hxy:c9 xs[i]=zN y:=by
  have q:=congrArg (fun l=>l[i]?) he;simp only [List.getElem?_map,hx,hi,Option.map_some]at q;exact Option.some.inj q
 have:=hc i _ hx j u (by rw [hxy];exact hj);simpa using this
def zi (w:World)(base:Nat)(v:Value)(l:List ji):Prop:=∃xs:List C9,aO jc 9 c9 w base v xs∧xs.map c9=l.map zN∧∀y∈l,UG w y
theorem zi.stG {w:World}{base:Nat}{v:Value}{l:List ji}(h:zi w base v l):mh w v l:=by
 obtain⟨xs,h1,h2,h3⟩:=h;exact zaU h1 h2 fun y hy=>(h3 y hy).stG
theorem zi.keep {w w':World}{base:Nat}{v:Value}{l:List ji}(h:zi w base v l)(k:Keep au w w'):zi w' base v l:=by
 obtain⟨xs,h1,h2,h3⟩:=h;exact⟨xs,aO.keep h1 k,h2,fun y hy=>(h3 y hy).keep k⟩
theorem zi.one {w w':World}{base:Nat}{v:Value}{l:List ji}(h:zi w base v l){b:Nat}{t:TypeId}(hb:mG w b t)(o:oO w w' b t)(h1:jc≠t)(h2:TF≠t):zi w' base v l:=by
 obtain⟨xs,h3,h4,h5⟩:=h;exact⟨xs,fH h3 fun q hq=>o.other q (fq h3 hb h1 q hq),h4,fun y hy=>(h5 y hy).fr o.fr fun q hq=>o.other q (fq (h5 y hy).n hb h2 q hq)⟩
theorem OX {n:Nat}(hn:n≤12){rows:List Rw}(hm:rows.length≤40)(hok:∀r∈rows,iA r (n:Int)){r:rP}(hr:Vg rows (List.replicate n false) 2000=r)(hmu:r.s.much=false)(hst:r.st=1):r.s.point.length=n∧∀g∈r.s.point,bF g.N g.D:=by
 subst hr;rcases vG hn hm hok with h | ⟨-,-,h | ⟨-,h,-⟩ | ⟨h,-⟩⟩
 ·rw [hmu]at h;cases h
 ·rw [hst]at h;exact absurd h dc
 ·exact h
 rw [hst]at h;exact absurd h dc
def zd6 (f:GF)(r:rP):Prop:=(∀a∈f.atoms,a.k=1)∧(f.cls.all fun c=>c.any (Sv.litB (List.replicate f.atoms.length true)))=true∧r.s.much=false∧r.st=1
def RdD (f:GF)(r:rP):Cd.Ans→Int→Prop
 | .yes _ _,st=>(st=3∧¬zd6 f r)∨(st=1∧r.s.much=false∧r.st=1)
 | .no _ _,st=>st=2∨st=3
 | .hungry _,_=>False
def RdX (f:GF)(r:rP)(s:zI):Cd.Ans→zI→Prop
 | .yes _ u,s'=>r.s.much=false∧r.st=2∧∃ls ns y,zJ f.atoms.length ls ns∧y.st=⟨4,ls,ns,⟨[],0,0⟩⟩∧s'=⟨s.cls++ [ls],s.steps++ [y],s.used+u+1⟩
 | _,_=>False
end Go.Proofs.YtmepglhdcphffaaGreat
