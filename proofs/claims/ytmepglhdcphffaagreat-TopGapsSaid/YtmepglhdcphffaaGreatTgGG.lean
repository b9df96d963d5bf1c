/- Package solve: numbers. For TopGaps. Package form: Fits. For TopGaps. Package solve: copied. For TopGaps. -/
import Derived.Test.YtmepglhdcphffaaGreatTgCC
import Derived.Test.YtmepglhdcphffaaGreatTuEE
import Derived.Test.YtmepglhdcphffaaGreatTgOO
namespace Go.Proofs.YtmepglhdcphffaaGreat
set_option maxRecDepth 100000
set_option maxHeartbeats 16000000
set_option linter.unusedSimpArgs false
set_option linter.unusedVariables false
open Go.ChangeShapes Go.WideShapes Go.RowKit Go.Maps
def dI (l:List GA):List Rw:=l.flatMap fun a=>if a.k=3 then [a.r]else []
def jE:List GA→Nat→List Int
 | [],_=> []
 | a::l,i=>(if a.k=3 then [((i+1:Nat):Int)]else [])++jE l (i+1)
theorem NC (l:List GA)(a:GA):dI (l++ [a])=dI l++if a.k=3 then [a.r]else []:=by simp [dI]
theorem Cx:∀(l:List GA) (a:GA) (i:Nat),jE (l++ [a]) i=jE l i++if a.k=3 then [((i+l.length+1:Nat):Int)]else []
 | [],a,i=>by simp [jE]
 | b::l,a,i=>by
  rw [List.cons_append,jE,Cx l a (i+1),jE,List.append_assoc,List.length_cons];rw [show i+1+l.length+1=i+(l.length+1)+1 from om]
theorem FC {l:List GA}(h:∀a∈l,a.k=3):dI l=l.map (·.r):=by
 induction l with
 | nil=>rfl
 | cons a l ih=>rw [dI,List.flatMap_cons,if_pos (h a sm)];exact congrArg _ (ih fun b hb=>h b (by simp [hb]))
theorem ND {l:List GA}(h:∀a∈l,a.k≠3):dI l= []:=by
 induction l with
 | nil=>rfl
 | cons a l ih=>rw [dI,List.flatMap_cons,if_neg (h a sm)];exact ih fun b hb=>h b (by simp [hb])
theorem FD:∀ {l:List GA} (i:Nat),(∀a∈l,a.k=3)→jE l i=(List.range l.length).map fun j=>((i+j+1:Nat):Int)
 | [],i,_=>rfl
 | a::l,i,h=>by
  rw [jE,if_pos (h a sm),FD (i+1) fun b hb=>h b (by simp [hb]),List.length_cons,List.range_succ_eq_map,List.map_cons,List.map_map];refine congrArg _ (List.map_congr_left fun j _=> ?_);simp only [Function.comp];omega
theorem mW (l:List GA):(dI l).length≤l.length:=by
 induction l with
 | nil=>exact Nat.le_refl _
 | cons a l ih=>
  have:dI (a::l)=(if a.k=3 then [a.r]else [])++dI l:=rfl;rw [this,List.length_append,List.length_cons];split<;>simp<;>omega
theorem JY:∀(l:List GA) (i:Nat),(jE l i).length≤l.length
 | [],_=>Nat.le_refl _
 | a::l,i=>by
  have:=JY l (i+1);rw [jE,List.length_append,List.length_cons];split<;>simp<;>omega
theorem uo {n:Nat}{l:List GA}(h:∀a∈l,JZ n a):∀r∈dI l,iA r (n:Int):=by
 intro r hr;obtain⟨a,ha,hra⟩:=List.mem_flatMap.1 hr;rcases h a ha with⟨h1,_⟩ | ⟨h1,_,_,_,h2⟩
 ·rw [if_neg om]at hra;cases hra
 rw [if_pos h1]at hra;rw [List.mem_singleton.1 hra];exact h2
def zer (w0 w:World)(b:Nat)(L:jZ)(f:GF)(fuel:Int)(s:zI)(r:rP)(e:Ending)(w':World):Prop:=
 (e= .returned (.tuple #[.slice none 0 0,.bool false,.bool false])∧Keep au w w'∧(r.s.much=true∨r.st=3))∨
 (r.s.much=false∧r.st=1∧(∃u,e= .returned (.tuple #[u,.bool false,.bool true])∧lJ w' w.heap.size u r.s.point)∧Keep au w w')∨
 (r.s.much=false∧r.st=2∧e= .returned (.tuple #[.slice none 0 0,.bool true,.bool true])∧iN w w'∧∃M ls ns y,zJ f.atoms.length ls ns∧y.st=⟨4,ls,ns,⟨[],0,0⟩⟩∧ug w0 w' b L f fuel M ⟨s.cls++ [ls],s.steps++ [y],s.used⟩)
theorem Ie (w0 w:World)(b:Nat)(L:jZ)(f:GF)(fuel:Int)(M:Fp)(s:zI)(vh:Value)(h:ug w0 w b L f fuel M s)(hF:qm w0 L f)(hok:rQ f)(hu:(∀a∈f.atoms,a.k=3)∨∀a∈f.atoms,a.k=1)(hh:dZ w vh (List.replicate f.atoms.length true))(hc:s.cls.length≤10000)(hs:s.steps.length≤10000):
  Calls Tryz.prog 61 #[.pointer (some ⟨b,0,none⟩),vh] w (zer w0 w b L f fuel s (Vg (dI f.atoms) (List.replicate f.n false) 2000)):=by
 have mg:=zh hok.a;have HU:=zh hu;have HC:=zh hc;have Ut:=zh hs;have hm20:f.atoms.length≤20:=hok.n;have hn12:=hok.n12;have HA:=zh (h.ats hF);have HBI:=zh (hF.i.keep h.k);have HS:=zh h;have HRT:=zh (vG hn12 (rows:=dI f.atoms) (by have:=mW f.atoms;omega) (uo hok.a));have HRO:=zh (uo hok.a);have HH:=zh hh;obtain⟨oh,ch,rfl,_⟩:=hh.len;rw [List.length_replicate];obtain⟨y0,y1,y2,y3,y4,y5,y6,y7,y8,y9,yl⟩:=dR h.bk;have Y1:=zh y1;have YL:=zh yl;obtain⟨r,hr⟩:∃r,Vg (dI f.atoms) (List.replicate f.n false) 2000=r:=⟨_,rfl⟩;have HR:=zh hr;rw [hr]at HRT ⊢;obtain⟨m,hm⟩:∃m,f.atoms.length=m:=⟨_,rfl⟩;have HM:=zh hm;rw [hm]at y4 hm20 HA HH ⊢;clear h hok hF hm y0 y1 y2 y3 y5 y6 y7 y8 y9 hu hh hc hs hr;go_enter Tryz.func61,Tryz.ntmps61;go_wp2;clear y4 yl;go_loopw [21,7,8] (fun s t u wr=>∃k:Nat,k≤m∧s= .int .i64 k∧kC w wr w.heap.size t (dI (f.atoms.take k))∧bC wr w.heap.size u (jE (f.atoms.take k) 0)∧Keep au w wr) (fun s _ _ _=>(m-intOf s).toNat)
 case atStart=>exact⟨0,om,rfl,kC.nil _ _ _,bC.nil _ _,kp⟩
 obtain⟨k,hk,rfl,ht,hu,hkr⟩:=hrel;have HT:=zh ht;have ZB:=zh hu;have KR:=zh hkr;obtain⟨ot,ct,Uu,_⟩:=ht.len;obtain⟨ou,cu,hvu⟩:=hu.len;subst Uu hvu;clear ht hu hkr;by_cases hkl:k<m
 case pos=>
  have hlt:(k:Int)<(m:Int):=om;have hkm:k<f.atoms.length:=by rw [HM.out];exact hkl
  have hAr:=HA.out.keep KR.out;obtain⟨ba,fa,hoa,hba,p0,p1,p2,p3,p4,p5⟩:=hAr.at hkm;rw [hoa];have ho:=mg.out _ (List.getElem_mem hkm);have hgm:=HA.out.mem _ (List.getElem_mem hkm);have G7:Hid (f.atoms.take (k+1)=f.atoms.take k++ [f.atoms[k]]):=zh (List.take_succ_eq_append_getElem hkm);have tl:(f.atoms.take k).length=k:=by rw [List.length_take];omega
  generalize f.atoms[k]=a at *;have HR1:Hid (dI (f.atoms.take (k+1))=dI (f.atoms.take k)++if a.k=3 then [a.r]else []):=zh (by rw [G7.out];exact NC _ _);have ZE:Hid (jE (f.atoms.take (k+1)) 0=jE (f.atoms.take k) 0++if a.k=3 then [((k+1:Nat):Int)]else []):=zh (by rw [G7.out,Cx,tl];simp);have hrl:(dI (f.atoms.take k)).length≤k:=by have:=mW (f.atoms.take k);omega
  have hll:(jE (f.atoms.take k) 0).length≤k:=by have:=JY (f.atoms.take k) 0;omega
  generalize dI (f.atoms.take k)=R at *;generalize jE (f.atoms.take k) 0=Q at *;have ka:Keep au wr (wr.alloc (.cells #[.int .i64 a.k,.int .i64 0,.int .i64 0,.slice a.o a.r.of.length a.c,.int .i64 a.r.kind,.int .i64 a.r.to] rD)):=(Keep.refl _ _).alloc _;obtain⟨ak,ao,ac,ar⟩:=a;simp only [JZ]at ho p0 p1 p2 p3 p4 p5 HR1 ZE ka;rcases ho with⟨h1,h2⟩ | ⟨h1,h2,h3,h4,h5⟩
  ·subst h1;have HR2:=zh (HR1.out.trans (by rw [if_neg om,List.append_nil]));have HL2:=zh (ZE.out.trans (by rw [if_neg om,List.append_nil]));have K6:=zh (KR.out.both ka);have VL:=zh (HT.out.keep ka);have HU6:=zh (ZB.out.keep ka);generalize ao=q2 at *;generalize ac=q3 at *;generalize ar.of.length=q4 at *;generalize ar.kind=q5 at *;generalize ar.to=q6 at *;clear ka hgm hAr h2;go_wp2;go_roundw
   case rel=>exact⟨k+1,om,by go_num,by rw [HR2.out];exact VL.out,by rw [HL2.out];exact HU6.out,K6.out⟩
   simp [intOf];omega
  subst h1;have HR2:=zh (HR1.out.trans (by rw [if_pos rfl]));have HL2:=zh (ZE.out.trans (by rw [if_pos rfl]));obtain⟨bh,fh,hoh,hbh,h0⟩:=(HH.out.keep (KR.out.both ka)).at (k:=k) (by rw [List.length_replicate];exact hkl);rw [List.getElem_replicate]at h0;rw [hoh];obtain⟨_,hre,hri,ZF,hrt,hrc⟩:=hgm.row h5;have hg1:=hgm.1;simp only at hg1 ZF hrt;have hcap:xW (.slice ao ar.of.length ac):=⟨_,_,_,rfl,hgm.2.1⟩;have ha6:=(aN (w:=wr) #[.int .i64 (3:Int),.int .i64 0,.int .i64 0,.slice ao ar.of.length ac,.int .i64 ar.kind,.int .i64 ar.to] rD rfl);have hT6:=HT.out.keep ka;have hU6:=ZB.out.keep ka;have kb:Keep au (wr.alloc (.cells #[.int .i64 (3:Int),.int .i64 0,.int .i64 0,.slice ao ar.of.length ac,.int .i64 ar.kind,.int .i64 ar.to] rD)) ((wr.alloc (.cells #[.int .i64 (3:Int),.int .i64 0,.int .i64 0,.slice ao ar.of.length ac,.int .i64 ar.kind,.int .i64 ar.to] rD)).alloc (.cells #[.slice ao ar.of.length ac,.int .i64 ar.kind,.int .i64 ar.to] PL)):=(Keep.refl _ _).alloc _;obtain⟨v8,w8,hr8,ho8,hg8,hv8⟩:=ZG (hT6.keep kb) (b:=wr.heap.size+1) (sv:= .slice ao ar.of.length ac) (r:=ar) (aN _ _ sm) ⟨hg1,ZF,hrt,hcap⟩ om (Nat.le_trans (KR.out.both ka).size kb.size);have K8:=zh (((KR.out.both ka).both kb).grown hg8 fun q hq=>(hT6.keep kb).block q hq);have hU8:bC w8 w.heap.size (.slice ou Q.length cu) Q:=fT (bC.keep (bC.keep ZB.out ka) kb) hg8 fun q hq e=>by
   obtain⟨xs,_,_,h9⟩:=hT6.keep kb;exact jw (bC.keep (bC.keep ZB.out ka) kb) h9 dc q hq e
  have kc:Keep au w8 (w8.alloc (.cells #[.int .i64 ((k:Int)+1)] TI)):=(Keep.refl _ _).alloc _;obtain⟨v10,w10,hr10,ho10,hg10,hv10⟩:=ni (hU8.keep kc) (b:=w8.heap.size) (x:=(k:Int)+1) (aN _ _ rfl) om (Nat.le_trans K8.out.size kc.size);have ZH:=zh ((K8.out.both kc).grown hg10 fun q hq=>(hU8.keep kc).block q hq);have ZI:Hid (bC w10 w.heap.size v10 (jE (f.atoms.take (k+1)) 0)):=zh (by rw [HL2.out];exact ho10);have hR8:=ho8.keep kc;have zby:Hid (kC w w10 w.heap.size v8 (dI (f.atoms.take (k+1)))):=zh (by
   rw [HR2.out];refine hR8.grown0 hg10 fun q hq e=> ?_;obtain⟨xs,_,_,h9⟩:=hR8;exact jw h9 (hU8.keep kc) dc q hq e.symm)
  obtain⟨o8,c8,zcN,_⟩:=ho8.len;rw [List.length_append,List.length_singleton]at zcN;subst zcN;have a0:(wr.alloc (.cells #[.int .i64 (3:Int),.int .i64 0,.int .i64 0,.slice ao ar.of.length ac,.int .i64 ar.kind,.int .i64 ar.to] rD)).cell? ⟨wr.heap.size,0,none⟩=some (.int .i64 (3:Int)):=ha6.cell 0;have yB:IntKind.i64.wrap ((k:Int)+1)=(k:Int)+1:=by rw [IntKind.wrap_i64];omega
  clear hg1 hcap hgm hAr ho8 ho10 hg8 hg10 hR8 hU8 hT6 hU6 ha6 kb kc h2 h3 h5 hre hri ZF hrt hrc HR1 ZE a0;generalize ao=q2 at *;generalize ac=q3 at *;generalize ar.of.length=q4 at *;generalize ar.kind=q5 at *;generalize ar.to=q6 at *;have HBH:=zh hbh;clear ka;go_wp2_with (at_builtin;first | refine aV _ _ 56 _ _ rfl rfl rfl rfl hr8 ?_ | refine aV _ _ 22 _ _ rfl rfl rfl rfl hr10 ?_);go_roundw
  case rel=>exact⟨k+1,om,by go_num,zby.out,ZI.out,ZH.out⟩
  simp [intOf];omega
 have hlt:¬(k:Int)<(m:Int):=om;have htake:f.atoms.take k=f.atoms:=List.take_of_length_le (by rw [HM.out];omega);rw [htake]at HT ZB;have hX:zbt wr (.slice ot (dI f.atoms).length ct) (.slice L.oi (List.replicate f.n false).length L.ci) (dI f.atoms) (List.replicate f.n false):=
  ⟨HT.out.rows KR.out,by rw [List.length_replicate];exact HBI.out.keep KR.out,by rw [List.length_replicate];exact hn12,by have:=mW f.atoms;have:=HM.out;omega,by rw [List.length_replicate];exact HRO.out⟩
 have hS:=Nw wr ot ct L.oi L.ci (dI f.atoms) (List.replicate f.n false) hX (fun i=>by rw [dV,List.getElem?_replicate];split<;>rfl) 2000 (Nat.le_refl _);rw [HR.out,List.length_replicate]at hS;have CS:=zh hS;have HLQ:Hid ((∀a∈f.atoms,a.k=3)→jE f.atoms 0=NG m):=zh (fun h=>by
  rw [FD 0 h,HM.out];exact List.map_congr_left fun j _=>om)
 have YI:Hid ((dI f.atoms).length≤m):=zh (by have:=mW f.atoms;have:=HM.out;omega);have hRt:(dI (f.atoms.take k)).length=(dI f.atoms).length:=by rw [htake]
 have hQt:(jE (f.atoms.take k) 0).length=(jE f.atoms 0).length:=by rw [htake]
 rw [hRt,hQt];obtain⟨nR,hnR⟩:∃nR,(dI f.atoms).length=nR:=⟨_,rfl⟩;obtain⟨nQ,hnQ⟩:∃nQ,(jE f.atoms 0).length=nQ:=⟨_,rfl⟩;have HNR:=zh hnR;have YJ:=zh hnQ;rw [hnR]at CS ⊢;rw [hnQ]at ZB ⊢;clear hX hS htake hRt hQt hnR hnQ;have y1:=(KR.out.cell YL.out).trans Y1.out;have yl:=bJ YL.out KR.out.size;generalize f.n=n at *;go_wp2_with fail;refine CS.out.mono ?_;intro e w3 hp;obtain⟨hp1,hp2,hk3⟩:=hp;have K3:=zh (KR.out.both hk3);have zes:=zh (ZB.out.keep hk3);have HBS:=zh (KR.out.size);clear y1 yl CS;rcases HRT.out with hmu | ⟨hmu,hle,hst⟩
 ·obtain rfl:=hp1 (.inl hmu);have YK:=zh hmu;clear hp1 hp2 hk3 hmu;go_wp2;refine bodyPost_ret (by simp [results,Tryz.results61,go_sem];rfl) rfl ?_;exact .inl ⟨rfl,K3.out,.inl YK.out⟩
 have hnm:¬(r.s.much=true∨3000<r.s.steps.length):=by rw [hmu];simp;omega
 obtain⟨u,v,rfl,hu,hv⟩:=hp2 hnm;have YK:=zh hmu;have HUP:=zh hu;have HV:=zh hv;obtain⟨ou3,cu3,hu3,_⟩:=aO.len hu;obtain⟨ov3,cv3,hv3⟩:=hv.len;generalize r.s.point.length=np at *;generalize r.s.steps.length=nst at *;subst hu3 hv3;clear hp1 hp2 hk3 hmu hnm hu hv hle;rcases hst with h3 | ⟨h1,hx1,hx2⟩ | ⟨h2,⟨ls,ns,hT,hTK⟩,hno⟩
 ·have H3:=zh h3;rw [h3];clear h3;go_wp2;refine bodyPost_ret (by simp [results,Tryz.results61,go_sem];rfl) rfl ?_;exact .inl ⟨rfl,K3.out,.inr H3.out⟩
 ·have H1:=zh h1;rw [h1];clear h1 hx1 hx2;go_wp2;refine bodyPost_ret (by simp [results,Tryz.results61,go_sem];rfl) rfl ?_;exact .inr (.inl ⟨YK.out,H1.out,⟨_,rfl,World.ownsRow_mono HUP.out HBS.out⟩,K3.out⟩)
 have h33:∀a∈f.atoms,a.k=3:=HU.out.resolve_right fun h=>by
  have:dI f.atoms= []:=ND fun a ha=>by rw [h a ha];decide
  refine hno (fun _=>0) fun w hw=> ?_;rw [this]at hw;cases hw
 have hmm:(dI f.atoms).length=m:=by rw [FC h33,List.length_map];exact HM.out
 rw [hmm]at hTK;have YM:=zes.out.ints fun x hx=>(by
  rw [HLQ.out h33]at hx;obtain⟨i,hi,rfl⟩:=List.mem_map.1 hx;have:=List.mem_range.1 hi;unfold dA;omega)
 rw [HLQ.out h33]at YM;have hv':=HV.out;rw [hT]at hv';have CT:=zh (Rv w0 w3 b L f fuel M s (.slice ov3 nst cv3) (.slice ou nQ cu) m ls ns (HS.out.keep K3.out) hv' YM hTK om HC.out Ut.out);have G7:=zh hTK;have H2:=zh h2;rw [h2];clear h2 h33 hmm YM hv' hTK hno hT;go_wp2_with fail;refine CT.out.mono ?_;rintro e w4 ⟨rfl,⟨M',y,hy,hs4⟩,hf4⟩;have EG:=zh hs4;have HF4:=zh ((iN.of K3.out).trans hf4);have HY:=zh hy;clear hs4 hf4 CT hy;go_wp2;refine bodyPost_ret (by simp [results,Tryz.results61,go_sem];rfl) rfl ?_;exact .inr (.inr ⟨YK.out,H2.out,rfl,HF4.out,M',ls,ns,y,by rw [HM.out];exact G7.out,HY.out,EG.out⟩)
abbrev TMd:TypeId:=43
structure Rx where
 oh:Option Addr
 ch:Nat
 ot:Option Addr
 ct:Nat
 on:Option Addr
 cn:Nat
def Rx.v (M:Rx)(m n:Nat):Value:= .agg #[.slice M.oh m M.ch,.slice M.ot 0 M.ct,.slice M.on n M.cn]
structure FE (w:World)(M:Rx)(f:GF)(holds:List Bool)(nums:List Fq):Prop where
 h:dZ w (.slice M.oh f.atoms.length M.ch) holds
 hl:holds.length=f.atoms.length
 n:dM w (.slice M.on f.n M.cn) nums
 nl:nums.length=f.n
 ok:∀g∈nums,bF g.N g.D
theorem FE.keep {w w':World}{M:Rx}{f:GF}{holds:List Bool}{nums:List Fq}(h:FE w M f holds nums)(k:Keep au w w'):FE w' M f holds nums:=
 ⟨h.h.keep k,h.hl,h.n.keep k,h.nl,h.ok⟩
theorem J2 (w:World)(on:Option Addr)(cn f:Nat):Calls Tryz.prog 170 #[.slice on 0 cn,.func (.func f) #[] #[]] w fun e w'=>e= .returned (.int .i64 (-1))∧Keep au w w':=by
 go_enter Tryz.func170,Tryz.ntmps170;go_wp2;go_loopw [8] (fun s wr=>s= .int .i64 0∧Keep au w wr) (fun _ _=>0)
 case atStart=>exact⟨rfl,kp⟩
 obtain⟨rfl,hk⟩:=hrel;have K:=zh hk;clear hk;go_wp2;go_ret;exact⟨rfl,K.out⟩
theorem ZJ (w:World)(n d:Int)(h:bF n d):Calls Tryz.prog 195 #[.agg #[.int .i64 n,.int .i64 d]] w fun e w'=>e= .returned (.bool false)∧Keep au w w':=by
 have CC:=fun w=>zh (mR n d w h);clear h;go_enter Tryz.func195,Tryz.ntmps195;go_wp2_with fail;refine(CC _).out.mono ?_;rintro e w1 ⟨rfl,hb1⟩;have k1:=Keep.of_below hb1 (Nat.le_refl _);have K1:Hid (Keep au w w1):=zh (Keep.trans kp k1 fun _ _ _ h=>h);clear hb1 k1;go_wp2;go_ret;exact⟨rfl,by have HK:=K1;exact kp⟩
theorem J5 (w:World)(v:Value)(nums:List Fq)(h:dM w v nums)(hok:∀g∈nums,bF g.N g.D):Calls Tryz.prog 91 #[v,.func (.func 195) #[] #[]] w fun e w'=>e= .returned (.int .i64 (-1))∧Keep au w w':=by
 have HN:=zh h;have mg:=zh hok;have e2:=fun a w=>(show Sem.run Tryz.prog (callFunc 195 a) w= .ok (.enter 195 a) w from kr);obtain⟨oa,ca,rfl,hca,hma⟩:=h.len;unfold maxLen at hma;clear h hok;go_enter Tryz.func91,Tryz.ntmps91;go_wp2;go_loopw [8] (fun s wr=>∃k:Nat,k≤nums.length∧s= .int .i64 k∧Keep au w wr) (fun s _=>(nums.length-intOf s).toNat)
 case atStart=>exact⟨0,om,rfl,Keep.refl _ _⟩
 obtain⟨k,hk,rfl,hkr⟩:=hrel;have dH:=zh hkr;clear hkr;by_cases hkl:k<nums.length
 ·have hlt:(k:Int)<(nums.length:Int):=om;obtain⟨b,o,rfl,hbl,p0,p1⟩:=(HN.out.keep dH.out).at hkl;have hx:=mg.out _ (List.getElem_mem hkl);have CC:=fun w=>zh (ZJ w _ _ hx);generalize nums[k].N=gn at *;generalize nums[k].D=gd at *;clear hx;go_wp2_with fail;refine(CC _).out.mono ?_;rintro e w4 ⟨rfl,hk4⟩;have K4:=zh (dH.out.both hk4);clear hk4 p0 p1;go_wp2;go_roundw
  case rel=>exact⟨k+1,om,by go_num,K4.out⟩
  simp [intOf];omega
 have hlt:¬(k:Int)<(nums.length:Int):=om;go_wp2;go_ret;exact⟨rfl,dH.out⟩
theorem Ry (w:World)(L:jZ)(M:Rx)(f:GF)(holds:List Bool)(nums:List Fq)(h:qm w L f)(hok:rQ f)(hm:FE w M f holds nums):
  Calls Tryz.prog 128 #[L.v f,M.v f.atoms.length f.n] w fun e w'=>e= .returned (.agg #[.int .i64 0,.int .i64 0])∧Keep au w w':=by
 have CC:=zh (fun w' (k:Keep au w w')=>wU w' L f (h.keep k) hok);have CI:=fun w'=>zh (J2 w' M.ot M.ct 194);have CF:=zh (fun w' (k:Keep au w w')=>J5 w' (.slice M.on f.n M.cn) nums (hm.n.keep k) hm.ok);unfold jZ.v Rx.v;unfold jZ.v at CC;obtain⟨oi,ci,oa,ca,oc,cc⟩:=L;obtain⟨oh,ch,ot,ct,on,cn⟩:=M;simp only at CC CI CF ⊢;generalize f.n=n at *;generalize f.atoms.length=m at *;generalize f.cls.length=q at *;clear h hok hm;obtain⟨w2,hw2⟩:∃w2:World,w2=((w.alloc (.cells #[.slice none 0 0,.slice oi n ci,.slice oa m ca,.slice oc q cc] Bv)).alloc (.cells #[.slice oh m ch,.slice ot 0 ct,.slice on n cn] TMd)).alloc (.cells #[.int .i64 0,.int .i64 0] iZ):=⟨_,rfl⟩;obtain⟨b2,hb2⟩:∃b2,b2=w.heap.size+1:=⟨_,rfl⟩;obtain⟨b3,hb3⟩:∃b3,b3=b2+1:=⟨_,rfl⟩;have K2:Hid (Keep au w w2):=zh (by rw [hw2];exact(((Keep.refl _ _).alloc _).alloc _).alloc _);have HB1:Hid (w2.heap[w.heap.size]? =some (.cells #[.slice none 0 0,.slice oi n ci,.slice oa m ca,.slice oc q cc] Bv (0,0))):=zh (by rw [hw2,heap_alloc_old _ _ _ (by simp;omega),heap_alloc_old _ _ _ sm];exact aK _ _ _ rfl);have HB2:Hid (w2.heap[b2]? =some (.cells #[.slice oh m ch,.slice ot 0 ct,.slice on n cn] TMd (0,0))):=zh (by rw [hw2,hb2,heap_alloc_old _ _ _ sm];exact aK _ _ _ sm);have HB3:Hid (w2.heap[b3]? =some (.cells #[.int .i64 0,.int .i64 0] iZ (0,0))):=zh (by rw [hw2,hb3,hb2];exact aK _ _ _ sm);go_enter Tryz.func128,Tryz.ntmps128;go_upto_region 1 with fail;rw [← hw2,←hb2,←hb3];have Jm:Hid (w.heap.size≤b3):=zh om;clear hw2 hb2 hb3;generalize hg1:w.heap.size=b1 at *;have mE:=zh hg1;clear hg1;have x0:=cell_of_heap (o:=0) HB1.out rfl;have x1:=cell_of_heap (o:=1) HB1.out rfl;have x2:=cell_of_heap (o:=2) HB1.out rfl;have x3:=cell_of_heap (o:=3) HB1.out rfl;have xl:=lt_of_heap HB1.out;have CC:=zh (CC.out w2 K2.out);go_wp2_with fail;refine CC.out.mono ?_;rintro e w3 ⟨rfl,hk3⟩;have K4:Hid (Keep au w2 (w3.alloc (.cells #[.int .i64 0,.int .i64 0] iZ))):=zh (Keep.both hk3 ((Keep.refl _ _).alloc _));have yl:=lt_of_heap HB2.out;have y0:=(K4.out.cell (i:=0) yl).trans (cell_of_heap (o:=0) HB2.out rfl);have y1:=(K4.out.cell (i:=1) yl).trans (cell_of_heap (o:=1) HB2.out rfl);have y2:=(K4.out.cell (i:=2) yl).trans (cell_of_heap (o:=2) HB2.out rfl);have z0:=(K4.out.cell (i:=0) xl).trans x0;have z1:=(K4.out.cell (i:=1) xl).trans x1;have z2:=(K4.out.cell (i:=2) xl).trans x2;have zl:=bJ xl K4.out.size;have yl4:=bJ yl K4.out.size;clear hk3 CC x0 x1 x2 x3;go_wp2_with fail;refine(CI _).out.mono ?_;rintro e w5 ⟨rfl,hk5⟩;have u2:=(hk5.cell (i:=2) yl4).trans y2;have ul:=bJ yl4 hk5.size;have K5:=zh (K4.out.both hk5);have CF:=zh (CF.out w5 (K2.out.both K5.out));clear hk5 CI y0 y1 y2 z0 z1 z2 zl yl4;go_wp2_with fail;refine CF.out.mono ?_;rintro e w6 ⟨rfl,hk6⟩;have KE:=zh (K5.out.both hk6);have VN:=zh ((KE.out.block b3 (lt_of_heap HB3.out) fun _ h=>h).trans HB3.out);have t0:=cell_of_heap (o:=0) VN.out rfl;have t1:=cell_of_heap (o:=1) VN.out rfl;have f0:=aL.free (A:=_) ⟨_,VN.out⟩ 0;have f1:=aL.free (A:=_) ⟨_,VN.out⟩ 1;have tl:=lt_of_heap VN.out;clear hk6 CF u2 ul;go_wp2;refine bodyPost_ret (by simp [results,Tryz.results128,go_sem,t0,t1,tl];rfl) rfl ?_;exact⟨rfl,aQ (aQ (K2.out.both KE.out) _ (by rw [mE.out];exact Jm.out)) _ (by rw [mE.out];exact Jm.out)⟩
abbrev Fv:TypeId:=46
theorem NH (w:World):Calls Tryz.prog 26 #[.slice none 0 0] w fun e w'=>e= .returned (.slice none 0 0)∧w'=w:=by
 have e1:∀w,Sem.run Tryz.prog (binOp BinOp.eql 22 (.slice none 0 0) (.slice none 0 0)) w= .ok (.bool true) w:=fun w=>kr;go_enter Tryz.func26,Tryz.ntmps26;go_wp2;refine bodyPost_ret (by simp [results,Tryz.results26,go_sem];rfl) rfl ?_;exact⟨rfl,rfl⟩
def YE (st:Int)(h th nm s:Value)(u:Int):Array Value:= #[.int .i64 st,h,th,nm,s,.int .i64 u]
theorem fK {w:World}{b:Nat}{st:Int}{h th nm s:Value}{u:Int}(hb:aL w b (YE st h th nm s u)):w.cell? ⟨b,0,none⟩=some (.int .i64 st)∧w.cell? ⟨b,1,none⟩=some h∧w.cell? ⟨b,2,none⟩=some th∧w.cell? ⟨b,3,none⟩=some nm∧w.cell? ⟨b,4,none⟩=some s∧w.cell? ⟨b,5,none⟩=some (.int .i64 u)∧w.frozen? ⟨b,0,none⟩=false∧w.frozen? ⟨b,1,none⟩=false∧w.frozen? ⟨b,2,none⟩=false∧w.frozen? ⟨b,3,none⟩=false∧w.frozen? ⟨b,4,none⟩=false∧w.frozen? ⟨b,5,none⟩=false∧b<w.heap.size:=
 ⟨hb.cell 0,hb.cell 1,hb.cell 2,hb.cell 3,hb.cell 4,hb.cell 5,hb.free 0,hb.free 1,hb.free 2,hb.free 3,hb.free 4,hb.free 5,hb.lt⟩
structure StQ where
 k:Int
 o:Option Addr
 n:Nat
 c:Nat
 on:Option Addr
 nn:Nat
 cn:Nat
def sqL (x:StQ):List Value:= [.int .i64 x.k,.slice x.o x.n x.c,.slice x.on x.nn x.cn,.int .i64 0,.int .i64 0,.int .i64 0,.slice none 0 0,.int .i64 0,.int .i64 0]
theorem ZK (x:StQ):(sqL x).length=9:=rfl
theorem ZL (x:StQ):∀u∈sqL x,u.oneCell'=true:=by
 intro u hu;simp [sqL]at hu;rcases hu with rfl | rfl | rfl | rfl | rfl | rfl | rfl | rfl | rfl<;>rfl
theorem zbz {w:World}{base:Nat}{v:Value}{l:List StQ}(hown:aO jc 9 sqL w base v l){b:Nat}{x:StQ}(hbk:aL w b (EL x.k x.o x.n x.c x.on x.nn x.cn))(hl:l.length≤100000)(hbase:base≤w.heap.size):
  ∃v' w',(Builtin.append_ #[44,44] 44 #[v,.slice (some ⟨b,0,none⟩) 1 1]).run Tryz.prog w= .ok v' w'∧aO jc 9 sqL w' base v' (l++ [x])∧w.grownBy w' v.ownBlock∧(v'.ownBlock=v.ownBlock∨v'.ownBlock=some w.heap.size):=by
 obtain⟨i,hi,hz,hs,hb⟩:=info_parts infoSt;exact aO.app (T:=jc) (K:=9) (c:=sqL) ZK Tryz.underlying44 hi hz hs hb rfl om hown hbk (ZL x) (by unfold maxLen;omega) om hbase
theorem dM.srcG {w:World}{v:Value}{l:List Fq}(h:dM w v l):oN Ig w v l:=by
 obtain⟨oa,cap,e,_,_,_,hc⟩:=h;refine⟨oa,cap,e,fun h0=> ?_⟩;obtain⟨b,o,q,_,h4⟩:=hc (by rintro rfl;simp at h0);refine⟨_,q,vJ yC fun i x hx j u hj=> ?_⟩;obtain⟨c0,c1⟩:=h4 i x hx
 match j,hj with
 | 0,hj=>simp [Ig]at hj;subst hj;simpa using c0
 | 1,hj=>simp [Ig]at hj;subst hj;exact c1
 | j+2,hj=>simp [Ig]at hj
theorem J6 (w:World)(v:Value)(l:List _)(h:oN Ig w v l)(hl:l.length≤10000):Calls Tryz.prog 63 #[v] w fun e w'=>∃v',e= .returned v'∧aO TF 2 Ig w' w.heap.size v' l∧Keep au w w':=by
 have H:=zh h;obtain⟨oa,cap,hv,hc⟩:=h;subst hv;have hn:=fun w=>Go.Lib.run_eql_slice_nil (P:=Tryz.prog) w 41 TF oa l.length cap 0 0 Tryz.underlying41;rcases oa with _ | a
 ·have hl0:l= []:=by
   rcases l with _ | ⟨x,l⟩
   ·rfl
   obtain⟨_,h,_⟩:=hc sm;cases h
  subst hl0;clear hc;simp only [List.length_nil,Option.isNone_none,Option.isNone_some]at hn ⊢;go_enter Tryz.func63,Tryz.ntmps63;go_wp2;refine bodyPost_ret (by simp [results,Tryz.results63,go_sem];rfl) rfl ?_;exact⟨_,rfl,aO.nil _ _,Keep.refl _ _⟩
 clear hc;simp only [Option.isNone_none,Option.isNone_some]at hn;have k1:Keep au w (w.alloc (.cells #[] TF)):=(Keep.refl _ _).alloc _;obtain⟨i,hi,hz,hs,hb⟩:=info_parts PK;have hown:aO TF 2 Ig (w.alloc (.cells #[] TF)) w.heap.size (.slice (some ⟨w.heap.size,0,none⟩) 0 0) []:=by unfold aO;exact qI (Nat.le_refl _)
 obtain⟨v',w',hr,ho',hg⟩:=J7 yC PX (T:=TF) Tryz.underlying41 hi hz hs hb rfl dc hown (lG (K:=2) H.out k1) (by simp;omega) dc k1.size;have HO:=zh ho';have HK:Hid (Keep au w w'):=zh (k1.grown hg fun k hk=>by cases hk;exact Nat.le_refl _);clear ho' hg k1 hown;go_enter Tryz.func63,Tryz.ntmps63;go_wp2_with (at_builtin;refine aV _ _ 41 _ _ rfl rfl rfl rfl hr ?_);refine bodyPost_ret (by simp [results,Tryz.results63,go_sem];rfl) rfl ?_;exact⟨_,rfl,HO.out,HK.out⟩
theorem JE (w:World)(st:Int)(oh:Option Addr)(nh ch:Nat)(lb:List Bool)(hh:oN VO w (.slice oh nh ch) lb)(hlb:lb.length≤1000)(o3:Option Addr)(n3 c3:Nat)(o5:Option Addr)(n5 c5:Nat)(os:Option Addr)(cs m0:Nat)(l:List ji)(hs:mh w (.slice os l.length cs) l)(hsp:∀x∈l,Ur m0 x)(hm0:m0≤1000)(hl:l.length≤5000)(used:Int):
  Calls Tryz.prog 28 #[.agg #[.int .i64 st,.slice oh nh ch,.slice o3 n3 c3,.slice o5 n5 c5,.slice os l.length cs,.int .i64 used]] w fun e w'=>(∃ (p1:Option Addr) (p2 p3:Nat) (q1:Option Addr) (q2 q3:Nat) (s1:Option Addr) (s2 s3:Nat) (r1:Option Addr) (r2 r3:Nat),e= .returned (.agg #[.int .i64 st,.slice p1 p2 p3,.slice q1 q2 q3,.slice s1 s2 s3,.slice r1 r2 r3,.int .i64 used]))∧Keep au w w':=by
 have HS:=zh hs;have HSP:=zh hsp;have CB:=zh (fun w' (k:Keep au w w')=>NI w' (.slice oh nh ch) lb (lG (K:=1) hh k) om);have CI:=zh (fun w' v x (hx:aR w' v x) (hl:x.length≤1000)=>wV w' v x hx.srcG om);have CF:=zh (fun w' v x (hx:dM w' v x) (hl:x.length≤10000)=>J6 w' v x hx.srcG hl);have CN:=fun w'=>zh (NH w');obtain⟨m,hm⟩:∃m,l.length=m:=⟨_,rfl⟩;have HM:=zh hm;rw [hm]at HS hl ⊢;obtain⟨w2,hw2⟩:∃w2:World,w2=(w.alloc (.cells #[.int .i64 st,.slice oh nh ch,.slice o3 n3 c3,.slice o5 n5 c5,.slice os m cs,.int .i64 used] Fv)).alloc (.cells #[.int .i64 0,.slice none 0 0,.slice none 0 0,.slice none 0 0,.slice none 0 0,.int .i64 0] Fv):=⟨_,rfl⟩;have K2:Hid (Keep au w w2):=zh (by rw [hw2];exact((Keep.refl _ _).alloc _).alloc _);have HB1:Hid (aL w2 w.heap.size (YE st (.slice oh nh ch) (.slice o3 n3 c3) (.slice o5 n5 c5) (.slice os m cs) used)):=zh (by rw [hw2];exact aL.old (aN _ _ rfl) _);have HB2:Hid (aL w2 (w.heap.size+1) (YE 0 (.slice none 0 0) (.slice none 0 0) (.slice none 0 0) (.slice none 0 0) 0)):=zh (by rw [hw2];exact aN _ _ sm);clear hh hlb hs hsp hm;go_enter Tryz.func28,Tryz.ntmps28;go_upto_region 1 with fail;rw [← hw2];clear hw2;obtain⟨b1,hb1⟩:∃b1,b1=w.heap.size:=⟨_,rfl⟩;rw [← hb1]at HB1 HB2 ⊢;have mE:=zh hb1;clear hb1;obtain⟨x0,x1,x2,x3,x4,x5,f0,f1,f2,f3,f4,f5,xl⟩:=fK HB1.out;go_wp2;clear x0 x1 x2 x3 x4 x5 f0 f1 f2 f3 f4 f5 xl;go_loopw [9,3] (fun s v wr=>∃(k:Nat) (rs:List StQ),k≤m∧s= .int .i64 k∧rs.length=k∧aO jc 9 sqL wr w2.heap.size v rs∧Keep au w2 wr) (fun s _ _=>(m-intOf s).toNat)
 case atStart=>exact⟨0,[],om,rfl,rfl,aO.nil _ _,kp⟩
 obtain⟨k,rs,hk,rfl,hrl,hor,hkr⟩:=hrel;have VP:=zh hor;have KR:=zh hkr;have HRL:=zh hrl;obtain⟨ro,rc,hrv,_⟩:=aO.len hor;rw [hrl]at hrv;subst hrv;clear hor hkr hrl;by_cases hkl:k<m
 case pos=>
  have hlt:(k:Int)<(m:Int):=om;have hkm:k<l.length:=by rw [HM.out];exact hkl
  have HST:=HSP.out _ (List.getElem_mem hkm);have hV:=HS.out.keep (K2.out.both KR.out);obtain⟨sb,sf,ol,cl,on,cn,hos,hsb,hlv,hnv,hcl1,hcl2,p0,p1,p2,p3,p4,p5,p6,p7,p8⟩:=hV.at hkm HST;have hSG:=hV.mem _ (List.getElem_mem hkm);have hin:=hSG.l;have hnn:=hSG.n;rw [hlv]at hin;rw [hnv]at hnn;rw [hos];have hlx:l[k].st.lits.length≤1000:=by have:=HST.v.le;omega
  have hnx:l[k].st.nums.length≤10000:=by
   rcases HST.k with⟨_,h2⟩ | ⟨_,h2,_⟩
   ·rw [h2];simp
   rw [h2];omega
  generalize l[k].st.lits=lits at *;generalize l[k].st.nums=nums at *;generalize l[k].st.kind=kd at *;have ka:Keep au wr (wr.alloc (.cells (EL kd ol lits.length cl on nums.length cn) jc)):=(Keep.refl _ _).alloc _;have wL:Hid (aL (wr.alloc (.cells (EL kd ol lits.length cl on nums.length cn) jc)) wr.heap.size (EL kd ol lits.length cl on nums.length cn)):=zh (aN _ _ rfl);have zH:=zh (hin.keep ka);have Zi:=zh (hnn.keep ka);have K6:=zh (KR.out.both ka);have HX5:Hid (w2.heap.size≤wr.heap.size):=zh KR.out.size;have zcO:=zh (aO.keep VP.out ka);have Ia:Hid (∀q,(Value.slice ro k rc).ownBlock=some q→q≠wr.heap.size):=zh (fun q hq=>by have:=aO.lt VP.out q hq;omega);have lY:=zh hnx;unfold EL at K6 wL zH zcO Zi;clear ka hin hnn VP hSG hV HST hlv hnv hcl1 hcl2 hnx;go_upto_region 5 with fail;generalize wr.alloc (.cells #[.int .i64 kd,.slice ol lits.length cl,.slice on nums.length cn,.int .i64 0,.int .i64 0,.int .i64 0,.slice none 0 0,.int .i64 0,.int .i64 0] jc)=w6 at *;generalize wr.heap.size=b5 at *;clear p0 p1 p2 p3 p4 p5 p6 p7 p8 hsb;obtain⟨x0,x1,x2,x3,x4,x5,x6,x7,x8,xl⟩:=iT wL.out;refine aD (fun w'=>Keep au w6 w') [12,13,14,15,16,17,18] [([0,1,3,4,6,7,8,9],2),([11],5),([],10),([],12),([13],14),([15,16,17],18)] [] kr kr (Keep.refl _ _).drew ?_;intro X W hne hF hcl;have aY:=zh hcl;have z1:=fun x=>((hF x).cell xl).trans x1;have z2:=fun x=>((hF x).cell xl).trans x2;have z6:=fun x=>((hF x).cell xl).trans x6;have zl:=fun x=>bJ xl (hF x).size;clear hF hcl;simp only [aW,aJ,zl0,zl1,zl2,aX,Bool.false_eq_true,if_false]
  (repeat(quiet_step (fail)));refine wpQuiet_nil ?_
  refine ay rfl rfl fun K hK=> ?_;go_simp;refine(CI.out _ _ lits (zH.out.keep ((Keep.refl au w6).drew)) hlx).mono ?_;rintro e w7 ⟨v7,rfl,ho7,hk7⟩;have k7:Keep au w6 w7:=Keep.both (Keep.refl _ _).drew hk7;obtain⟨o7,c7,hv7,_⟩:=aO.len ho7;subst hv7;refine hK _ _ ⟨fun _=>aY.out _ k7,?_⟩;clear hK hk7
  (repeat(quiet_step (fail)));refine wpQuiet_nil ?_
  refine ay rfl rfl fun K hK=> ?_;go_simp;refine(CF.out _ _ nums (Zi.out.keep k7) lY.out).mono ?_;rintro e w8 ⟨v8,rfl,ho8,hk8⟩;have k8:Keep au w6 w8:=k7.both hk8;obtain⟨o8,c8,hv8,_⟩:=aO.len ho8;subst hv8;refine hK _ _ ⟨fun _=>aY.out _ k8,?_⟩;clear hK hk8 k7 ho7 ho8
  (repeat(quiet_step (fail)));refine wpQuiet_nil ?_
  refine ay rfl rfl fun K hK=> ?_;go_simp;refine(CN _).out.mono ?_;rintro e w8x ⟨rfl,hw8⟩;subst hw8;have nu:=zh (wL.out.keep k8);have K7:=zh (K6.out.both k8);have zet:=zh (aO.keep zcO.out k8);refine hK _ _ ⟨fun _=>aY.out _ k8,?_⟩;clear hK aY z1 z2 z6 zl x0 x1 x2 x3 x4 x5 x6 x7 x8 xl;obtain⟨x0,x1,x2,x3,x4,x5,x6,x7,x8,xl⟩:=iT nu.out;have f1:=nu.out.free 1;have f2:=nu.out.free 2;have f6:=nu.out.free 6
  (repeat(quiet_step (fail)));refine wpQuiet_nil ?_
  refine ay rfl rfl fun K hK=> ?_;go_simp;refine hK _ _ ⟨fun h=>(by simp at h),?_⟩;clear hK
  (repeat(quiet_step (fail)));refine wpQuiet_nil ?_
  refine ay rfl rfl fun K hK=> ?_;go_simp;refine hK _ _ ⟨fun h=>(by simp at h),?_⟩;clear hK
  (repeat(quiet_step (fail)));refine wpQuiet_nil ?_
  refine ay rfl rfl fun K hK=> ?_;go_simp;refine hK _ _ ⟨fun h=>(by simp at h),?_⟩;clear hK
  (repeat(quiet_step (fail)));refine wpQuiet_nil ?_
  refine NoPanic.normal ?_;have EJ:Hid (aL (((w8x.setCell ⟨b5,1,none⟩ (.slice o7 lits.length c7)).setCell ⟨b5,2,none⟩ (.slice o8 nums.length c8)).setCell ⟨b5,6,none⟩ (.slice none 0 0)) b5 (EL kd o7 lits.length c7 o8 nums.length c8)):=zh (((nu.out.set 1 _).set 2 _).set 6 _);have HO9:Hid (aO jc 9 sqL (((w8x.setCell ⟨b5,1,none⟩ (.slice o7 lits.length c7)).setCell ⟨b5,2,none⟩ (.slice o8 nums.length c8)).setCell ⟨b5,6,none⟩ (.slice none 0 0)) w2.heap.size (.slice ro k rc) rs):=zh (World.ownsRow_set_other (World.ownsRow_set_other (World.ownsRow_set_other zet.out Ia.out) Ia.out) Ia.out);have K9:Hid (Keep au w2 (((w8x.setCell ⟨b5,1,none⟩ (.slice o7 lits.length c7)).setCell ⟨b5,2,none⟩ (.slice o8 nums.length c8)).setCell ⟨b5,6,none⟩ (.slice none 0 0))):=zh (aQ (aQ (aQ K7.out _ HX5.out) _ HX5.out) _ HX5.out);clear x0 x1 x2 x3 x4 x5 x6 x7 x8 xl f1 f2 f6 k8;generalize ((w8x.setCell ⟨b5,1,none⟩ (.slice o7 lits.length c7)).setCell ⟨b5,2,none⟩ (.slice o8 nums.length c8)).setCell ⟨b5,6,none⟩ (.slice none 0 0)=w9 at *;obtain⟨x0,x1,x2,x3,x4,x5,x6,x7,x8,xl⟩:=iT EJ.out;have ka:Keep au w9 (w9.alloc (.cells (EL kd o7 lits.length c7 o8 nums.length c8) jc)):=(Keep.refl _ _).alloc _;obtain⟨v10,w10,hr10,ho10,hg10,_⟩:=zbz (aO.keep HO9.out ka) (x:=⟨kd,o7,lits.length,c7,o8,nums.length,c8⟩) (b:=w9.heap.size) (aN _ _ rfl) (by rw [HRL.out];omega) (K9.out.both ka).size;have ZH:=zh ((K9.out.both ka).grown hg10 fun q hq=>aO.block HO9.out q hq);have ZI:=zh ho10;obtain⟨o10,c10,hv10,_⟩:=aO.len ho10;subst hv10;rw [List.length_append,List.length_singleton,HRL.out]at hr10 ZI;clear ka ho10 hg10;unfold EL at hr10;go_wp2_with (at_builtin;refine aV _ _ 44 _ _ rfl rfl rfl rfl hr10 ?_);go_roundw
  case rel=>exact⟨k+1,rs++ [⟨kd,o7,lits.length,c7,o8,nums.length,c8⟩],om,by go_num,by simp [HRL.out],ZI.out,ZH.out⟩
  simp [intOf];omega
 have hlt:¬(k:Int)<(m:Int):=om;have Pw:=HB1.out.keep KR.out;obtain⟨x0,x1,x2,x3,x4,x5,f0,f1,f2,f3,f4,f5,xl⟩:=fK Pw;have HB3:Hid (aL (wr.setCell ⟨b1,4,none⟩ (.slice ro k rc)) b1 (YE st (.slice oh nh ch) (.slice o3 n3 c3) (.slice o5 n5 c5) (.slice ro k rc) used)):=zh (Pw.set 4 _);have hne:b1+1≠b1:=om;have ES:Hid (aL (wr.setCell ⟨b1,4,none⟩ (.slice ro k rc)) (b1+1) (YE 0 (.slice none 0 0) (.slice none 0 0) (.slice none 0 0) (.slice none 0 0) 0)):=zh ((HB2.out.keep KR.out).setOther 4 _ hne);have K3:Hid (Keep au w (wr.setCell ⟨b1,4,none⟩ (.slice ro k rc))):=zh (aQ (K2.out.both KR.out) _ (by rw [← mE.out];exact Nat.le_refl _));clear Pw;go_upto_region 9 with fail;clear x0 x1 x2 x3 x4 x5 f0 f1 f2 f3 f4 f5 xl;generalize wr.setCell ⟨b1,4,none⟩ (.slice ro k rc)=w3 at *;obtain⟨x0,x1,x2,x3,x4,x5,f0,f1,f2,f3,f4,f5,xl⟩:=fK HB3.out;have CB:=zh (CB.out w3 K3.out);go_wp2_with fail;refine CB.out.mono ?_;rintro e w4 ⟨v4,rfl,ho4,hk4⟩;obtain⟨o4,c4,hv4,_⟩:=aO.len ho4;subst hv4;have fC:=zh (HB3.out.keep hk4);have J8:=zh (ES.out.keep hk4);have K4:=zh (K3.out.both hk4);clear ho4 hk4 CB x0 x1 x2 x3 x4 x5 f0 f1 f2 f3 f4 f5 xl;obtain⟨x0,x1,x2,x3,x4,x5,f0,f1,f2,f3,f4,f5,xl⟩:=fK fC.out;obtain⟨y0,y1,y2,y3,y4,y5,g0,g1,g2,g3,g4,g5,yl⟩:=fK J8.out;go_wp2;refine bodyPost_ret (by simp [results,Tryz.results28,go_sem,x0,x1,x2,x3,x4,x5,y0,y1,y2,y3,y4,y5,xl,yl];rfl) rfl ?_;have hg:=mE.out;exact⟨⟨_,_,_,_,_,_,_,_,_,_,_,_,rfl⟩,aQ (aQ (aQ (aQ (aQ (aQ (aQ K4.out _ om) _ om) _ om) _ om) _ om) _ om) _ om⟩
end Go.Proofs.YtmepglhdcphffaaGreat
