/- Package cut: the reference's checks of one step. -/
import Derived.Test.YtaiffmebphhdaaaGreatCuQ
import Derived.Test.YtaiffmebphhdaaaGreatCuAA
import Derived.Test.YtaiffmebphhdaaaGreatRfAA
import Derived.Test.YtaiffmebphhdaaaGreatBaseB
namespace Go.Proofs.YtaiffmebphhdaaaGreat
set_option maxRecDepth 100000
set_option maxHeartbeats 16000000
set_option linter.unusedSimpArgs false
set_option linter.unusedVariables false
open Go.ChangeShapes Go.WideShapes Go.RowKit
theorem Jc {vars:Nat}:∀ {l:List Int} {last:Nat},zo vars last l=true→∀k (hk:k<l.length),(if k=0 then last else(l.getD (k-1) 0).natAbs)<l[k].natAbs∧l[k].natAbs≤vars
 | [],_,_,_,hk=>by simp at hk
 | x::l,last,h,0,_=>by
  simp only [zo,Bool.and_eq_true,decide_eq_true_eq]at h;exact⟨by simpa using h.1,h.2.1⟩
 | x::l,last,h,k+1,hk=>by
  simp only [zo,Bool.and_eq_true,decide_eq_true_eq]at h;have:=Jc h.2.2 k (by simpa using hk);rcases k with _ | k
  ·simpa using this
  simpa using this
theorem qY (w:World)(v:Value)(l:List Int)(vars:Nat)(h:aW w v l)(hs:zo vars 0 l=true)(hv:vars≤1000):Calls Tryz.prog 24 #[v,.int .i64 (vars:Int)] w fun e w'=>e= .returned (.bool true)∧Keep au w w':=by
 have HX:=zh h;have HS:=zh hs;obtain⟨oa,ca,rfl,hml⟩:=h.len;unfold maxLen at hml;clear h hs;go_enter Tryz.func24,Tryz.ntmps24;go_wp2;go_loopw [6,5] (fun s z wr=>∃k p:Nat,k≤l.length∧s= .int .i64 k∧z= .int .i64 p∧p=(if k=0 then 0 else(l.getD (k-1) 0).natAbs)∧Keep au w wr) (fun s _ _=>(l.length-intOf s).toNat)
 case atStart=>exact⟨0,0,om,rfl,rfl,rfl,kp⟩
 obtain⟨k,p,hk,rfl,rfl,hp,hkr⟩:=hrel;have KR:=zh hkr;have HP:=zh hp;clear hkr hp;by_cases hkl:k<l.length
 case neg=>
  have hlt:¬(k:Int)<(l.length:Int):=om;go_wp2;go_ret;exact⟨rfl,KR.out⟩
 have hlt:(k:Int)<(l.length:Int):=om;obtain⟨b,o,cap,hv,hb,p0⟩:=HX.out.at hkl;injection hv with q1 q2 q3;clear q2;subst q1;subst q3;have p0:=(KR.out.cell hb).trans p0;have hbr:=dJ hb KR.out.size;obtain⟨g1,g2⟩:=Jc HS.out k hkl;rw [← HP.out]at g1;have HPN:Hid ((if k+1=0 then 0 else(l.getD (k+1-1) 0).natAbs)=(l[k]).natAbs):=zh (by
  rw [if_neg om,Nat.add_sub_cancel,dX,fG hkl];rfl)
 clear HP;generalize l[k]=y at *;obtain⟨q,hq⟩:∃q,y.natAbs=q:=⟨_,rfl⟩;rw [hq]at g1 g2 HPN;by_cases hy:y<0
 case pos=>
  obtain rfl:y= -(q:Int):=om;have f1:¬(q:Int)≤(p:Int):=om;have f2:¬(vars:Int)<(q:Int):=om;clear hq;go_wp2;go_roundw
  case rel=>exact⟨k+1,q,om,gn,sm,HPN.out.symm,KR.out⟩
  simp [intOf];omega
 obtain rfl:y=(q:Int):=om;have f1:¬(q:Int)≤(p:Int):=om;have f2:¬(vars:Int)<(q:Int):=om;clear hq;go_wp2;go_roundw
 case rel=>exact⟨k+1,q,om,gn,sm,HPN.out.symm,KR.out⟩
 simp [intOf];omega
theorem Ov (w:World)(o1 o2 oi:Option Addr)(n c1 c2 ci:Nat)(of1 of2:List Int)(z1 z2:Int)(ints:List Bool)(h1:aW w (.slice o1 n c1) of1)(h2:aW w (.slice o2 n c2) of2)(e1:of1.length=n)(e2:of2.length=n)(hi:gJ w (.slice oi ints.length ci) ints)(hn:ints.length≤12)
  (hx:∀x∈of1,bZ x) (hy:∀x∈of2,bZ x) (hz:z1+z2= -1) (hz1:bZ z1) (hof:∀k,k<ints.length→of1.getD k 0+of2.getD k 0=0∧(of1.getD k 0≠0→ints.getD k false=true)):
  Calls Tryz.prog 25 #[.agg #[.slice o1 n c1,.int .i64 1,.int .i64 z1],.agg #[.slice o2 n c2,.int .i64 1,.int .i64 z2],.slice oi ints.length ci] w fun e w'=>e= .returned (.bool true)∧Keep au w w':=by
 have H1:=zh h1;have H2:=zh h2;have HI:=zh hi;have HOF:=zh hof;have HX:=zh hx;have HY:=zh hy;have FU:=zh e1;have HE2:=zh e2;obtain rfl:z2= -1-z1:=om;unfold bZ at hz1;clear h1 h2 hi hof hx hy e1 e2 hz;go_enter Tryz.func25,Tryz.ntmps25;go_upto_region 1 with fail;have k1:Keep au w ((w.alloc (.cells #[.slice o1 n c1,.int .i64 1,.int .i64 z1] nN)).alloc (.cells #[.slice o2 n c2,.int .i64 1,.int .i64 (-1-z1)] nN)):=((Keep.refl _ _).alloc _).alloc _;have HB3:Hid (aL ((w.alloc (.cells #[.slice o1 n c1,.int .i64 1,.int .i64 z1] nN)).alloc (.cells #[.slice o2 n c2,.int .i64 1,.int .i64 (-1-z1)] nN)) w.heap.size #[.slice o1 n c1,.int .i64 1,.int .i64 z1]):=zh (aL.keep (aP (w:=w) _ _ rfl) ((Keep.refl au _).alloc _));have fH:Hid (aL ((w.alloc (.cells #[.slice o1 n c1,.int .i64 1,.int .i64 z1] nN)).alloc (.cells #[.slice o2 n c2,.int .i64 1,.int .i64 (-1-z1)] nN)) (w.heap.size+1) #[.slice o2 n c2,.int .i64 1,.int .i64 (-1-z1)]):=zh (aP _ _ sm);have K1:=zh k1;clear k1;generalize (w.alloc (.cells #[.slice o1 n c1,.int .i64 1,.int .i64 z1] nN)).alloc (.cells #[.slice o2 n c2,.int .i64 1,.int .i64 (-1-z1)] nN)=w1 at *;generalize w.heap.size=b3 at *;obtain⟨x0,x1,x2,_,_,_,xl⟩:=HB3.out.three;obtain⟨y0,y1,y2,_,_,_,yl⟩:=fH.out.three;go_wp2;go_loopw [7] (fun s wr=>∃k:Nat,k≤ints.length∧s= .int .i64 k∧Keep au w1 wr) (fun s _=>(ints.length-intOf s).toNat)
 case atStart=>exact⟨0,om,rfl,kp⟩
 obtain⟨k,hk,rfl,hkr⟩:=hrel;have KR:=zh hkr;have x0:=(hkr.cell xl).trans x0;have y0:=(hkr.cell yl).trans y0;have xlr:=dJ xl hkr.size;have ylr:=dJ yl hkr.size;clear hkr x1 x2 y1 y2;by_cases hkl:k<ints.length
 case neg=>
  have hlt:¬(k:Int)<(ints.length:Int):=om;go_wp2;go_ret;exact⟨rfl,K1.out.both KR.out⟩
 have hlt:(k:Int)<(ints.length:Int):=om;obtain⟨g1,g2⟩:=HOF.out k hkl;by_cases hkn:k<n
 case neg=>
  have hln:¬(k:Int)<(n:Int):=om;clear g1 g2;go_wp2;go_roundw
  case rel=>exact⟨k+1,om,gn,KR.out⟩
  simp [intOf];omega
 have hln:(k:Int)<(n:Int):=om;have l1:k<of1.length:=by rw [FU.out];exact hkn
 have l2:k<of2.length:=by rw [HE2.out];exact hkn
 obtain⟨a1,a2,a3,hv,ha,p0⟩:=H1.out.at l1;injection hv with q1 q2 q3;clear q2;subst q1;subst q3;obtain⟨a4,a5,a6,hv,ha',q0⟩:=H2.out.at l2;injection hv with q1 q2 q3;clear q2;subst q1;subst q3;have hx1:=HX.out _ (List.getElem_mem l1);have hy1:=HY.out _ (List.getElem_mem l2);rw [dX,dX,fG l1,fG l2]at g1;rw [dX,fG l1]at g2;simp only [Option.getD_some]at g1 g2;have hall:=K1.out.both KR.out;have p0:=(hall.cell ha).trans p0;have q0:=(hall.cell ha').trans q0;have har:=dJ ha hall.size;have har':=dJ ha' hall.size;clear hall;generalize of1[k]=x at *;generalize of2[k]=y at *;obtain rfl:y= -x:=om;have G2:=zh g2;clear g1 g2;unfold bZ at hx1 hy1;by_cases h0:x=0
 case pos=>
  subst h0;go_wp2;go_roundw
  case rel=>exact⟨k+1,om,gn,KR.out⟩
  simp [intOf];omega
 have e1:(x != 0)=true:=by rw [bne_iff_ne];exact h0
 have e2:(x+ -x != 0)=false:=by rw [bne_eq_false_iff_eq];omega
 obtain⟨b5,o5,rfl,hb5,r0⟩:=HI.out.at hkl;have gt:=G2.out h0;rw [dX,fG hkl]at gt;simp only [Option.getD_some]at gt;rw [gt]at r0;have r0:=((K1.out.both KR.out).cell hb5).trans r0;have hb5r:=dJ hb5 (K1.out.both KR.out).size;clear gt G2 h0;go_wp2;go_roundw
 case rel=>exact⟨k+1,om,gn,KR.out⟩
 simp [intOf];omega
theorem Ow (w0 w:World)(k0:Keep au w0 w)(v:Value)(all:List Rw)(l:Int)(h:dD w0 v all)(hl:l<0)(h2: -l≤(all.length:Int))(h3:all.length≤1000):Calls Tryz.prog 39 #[v,.int .i64 l] w fun e w'=>∃os cs,e= .returned (.tuple #[.agg #[.slice os (rV all l).of.length cs,.int .i64 (rV all l).kind,.int .i64 (rV all l).to],.bool true])∧pE w0 (.agg #[.slice os (rV all l).of.length cs,.int .i64 (rV all l).kind,.int .i64 (rV all l).to]) (rV all l)∧Keep au w w':=by
 obtain⟨q,rfl⟩:∃q:Nat,l= -((q:Int)+1):=⟨(-l-1).toNat,om⟩;have hq:q<all.length:=om;have e1:rV all (-((q:Int)+1))=all[q]:=by
  unfold rV;rw [show(- -((q:Int)+1)).toNat-1=q from om,dX,fG hq];rfl
 obtain⟨oa,ca,rfl,_,hma⟩:=h.len;unfold maxLen at hma;obtain⟨b,o,rfl,hb,hr⟩:=h.at hq;obtain⟨os,cs,p0,p1,p2,hrow⟩:=hr.row;have p0:=(k0.cell hb).trans p0;have p1:=(k0.cell hb).trans p1;have p2:=(k0.cell hb).trans p2;replace hb:=dJ hb k0.size;rw [e1];have HR:=zh hrow;generalize all[q]=r at *;obtain⟨oN,rk,rt⟩:=r;have f0: -((q:Int)+1)<0:=om;have f1:¬((q:Int)+1)<1:=om;have f2:¬((all.length:Int)<(q:Int)+1):=om;clear h hrow hr e1 k0;simp only at p1 p2 p0;go_enter Tryz.func39,Tryz.ntmps39;go_upto_region 6 with fail;have k1:Keep au w (w.alloc (.cells #[.slice none 0 0,.int .i64 0,.int .i64 0] nN)):=(Keep.refl _ _).alloc _;have fH:Hid (aL (w.alloc (.cells #[.slice none 0 0,.int .i64 0,.int .i64 0] nN)) w.heap.size #[.slice none 0 0,.int .i64 0,.int .i64 0]):=zh (aP _ _ rfl);have p0:=(k1.cell hb).trans p0;have p1:=(k1.cell hb).trans p1;have p2:=(k1.cell hb).trans p2;have hb1:=dJ hb k1.size;have K1:=zh k1;clear k1;generalize w.alloc (.cells #[.slice none 0 0,.int .i64 0,.int .i64 0] nN)=w1 at *;obtain⟨b4,hb4⟩:∃b4,w.heap.size=b4:=⟨_,rfl⟩;rw [hb4]at fH ⊢;have Cx:Hid (w.heap.size≤b4):=zh om;have HH4:=zh hb4;clear hb4;go_upto_region 7 with fail;have k2:Keep au w1 (w1.alloc (.cells #[.slice os oN.length cs,.int .i64 rk,.int .i64 rt] nN)):=(Keep.refl _ _).alloc _;have mO:Hid (aL (w1.alloc (.cells #[.slice os oN.length cs,.int .i64 rk,.int .i64 rt] nN)) w1.heap.size #[.slice os oN.length cs,.int .i64 rk,.int .i64 rt]):=zh (aP _ _ rfl);have hne:b4≠w1.heap.size:=by have:=fH.out.lt;omega
 have fH:=zh (fH.out.keep k2);have K2:=zh (K1.out.both k2);clear k2 K1 p0 p1 p2 hb1;generalize w1.alloc (.cells #[.slice os oN.length cs,.int .i64 rk,.int .i64 rt] nN)=w2 at *;generalize w1.heap.size=b7 at *;obtain⟨x0,x1,x2,y0,y1,y2,xl⟩:=fH.out.three;obtain⟨z0,z1,z2,_,_,_,zl⟩:=mO.out.three;go_simp
 repeat go_step
 refine bodyPost_ret (by simp [results,Tryz.results39,go_sem,x0,x1,x2,xl];rfl) rfl ?_;have kf:Keep au w (((w2.setCell ⟨b4,0,none⟩ (.slice os oN.length cs)).setCell ⟨b4,1,none⟩ (.int .i64 rk)).setCell ⟨b4,2,none⟩ (.int .i64 rt)):=iC (iC (iC K2.out _ Cx.out) _ Cx.out) _ Cx.out;exact⟨os,cs,rfl,HR.out,kf⟩
theorem Lj {w0 w:World}{base:Nat}{v:Value}{l:List Rw}(hown:jE w0 w base v l){b:Nat}{sv:Value}{r:Rw}(hb:aL w b #[sv,.int .i64 r.kind,.int .i64 r.to])(hi:aW w0 sv r.of∧fT r.kind∧fT r.to∧pz sv)(hl:l.length+1≤1000)(hbase:base≤w.heap.size):
  ∃v' w',(Builtin.append_ #[22,22] 22 #[v,.slice (some ⟨b,0,none⟩) 1 1]).run Tryz.prog w= .ok v' w'∧jE w0 w' base v' (l++ [r])∧w.grownBy w' v.ownBlock:=by
 obtain⟨i0,hi0,hz0,hz1,hz2⟩:=info_parts PX;obtain⟨zs,rfl,h2,h3⟩:=hown;rw [List.length_map]at hl;obtain⟨c0,c1,c2,_⟩:=hb.three;obtain⟨v',w',hr,ho,hg⟩:=sJ (P:=Tryz.prog) (w:=w) (ty:=22) Tryz.underlying22 hi0 hz0 hz1 hz2 rfl dc base v zs.length (zs.flatMap AR) h3 (some ⟨b,0,none⟩) 1 1 (AR ⟨sv,r⟩) rfl (fun _=>⟨_,rfl,fun j u hj=>by
  rcases j with _ | _ | _ | j
  ·simp [AR]at hj;subst hj;exact c0
  ·simp [AR]at hj;subst hj;exact c1
  ·simp [AR]at hj;subst hj;exact c2
  simp [AR]at hj⟩) (VN (x:=⟨sv,r⟩) hi.1) (by unfold maxLen;omega) om hbase
 refine⟨v',w',hr,⟨zs++ [⟨sv,r⟩],sm,fun x hx=> ?_,by unfold dR;rw [List.flatMap_append,List.length_append];exact(by simpa using ho)⟩,hg⟩;rcases List.mem_append.1 hx with hx | hx
 ·exact h2 x hx
 rw [List.mem_singleton]at hx;subst hx;exact hi
theorem VO {all:List Rw}{l:Int}(hl:l<0)(h2: -l≤(all.length:Int)):rV all l∈all:=by
 unfold rV;rw [dX,fG om];exact List.getElem_mem _
theorem Ll (w:World)(v:Value)(all:List Rw)(N:Nat)(lv nv c0 c3 c4 c5 c6 c7 c8:Value)(lits:List Int)(nums:List Fq)(h:dD w v all)(hl:aW w lv lits)(hf:dh w nv nums)(hok:∀r∈all,eD r N)(hN:N≤12)(hlit:∀l∈lits,l<0∧ -l≤(all.length:Int))(hal:all.length≤1000)(h64:lits.length≤64)(hno:Ox (lits.map (rV all)) N nums):
  Calls Tryz.prog 26 #[v,.int .i64 (N:Int),.agg #[c0,lv,nv,c3,c4,c5,c6,c7,c8]] w fun e w'=>e= .returned (.bool true)∧Keep au w w':=by
 have hln:nums.length=lits.length:=by have:=hno.len;rwa [List.length_map]at this
 obtain⟨ol,cl,rfl,hml⟩:=hl.len;obtain⟨on,cn,rfl,hcn,hmn⟩:=hf.len;rw [hln]at hcn ⊢;have HR:=zh h;have HL:=zh hl;have HF:=zh hf;have nM:=zh hlit;have CR:=zh (fun w' l (k:Keep au w w') (hl:l<0) h2=>Ow w w' k v all l h hl h2 hal);have CT:=zh (fun w' u (k:Keep au w w') (hu:dD w' u (lits.map (rV all)))=>F7 w' u (lits.map (rV all)) N _ nums hu (hf.keep k) (fun r hr=>by
  obtain⟨l,hl,rfl⟩:=List.mem_map.1 hr;exact hok _ (VO (hlit l hl).1 (hlit l hl).2)) (by rw [List.length_map];exact h64) hN hno.len hno.ok)
 have zc3:=zh hno.ok;rw [YA hno,hln]at CT;have Cz:=zh hln;clear h hl hf hok hlit hno hln;go_enter Tryz.func26,Tryz.ntmps26;go_upto_region 1 with fail;have k1:Keep au w (w.alloc (.cells #[c0,.slice ol lits.length cl,.slice on lits.length cn,c3,c4,c5,c6,c7,c8] 57)):=(Keep.refl _ _).alloc _;have fM:Hid ((w.alloc (.cells #[c0,.slice ol lits.length cl,.slice on lits.length cn,c3,c4,c5,c6,c7,c8] 57)).heap[w.heap.size]? =some (.cells #[c0,.slice ol lits.length cl,.slice on lits.length cn,c3,c4,c5,c6,c7,c8] 57 (0,0))):=zh (aX _ _ _ rfl);have K1:=zh k1;clear k1;generalize w.alloc (.cells #[c0,.slice ol lits.length cl,.slice on lits.length cn,c3,c4,c5,c6,c7,c8] 57)=w1 at *;generalize w.heap.size=b5 at *;have x1:=cell_of_heap (o:=1) fM.out rfl;have x2:=cell_of_heap (o:=2) fM.out rfl;have xl:=lt_of_heap fM.out;go_wp2;go_loopw [8,7] (fun s u wr=>∃k:Nat,k≤lits.length∧s= .int .i64 k∧jE w wr w1.heap.size u ((lits.take k).map (rV all))∧Keep au w1 wr) (fun s _ _=>(lits.length-intOf s).toNat)
 case atStart=>exact⟨0,om,rfl,jE.nil _ _ _,kp⟩
 obtain⟨k,hk,rfl,hou,hkr⟩:=hrel;have kN:=zh hou;have KR:=zh hkr;have x1r:=(hkr.cell xl).trans x1;have x2r:=(hkr.cell xl).trans x2;have xlr:=dJ xl hkr.size;obtain⟨o7,c7',hv7,_⟩:=hou.len;rw [List.length_map,List.length_take,Nat.min_eq_left hk]at hv7;subst hv7;clear hou hkr;by_cases hkl:k<lits.length
 case neg=>
  have hlt:¬(k:Int)<(lits.length:Int):=om;obtain rfl:lits.length=k:=om;rw [List.take_of_length_le (Nat.le_refl _)]at kN;have C:=zh (CT.out wr _ (K1.out.both KR.out) (kN.out.rows (K1.out.both KR.out)));clear CT kN;go_wp2_with fail;refine C.out.mono ?_;rintro e wz ⟨rfl,hk⟩;have KZ:Hid (Keep au w wz):=zh ((K1.out.both KR.out).both (Keep.trans kp hk fun _ _ _ h=>h));clear hk C;go_wp2;go_ret;exact⟨rfl,KZ.out⟩
 have hlt:(k:Int)<(lits.length:Int):=om;have hkn:k<nums.length:=by rw [Cz.out];exact hkl
 obtain⟨bl,ofl,cl',hv,hbl,p0⟩:=HL.out.at hkl;injection hv with q1 q2 q3;clear q2;subst q1;subst q3;obtain⟨bn,ofn,rfl,hbn,n0,n1⟩:=HF.out.at hkn;have hall:=K1.out.both KR.out;have p0:=(hall.cell hbl).trans p0;have NZ:=dJ hbl hall.size;have N0:=zh ((hall.cell hbn).trans n0);have N1:=zh ((hall.cell hbn).trans n1);have zaM:=dJ hbn hall.size;obtain⟨hl0,hl1⟩:=nM.out _ (List.getElem_mem hkl);have Es:Hid ((lits.take (k+1)).map (rV all)=(lits.take k).map (rV all)++ [rV all lits[k]]):=zh (by rw [List.take_succ_eq_append_getElem hkl,List.map_append];rfl);have C:=zh (CR.out wr lits[k] hall hl0 hl1);have HFK:=zc3.out _ (List.getElem_mem hkn);have CF:=zh (fun w'=>sO (nums[k]).N (nums[k]).D w');rw [decide_eq_true HFK]at CF;clear n0 n1 hall hl0 hl1 HFK;generalize lits[k]=l at *;generalize nums[k]=g at *;generalize rV all l=r at *;obtain⟨oN,rk,rt⟩:=r;simp only at C;go_wp2_with fail;refine C.out.mono ?_;rintro e w3 ⟨os,cs,rfl,hrow,hk3⟩;have k3:Keep au wr w3:=Keep.trans kp hk3 fun _ _ _ h=>h;have ka:Keep au w3 (w3.alloc (.cells #[.slice os oN.length cs,.int .i64 rk,.int .i64 rt] nN)):=(Keep.refl _ _).alloc _;have xZ:Hid (aL (w3.alloc (.cells #[.slice os oN.length cs,.int .i64 rk,.int .i64 rt] nN)) w3.heap.size #[.slice os oN.length cs,.int .i64 rk,.int .i64 rt]):=zh (aP _ _ rfl);have VP:=zh hrow;have K4:=zh (k3.both ka);have HXX:=zh (And.intro x1r (And.intro x2r xlr));clear hk3 k3 ka hrow C p0 x1r x2r;go_upto_region 8 with fail;generalize w3.alloc (.cells #[.slice os oN.length cs,.int .i64 rk,.int .i64 rt] nN)=w4 at *;generalize w3.heap.size=b9 at *;have x2r:=(K4.out.cell HXX.out.2.2).trans HXX.out.2.1;have x1r:=(K4.out.cell HXX.out.2.2).trans HXX.out.1;have xl4:=dJ HXX.out.2.2 K4.out.size;have n0:=(K4.out.cell zaM).trans N0.out;have n1:=(K4.out.cell zaM).trans N1.out;have hbn4:=dJ zaM K4.out.size;go_wp2_with fail;refine(CF.out _).mono ?_;rintro e w5 ⟨rfl,hk5⟩;have k5:Keep au w4 w5:=Keep.trans kp hk5 fun _ _ _ h=>h;have xZ:=zh (xZ.out.keep k5);have kb:Keep au w5 (w5.alloc (.cells #[.slice os oN.length cs,.int .i64 rk,.int .i64 rt] nN)):=(Keep.refl _ _).alloc _;have K6:=zh ((K4.out.both k5).both kb);have KW:=zh ((K1.out.both KR.out).both K6.out);obtain⟨y0,y1,y2,_,_,_,yl⟩:=xZ.out.three;clear hk5 k5 n0 n1 hbn4 x1r x2r xl4 CF;obtain⟨sv,hsv,hrw⟩:=VP.out;injection hsv with hsv;injection hsv with hsv;injection hsv with hsv _;subst hsv;obtain⟨v7,w7,hr7,ho7,hg7⟩:=Lj (r:=⟨oN,rk,rt⟩) (kN.out.keep K6.out) (b:=w5.heap.size) (sv:= .slice os oN.length cs) (aP _ _ rfl) hrw (by rw [List.length_map,List.length_take];omega) (Nat.le_trans KR.out.size K6.out.size);have FM:=zh ho7;have K7:=zh ((KR.out.both K6.out).grown hg7 fun k hk=>kN.out.block k hk);clear ho7 hg7 hrw kb;go_wp2_with (at_builtin;refine aY _ _ 22 _ _ rfl rfl rfl rfl hr7 ?_);go_roundw
 case rel=>exact⟨k+1,om,gn,by rw [Es.out];exact FM.out,K7.out⟩
 simp [intOf];omega
end Go.Proofs.YtaiffmebphhdaaaGreat
