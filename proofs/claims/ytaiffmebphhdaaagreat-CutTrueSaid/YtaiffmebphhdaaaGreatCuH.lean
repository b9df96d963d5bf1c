/- Package cut: sortStep. -/
import Derived.Test.YtaiffmebphhdaaaGreatCuGG
import Derived.Test.YtaiffmebphhdaaaGreatCuGG
import Derived.Test.YtaiffmebphhdaaaGreatCuAA
import Derived.Test.YtaiffmebphhdaaaGreatLongCC
namespace Go.Proofs.YtaiffmebphhdaaaGreat
set_option maxRecDepth 100000
set_option maxHeartbeats 16000000
set_option linter.unusedSimpArgs false
set_option linter.unusedVariables false
open Go.ChangeShapes Go.WideShapes Go.RowKit
open Go.Sort hiding Below
theorem Ri (W:World)(bx bs bl ol cl n a b:Nat)(x y:Int)(hbx:W.cell? ⟨bx,0,none⟩=some (.pointer (some ⟨bs,0,none⟩)))(lx:bx<W.heap.size)(hbs:W.cell? ⟨bs,1,none⟩=some (.slice (some ⟨bl,ol,none⟩) n cl))(ls:bs<W.heap.size)(ha:W.cell? ⟨bl,ol+a,none⟩=some (.int .i64 x))(hb:W.cell? ⟨bl,ol+b,none⟩=some (.int .i64 y))(ll:bl<W.heap.size)(han:a<n)(hbn:b<n)(hn:n≤1000)(hx:x.natAbs≤1000000)(hy:y.natAbs≤1000000):
  Calls Tryz.prog 124 #[.int .i64 (a:Int),.int .i64 (b:Int),.pointer (some ⟨bx,0,none⟩)] W fun e w'=>e= .returned (.int .i64 (y-x))∧∃q,w'=W.drewN q:=by
 have h1:(a:Int)<(n:Int):=om;have h2:(b:Int)<(n:Int):=om;go_enter Tryz.func124,Tryz.ntmps124;go_wp2;go_quiet (fail);go_wp2;refine bodyPost_ret (by simp [results,Tryz.results124,go_sem];rfl) rfl ?_;exact⟨rfl,_,rfl⟩
theorem Av (x:Int × Fq):∀l,(Cy x l).Perm (x::l)
 | []=>List.Perm.refl _
 | y::l=>by
  unfold Cy;split
  ·exact ((Av x l).cons y).trans (List.Perm.swap x y l)
  exact List.Perm.refl _
theorem ko:∀l,(cO l).Perm l
 | []=>List.Perm.refl _
 | x::l=>(Av x _).trans ((ko l).cons x)
theorem BK (x:Int × Fq):∀l,l.Pairwise (fun a b=>b.1≤a.1)→(Cy x l).Pairwise fun a b=>b.1≤a.1
 | [],_=>by simp [Cy]
 | y::l,h=>by
  rw [List.pairwise_cons]at h;unfold Cy;split
  ·refine List.pairwise_cons.2 ⟨fun z hz=> ?_,BK x l h.2⟩;rcases List.mem_cons.1 ((Av x l).mem_iff.1 hz)with rfl | hz
   ·omega
   exact h.1 z hz
  refine List.pairwise_cons.2 ⟨fun z hz=> ?_,List.pairwise_cons.2 h⟩;rcases List.mem_cons.1 hz with rfl | hz
  ·omega
  have:=h.1 z hz;omega
theorem sP:∀l,(cO l).Pairwise fun a b=>b.1≤a.1
 | []=>by simp [cO]
 | x::l=>BK x _ (sP l)
theorem Rj {P:List (Int × Fq)}(h:(P.map (·.1)).Nodup){a b:Int × Fq}(ha:a∈P)(hb:b∈P)(e:a.1=b.1):a=b:=by
 obtain⟨i,hi,rfl⟩:=List.getElem_of_mem ha;obtain⟨j,hj,rfl⟩:=List.getElem_of_mem hb;have hp:=List.pairwise_map.1 (List.nodup_iff_pairwise_ne.1 h);rcases Nat.lt_trichotomy i j with h1 | h1 | h1
 ·exact absurd e (List.pairwise_iff_getElem.1 hp i j hi hj h1)
 ·subst h1;rfl
 exact absurd e.symm (List.pairwise_iff_getElem.1 hp j i hj hi h1)
theorem UN {P m:List (Int × Fq)}(hnd:(P.map (·.1)).Nodup)(h:m.Perm P)(hs:m.Pairwise fun a b=>b.1≤a.1):m=cO P:=
 List.Perm.eq_of_pairwise (fun a b ha hb h1 h2=>Rj hnd (h.mem_iff.1 ha) ((ko P).mem_iff.1 hb) om) hs (sP P) (h.trans (ko P).symm)
theorem Kc {lits:List Int}{nums:List Fq}{p:List Nat}(hl:nums.length=lits.length)(hnd:lits.Nodup)(hp:p.Perm (List.range lits.length))(hs:(p.map fun i=>lits.getD i 0).Pairwise fun a b=>b≤a):(p.map fun i=>(lits.getD i 0,nums.getD i ⟨0,0⟩))=cO (lits.zip nums):=by
 have hz:(List.range lits.length).map (fun i=>(lits.getD i 0,nums.getD i ⟨0,0⟩))=lits.zip nums:=by
  apply List.ext_getElem
  ·simp [hl]
  intro i h1 h2;have h3:i<lits.length:=by simpa using h1
  simp [h3,hl]
 refine UN ?_ ?_ ?_
 ·have:(lits.zip nums).map (·.1)=lits:=List.map_fst_zip om;rw [this];exact hnd
 ·rw [← hz];exact hp.map _
 rw [List.pairwise_map]at hs ⊢;exact hs
def qV (n k:Nat):List Int:=(List.range n).map fun j=>if j<k then(j:Int)else 0
theorem rJ (n k:Nat):(qV n k).length=n:=by simp [qV]
theorem UO {n k:Nat}(h:k<n):(qV n k).set k (k:Int)=qV n (k+1):=by
 apply List.ext_getElem
 ·simp [qV]
 intro i h1 h2;have hi:i<n:=by simpa [qV]using h2
 rw [List.getElem_set];simp only [qV,List.getElem_map,List.getElem_range];by_cases hk:k=i
 ·subst hk;simp
 rw [if_neg hk];by_cases hik:i<k
 ·rw [if_pos hik,if_pos om]
 rw [if_neg hik,if_neg om]
theorem Rl (n:Nat):qV n 0=List.replicate n 0:=by
 apply List.ext_getElem
 ·simp [qV]
 intro i h1 h2;simp [qV]
def FX (n:Nat)(i:Fin n):Value:= .int .i64 (i.1:Int)
def cfF (lits:List Int)(n:Nat)(a b:Fin n):Int:=lits.getD b.1 0-lits.getD a.1 0
theorem ltF (lits:List Int)(n:Nat)(a b:Fin n):ltOf (cfF lits n) a b=decide (lits.getD b.1 0<lits.getD a.1 0):=by
 unfold ltOf cfF;exact decide_eq_decide.2 om
theorem zcP (lits:List Int)(n:Nat):SWO (ltOf (cfF lits n))where
 irrefl x:=by rw [ltF];simp
 trans x y z h1 h2:=by rw [ltF]at *;simp only [decide_eq_true_eq]at *;omega
 ntrans x y z h1 h2:=by rw [ltF]at *;simp only [decide_eq_false_iff_not]at *;omega
theorem rM {w w':World}{c i:Nat}(h:w'.heap[c]? =w.heap[c]?):w'.cell? ⟨c,i,none⟩=w.cell? ⟨c,i,none⟩:=by
 unfold World.cell?;simp only [h]
theorem Pm {α:Type}(d:Array α){n:Nat}(h:d.size=n):d.extract 0 n=d:=by subst h;simp
theorem Ke (w0 w:World)(b cap n bx bs bl ol cl:Nat)(lits:List Int)(k0:Keep au w0 w)(hn:lits.length=n)(h0:0<n)(h:bD w w0.heap.size (.slice (some ⟨b,0,none⟩) n cap) (qV n n))
  (hbx:w.cell? ⟨bx,0,none⟩=some (.pointer (some ⟨bs,0,none⟩))) (lx:bx<w.heap.size) (nx:bx≠b) (hbs:w.cell? ⟨bs,1,none⟩=some (.slice (some ⟨bl,ol,none⟩) n cl)) (ls:bs<w.heap.size) (ns:bs≠b) (hl:∀i,i<n→w.cell? ⟨bl,ol+i,none⟩=some (.int .i64 (lits.getD i 0))) (ll:bl<w.heap.size) (nl:bl≠b) (hl2:n≤1000) (hx:∀x∈lits,x.natAbs≤1000000):
  Calls Tryz.prog 97 #[.slice (some ⟨b,0,none⟩) n cap,.func (.func 124) #[] #[.pointer (some ⟨bx,0,none⟩)]] w fun e w'=>e= .returned (.tuple #[])∧(∃p:List Nat,p.Perm (List.range n)∧(p.map fun i=>lits.getD i 0).Pairwise (fun a b=>b≤a)∧bD w' w0.heap.size (.slice (some ⟨b,0,none⟩) n cap) (p.map fun(i:Nat)=>(i:Int)))∧Keep au w0 w':=by
 obtain⟨m,rfl⟩:∃m,n=m+1:=⟨n-1,om⟩;have eg:∀args w,(callFunc 124 args).run Tryz.prog w= .ok (.enter 124 args) w:=enters_of Tryz.func124 kr rfl;let d:Array (Fin (m+1)):=(List.ofFn fun i:Fin (m+1)=>i).toArray
 have hds:d.size=m+1:=by simp [d]
 have hdl:d.toList.map (fun i=>i.1)=List.range (m+1):=by
  apply List.ext_getElem
  ·simp [d]
  intro i h1 h2;simp only [d,List.getElem_map,List.getElem_ofFn,List.getElem_range]
 have hol:=rJ (m+1) (m+1);have hdi:∀i (hi:i<(qV (m+1) (m+1)).length),FX (m+1) d[i]! = .int .i64 (qV (m+1) (m+1))[i]:=fun i hi=>by
  have hi':i<m+1:=om;rw [getElem!_pos d i om];simp [d,FX,qV,hi']
 have h':bD w w0.heap.size (.slice (some ⟨b,0,none⟩) (qV (m+1) (m+1)).length cap) (qV (m+1) (m+1)):=by rw [hol];exact h
 have hlt:b<w.heap.size:=by
  obtain⟨A,hA⟩:=gF h (b:=b) rfl;exact lt_of_heap hA
 have hb:w0.heap.size≤b:=bD.block h b rfl;have hcr:CmpReads Tryz.prog 124 #[.pointer (some ⟨bx,0,none⟩)] (FX (m+1)) (cfF lits (m+1)) b 0 d.size w:=fun q os dk hs x y=>by
  have e1:=yR (enc:=FX (m+1)) (n:=q) (d:=dk) (os:=os) lx nx;have e2:=yR (enc:=FX (m+1)) (n:=q) (d:=dk) (os:=os) ls ns;have e3:=yR (enc:=FX (m+1)) (n:=q) (d:=dk) (os:=os) ll nl;have sz:=Pn (enc:=FX (m+1)) (w:=w) (blk:=b) (n:=q) (d:=dk) (os:=os);have hxb:∀i,(lits.getD i 0).natAbs≤1000000:=fun i=>by
   by_cases hi:i<lits.length
   ·rw [dX,fG hi];exact hx _ (List.getElem_mem hi)
   rw [dX,List.getElem?_eq_none om];decide
  exact Ri _ bx bs bl ol cl (m+1) x.1 y.1 _ _ ((rM e1).trans hbx) om ((rM e2).trans hbs) om ((rM e3).trans (hl x.1 x.2)) ((rM e3).trans (hl y.1 y.2)) om x.2 y.2 hl2 (hxb _) (hxb _)
 have hcon:=Any.slices_SortFunc Po (FX (m+1)) (fun _=>rfl) (cfF lits (m+1)) (zcP lits (m+1)) 124 #[.pointer (some ⟨bx,0,none⟩)] b 0 cap d w eg hcr.lays (Gy h' (by rw [hds,hol]) hdi) hlt om;rw [hds]at hcon;refine hcon.mono ?_;rintro e w' ⟨rfl,d',n,os,hp,hs,rfl⟩;obtain⟨p1,p2,p3⟩:=hp;have hps:d'.size=m+1:=by rw [p1,hds]
 have hpp:(d'.toList.map fun i=>i.1).Perm (List.range (m+1)):=by
  rw [← hdl];refine List.Perm.map _ ?_;rw [Pm d' hps,Pm d hds]at p3;exact p3
 refine⟨rfl,⟨d'.toList.map fun i=>i.1,hpp,?_,?_⟩,(k0.grown Kg fun k hk=>by cases hk;exact hb)⟩
 ·rw [List.map_map,List.pairwise_map,List.pairwise_iff_getElem];intro i j hi hj hij;have hi':i<d'.size:=by simpa using hi
  have hj':j<d'.size:=by simpa using hj
  have:=hs i j (Nat.zero_le _) hij om;rw [ltF,getElem!_pos d' i hi',getElem!_pos d' j hj',decide_eq_false_iff_not]at this;simp only [Array.getElem_toList,Function.comp_apply];omega
 have hsl:((d'.toList.map fun i=>i.1).map fun(i:Nat)=>(i:Int)).length=(qV (m+1) (m+1)).length:=by simp [hps,qV]
 have:=Ei (n:=n) (os:=os) (enc:=FX (m+1)) (d:=d') (ys:=(d'.toList.map fun i=>i.1).map fun(i:Nat)=>(i:Int)) h' (by rw [hps,hol]) hsl fun i hi=>by
  rw [getElem!_pos d' i (by rw [hps];rw [hsl,hol]at hi;exact hi)];unfold FX;congr 1;simp
 rwa [hsl,hol]at this
theorem uV {w:World}{base:Nat}{v:Value}{xs:List Int}(h:bD w base v xs)(h0:xs≠ []):∃b c,v= .slice (some ⟨b,0,none⟩) xs.length c∧base≤b∧b<w.heap.size∧∀i,i<xs.length→w.cell? ⟨b,i,none⟩=some (.int .i64 (xs.getD i 0)):=by
 obtain⟨hl0,h | ⟨g,cap,cur,hv,hb,hg,hl',hm,hs,ht⟩⟩:=h
 ·exact absurd (List.eq_nil_of_length_eq_zero h.2) h0
 refine⟨g,cap,hv,hb,lt_of_heap hg,fun i hi=> ?_⟩;have h1:(iv xs)[i]? =some (.int .i64 xs[i]):=by simp [iv,hi]
 rw [← ht,List.getElem?_take]at h1;rw [if_pos (by simpa using hi)]at h1;rw [dX,fG hi];exact cell_of_heap hg (by simpa using h1)
theorem Rm {w:World}{base:Nat}{v:Value}{xs:List Fq}(h:pK w base v xs)(h0:xs≠ []):∃b c,v= .slice (some ⟨b,0,none⟩) xs.length c∧base≤b∧b<w.heap.size∧∀i,i<xs.length→w.cell? ⟨b,i*2,none⟩=some (.int .i64 (xs.getD i ⟨0,0⟩).N)∧w.cell? ⟨b,i*2+1,none⟩=some (.int .i64 (xs.getD i ⟨0,0⟩).D):=by
 obtain⟨b,c,hv,hb,hlt,hc⟩:=dR.cells II h h0;refine⟨b,c,hv,hb,hlt,fun i hi=> ?_⟩;have e:xs.getD i ⟨0,0⟩=xs[i]:=by rw [dX,fG hi];rfl
 rw [e];have h1:=hc i xs[i] (fG hi) 0 _ rfl;have h2:=hc i xs[i] (fG hi) 1 _ rfl;exact⟨by simpa using h1,by simpa using h2⟩
def pvH (vA vB vS vN:Value)(bx bs:Nat)(i x:Int)(aI aF:Addr)(N D:Int):Nat→Value→Prop
 | 0,v=>v=vA
 | 1,v=>v= .pointer (some ⟨bs,0,none⟩)
 | 2,v=>v= .pointer (some ⟨bs,0,none⟩)
 | 3,v=>v= .pointer (some ⟨bs,1,none⟩)
 | 4,v=>v=vS
 | 5,v=>v= .int .i64 i
 | 6,v=>v= .pointer (some aI)
 | 7,v=>v= .int .i64 x
 | 10,v=>v=vB
 | 11,v=>v= .pointer (some ⟨bs,0,none⟩)
 | 12,v=>v= .pointer (some ⟨bs,0,none⟩)
 | 13,v=>v= .pointer (some ⟨bs,2,none⟩)
 | 14,v=>v=vN
 | 15,v=>v= .int .i64 i
 | 16,v=>v= .pointer (some aF)
 | 17,v=>v= .agg #[.int .i64 N,.int .i64 D]
 | _,_=>True
theorem IJ (w0 w:World)(bs n:Nat)(vl vn x0 x3 x4 x5 x6 x7 x8:Value)(lits:List Int)(nums:List Fq)(k0:Keep au w0 w)(hbs:w0.heap.size≤bs)(hB:w.heap[bs]? =some (.cells #[x0,vl,vn,x3,x4,x5,x6,x7,x8] sD (0,0)))(hl:bD w w0.heap.size vl lits)(hn:pK w w0.heap.size vn nums)
  (e1:lits.length=n) (e2:nums.length=n) (h0:0<n) (hn2:n≤1000) (hx:∀x∈lits,x.natAbs≤1000000) (hnd:lits.Nodup):
  Calls Tryz.prog 89 #[.pointer (some ⟨bs,0,none⟩)] w fun e w'=>e= .returned (.tuple #[])∧∃UA vn',Keep au w0 w'∧w'.heap[bs]? =some (.cells #[x0,UA,vn',x3,x4,x5,x6,x7,x8] sD (0,0))∧bD w' w0.heap.size UA ((cO (lits.zip nums)).map (·.1))∧pK w' w0.heap.size vn' ((cO (lits.zip nums)).map (·.2)):=by
 obtain⟨bl,cl,rfl,gl,ll,hcl⟩:=uV hl (by intro e;rw [e]at e1;simp at e1;omega);obtain⟨bn,cn,rfl,gn,ln,hcn⟩:=Rm hn (by intro e;rw [e]at e2;simp at e2;omega);rw [e1]at hB hl hcl;rw [e2]at hB hn hcn;have aQ:=zh hcl;have HCN:=zh hcn;have K0:=zh k0;have FU:=zh e1;have HE2:=zh e2;have HX:=zh hx;have Rn:=zh hnd;have HGS:=zh hbs;have HB0:=zh hB;have lS:=lt_of_heap hB;clear hcl hcn k0 e1 e2 hx hnd hbs hl hn hB gl gn;go_enter Tryz.func89,Tryz.ntmps89;go_upto_region 1 with fail;have k1:Keep au w (w.alloc (.cells #[.pointer (some ⟨bs,0,none⟩)] 147)):=(Keep.refl _ _).alloc _;have hX1:(w.alloc (.cells #[.pointer (some ⟨bs,0,none⟩)] 147)).heap[w.heap.size]? =some (.cells #[.pointer (some ⟨bs,0,none⟩)] 147 (0,0)):=aX _ _ _ rfl;have HX1:=zh hX1;have K1:=zh k1;have lS1:=dJ lS k1.size;have ll1:=dJ ll k1.size;have ln1:=dJ ln k1.size;have lX:=lt_of_heap hX1;have HB1:Hid ((w.alloc (.cells #[.pointer (some ⟨bs,0,none⟩)] 147)).heap[bs]? =_):=zh ((k1.block bs lS fun _ h=>h).trans HB0.out);have zas:=zh (fun i hi=>(k1.cell ll).trans (aQ.out i hi));have zat:=zh (fun i hi=>And.intro ((k1.cell ln).trans (HCN.out i hi).1) ((k1.cell ln).trans (HCN.out i hi).2));have mM:Hid (w.heap.size≠bs):=zh om;have HKB:Hid (Keep au w0 (w.alloc (.cells #[.pointer (some ⟨bs,0,none⟩)] 147))):=zh (K0.out.both k1);clear k1 hX1 HB0 aQ HCN K0 K1;generalize w.alloc (.cells #[.pointer (some ⟨bs,0,none⟩)] 147)=w1 at *;obtain⟨bx,hbx⟩:∃bx,w.heap.size=bx:=⟨_,rfl⟩;rw [hbx]at HX1 lX mM ⊢;clear hbx ll ln lS;have xB:=cell_of_heap (o:=0) HX1.out rfl;have x1:=cell_of_heap (o:=1) HB1.out rfl;have x2:=cell_of_heap (o:=2) HB1.out rfl;obtain⟨w2,hr2,ho2,hk2⟩:=Aw w1 n om;have K2:=zh hk2;have uF:=zh (show bD w2 w1.heap.size (.slice (some ⟨w1.heap.size,0,none⟩) n n) (qV n 0) by rw [Rl];exact ho2);obtain⟨bo,hbo⟩:∃bo,w1.heap.size=bo:=⟨_,rfl⟩;have FK:=zh hbo;clear ho2 hk2;have hr2':(Instr.makeSlice 38 (.int .i64 (n:Int)) (.int .i64 (n:Int))).run Tryz.prog w1= .ok (.slice (some ⟨bo,0,none⟩) n n) w2:=by rw [← hbo];exact hr2
 clear hr2 hbo;have XB:=zh xB;have X1:=zh x1;have X2:=zh x2;go_wp2;go_loopw [16] (fun s wr=>∃k:Nat,k≤n∧s= .int .i64 k∧Keep au w1 wr∧bD wr w1.heap.size (.slice (some ⟨bo,0,none⟩) n n) (qV n k)) (fun s _=>(n-intOf s).toNat)
 case atStart=>exact⟨0,om,rfl,K2.out,by rw [← FK.out]at *;exact uF.out⟩
 obtain⟨k,hk,rfl,hkr,hor⟩:=hrel;have KR:=zh hkr;have Yi:=zh hor;obtain⟨Ao,hAo⟩:=gF hor (b:=bo) rfl;clear hkr hor;by_cases hkn:k<n
 case pos=>
  have hlt:(k:Int)<(n:Int):=om;obtain⟨b',c',hv,_,_,hcc⟩:=uV Yi.out (by intro e;have:=congrArg List.length e;rw [rJ]at this;simp at this;omega);injection hv with q1 q2 q3;clear q2 q3;injection q1 with q1;injection q1 with q1;subst q1;have m0:=hcc k (by rw [rJ];exact hkn);have m1:=aL.free (A:=Ao) ⟨_,hAo⟩ k;have m2:=lt_of_heap hAo;have Gz:=zh (bD.set (xs:=qV n k) (c:=n) (by rw [rJ];exact Yi.out) (i:=k) (by rw [rJ];exact hkn) (k:Int));clear hcc;go_wp2;go_roundw
  case rel=>exact⟨k+1,om,by go_num,iC KR.out _ (by rw [FK.out];exact Nat.le_refl _),by have:=Gz.out;rw [rJ,UO hkn]at this;exact this⟩
  simp [intOf];omega
 have hlt:¬(k:Int)<(n:Int):=om;obtain rfl:n=k:=om;have sz1:=KR.out.size;have CS:=zh (Ke w1 wr bo n n bx bs bl 0 cl lits KR.out FU.out h0 Yi.out ((KR.out.cell lX).trans XB.out) om (by have:=FK.out;omega) ((KR.out.cell lS1).trans X1.out) om (by have:=FK.out;omega) (fun i hi=>by rw [Nat.zero_add];exact(KR.out.cell ll1).trans (zas.out i hi)) om (by have:=FK.out;omega) hn2 HX.out);clear hAo;go_wp2_with fail;refine CS.out.mono ?_;rintro e w3 ⟨rfl,⟨p,hp1,hp2,hp3⟩,hk3⟩;have HP:=zh (Kc (nums:=nums) (by have:=FU.out;have:=HE2.out;omega) Rn.out (by rw [FU.out];exact hp1) hp2);have HPM:Hid (∀i∈p,i<n):=zh fun i hi=>List.mem_range.1 (hp1.mem_iff.1 hi);have Nl:Hid (p.length=n):=zh (by have:=hp1.length_eq;rw [List.length_range]at this;exact this);obtain⟨b',c',hv,_,lo,hcc⟩:=uV hp3 (by intro e;have:=congrArg List.length e;rw [List.length_map,Nl.out]at this;simp at this;omega);injection hv with q1 q2 q3;clear q2 q3;injection q1 with q1;injection q1 with q1;subst q1;have HCO:Hid (∀i (hi:i<p.length),w3.cell? ⟨bo,i,none⟩=some (.int .i64 (p[i]:Int))):=zh fun i hi=>by
  have:=hcc i (by rw [List.length_map];exact hi);rw [this,dX,List.getElem?_map,fG hi];rfl
 have K3:=zh hk3;have HB3:=zh ((hk3.block bs lS1 fun _ h=>h).trans HB1.out);have HX3:=zh ((hk3.block bx lX fun _ h=>h).trans HX1.out);have zcQ:=zh (fun i hi=>(hk3.cell ll1).trans (zas.out i hi));have zbw:=zh (fun i hi=>And.intro ((hk3.cell ln1).trans (zat.out i hi).1) ((hk3.cell ln1).trans (zat.out i hi).2));have zbx:=zh (HKB.out.both hk3);have sz3:=hk3.size;have lS3:=dJ lS1 sz3;have lX3:=dJ lX sz3;have ll3:=dJ ll1 sz3;have ln3:=dJ ln1 sz3;clear hp1 hp2 hp3 hk3 hcc Yi KR CS zas zat HKB HB1 HX1 XB X1 X2 xB x1 x2 sz1 sz3 lS1 lX ll1 ln1 K2 uF Rn;go_wp2;go_loopw [29,4,5] (fun s s4 s5 wr=>∃k:Nat,k≤n∧s= .int .i64 k∧Keep au w3 wr∧wr.ownsRow w3.heap.size TI 1 s4 k (iv ((p.map fun i=>lits.getD i 0).take k))∧wr.ownsRow w3.heap.size TF 2 s5 k (((p.map fun i=>nums.getD i ⟨0,0⟩).take k).flatMap Ud)) (fun s _ _ _=>(n-intOf s).toNat)
 case atStart=>exact⟨0,om,rfl,kp,World.ownsRow_nil _ _ _ _,World.ownsRow_nil _ _ _ _⟩
 obtain⟨k,hk,rfl,hkr,ha,hf⟩:=hrel;have yI:=zh hkr;obtain⟨o4,c4,rfl⟩:=dL ha;obtain⟨o5,c5,rfl⟩:=dL hf;have HA:=zh ha;have HF:=zh hf;clear hkr ha hf;by_cases hkn:k<n
 case pos=>
  have hlt:(k:Int)<(n:Int):=om;have hkp:k<p.length:=by rw [Nl.out];exact hkn
  have m0:=(yI.out.cell lo).trans (HCO.out k hkp);obtain⟨q,hq⟩:∃q,p[k]=q:=⟨_,rfl⟩;have FR:q<n:=by rw [← hq];exact HPM.out _ (List.getElem_mem hkp)
  have hqI:(q:Int)<(n:Int):=om;rw [hq]at m0;have HTA:Hid (iv ((p.map fun i=>lits.getD i 0).take (k+1))=iv ((p.map fun i=>lits.getD i 0).take k)++ [.int .i64 (lits.getD q 0)]):=zh (by
   rw [List.take_succ_eq_append_getElem (by rw [List.length_map];exact hkp),D9,List.getElem_map,hq];rfl)
  have HTF:Hid ((((p.map fun i=>nums.getD i ⟨0,0⟩).take (k+1)).flatMap Ud)=(((p.map fun i=>nums.getD i ⟨0,0⟩).take k).flatMap Ud)++ [.int .i64 (nums.getD q ⟨0,0⟩).N,.int .i64 (nums.getD q ⟨0,0⟩).D]):=zh (by
   rw [List.take_succ_eq_append_getElem (by rw [List.length_map];exact hkp),List.flatMap_append,List.getElem_map,hq];rfl)
  have xB:=zh (cell_of_heap (o:=0) HX3.out rfl);have x1:=zh (cell_of_heap (o:=1) HB3.out rfl);have x2:=zh (cell_of_heap (o:=2) HB3.out rfl);have xI:=zh (zcQ.out q FR);have xN:=zh (zbw.out q FR).1;have xD:=zh (zbw.out q FR).2;have Bz:=zh ((yI.out.block bx lX3 fun _ h=>h).trans HX3.out);clear hq;generalize lits.getD q 0=x at *;generalize nums.getD q ⟨0,0⟩=g at *;go_upto_region 13 with fail;refine jX (fun S σ w'=>kM w3 TI 1 k TF 2 k (.slice o4 k c4) (.slice o5 k c5) (iv ((p.map fun i=>lits.getD i 0).take k)) [.int .i64 x] (((p.map fun i=>nums.getD i ⟨0,0⟩).take k).flatMap Ud) [.int .i64 g.N,.int .i64 g.D] bx 147 (fun _ _=> #[.pointer (some ⟨bs,0,none⟩)]) bx (.cells #[.pointer (some ⟨bs,0,none⟩)] 147 (0,0)) (S 8) (S 9) (S 18) (S 19) false false (σ 8) (σ 9) (σ 18) (σ 19) w'∧(S 20=true→σ 20=σ 9)∧(S 21=true→σ 21=σ 19)) (fun S d v w=>pvH (.slice o4 k c4) (.slice o5 k c5) (.slice (some ⟨bl,0,none⟩) n cl) (.slice (some ⟨bn,0,none⟩) n cn) bx bs q x ⟨bl,q,none⟩ ⟨bn,q*2,none⟩ g.N g.D d v) kr kr kr kr (fun S σ hS=>⟨kM.start (hS 8) (hS 9) (hS 18) (hS 19) rfl rfl (⟨yI.out.size,yI.out,HA.out,HF.out,Bz.out,Bz.out⟩),fun h=>(by rw [hS 20]at h;cases h),fun h=>(by rw [hS 21]at h;cases h)⟩) _ (fun σ=>by
   show dA _ σ [0,1,2,3,4,5,6,7,8,9,10,11,12,13,14,15,16,17,18,19,20,21] _=_;simp only [dA,zl0,zl1,zl2,Act.put,List.setIfInBounds_toArray,List.set_cons_zero,List.set_cons_succ];rfl) ?_ ?_
  ·intro S σ wz hC hall e he HK;have he:e<22:=he;obtain rfl | rfl | rfl | rfl | rfl | rfl | rfl | rfl | rfl | rfl | rfl | rfl | rfl | rfl | rfl | rfl | rfl | rfl | rfl | rfl | rfl | rfl:e=0∨e=1∨e=2∨e=3∨e=4∨e=5∨e=6∨e=7∨e=8∨e=9∨e=10∨e=11∨e=12∨e=13∨e=14∨e=15∨e=16∨e=17∨e=18∨e=19∨e=20∨e=21:=om
   ·refine ay rfl rfl fun K hK=> ?_;go_simp;exact hK _ _ ⟨_,hC,fun d _ _ h=>h,rfl,HK.init 20 (HK.down 20 kr)⟩
   ·have m0:=(hC.1.k.cell lX3).trans xB.out;refine ay rfl rfl fun K hK=> ?_;go_simp;exact hK _ _ ⟨_,hC,fun d _ _ h=>h,rfl,rfl⟩
   ·have h1:σ 1= .pointer (some ⟨bs,0,none⟩):=HK.post 1 kr;rw [h1];refine ay rfl rfl fun K hK=> ?_;go_simp;exact hK _ _ ⟨_,hC,fun d _ _ h=>h,rfl,rfl⟩
   ·have h2:σ 2= .pointer (some ⟨bs,0,none⟩):=HK.post 2 kr;rw [h2];refine ay rfl rfl fun K hK=> ?_;go_simp;exact hK _ _ ⟨_,hC,fun d _ _ h=>h,rfl,rfl⟩
   ·have h3:σ 3= .pointer (some ⟨bs,1,none⟩):=HK.post 3 kr;rw [h3];have m0:=(hC.1.k.cell lS3).trans x1.out;refine ay rfl rfl fun K hK=> ?_;go_simp;exact hK _ _ ⟨_,hC,fun d _ _ h=>h,rfl,rfl⟩
   ·refine ay rfl rfl fun K hK=> ?_;go_simp;exact hK _ _ ⟨_,hC,fun d _ _ h=>h,rfl,rfl⟩
   ·have h4:σ 4=(.slice (some ⟨bl,0,none⟩) n cl):=HK.post 4 kr;rw [h4];have h5:σ 5= .int .i64 (q:Int):=HK.post 5 kr;rw [h5];refine ay rfl rfl fun K hK=> ?_;go_simp;exact hK _ _ ⟨_,hC,fun d _ _ h=>h,rfl,rfl⟩
   ·have h6:σ 6= .pointer (some ⟨bl,q,none⟩):=HK.post 6 kr;rw [h6];have m0:=(hC.1.k.cell ll3).trans xI.out;refine ay rfl rfl fun K hK=> ?_;go_simp;exact hK _ _ ⟨_,hC,fun d _ _ h=>h,rfl,rfl⟩
   ·have h7:σ 7= .int .i64 x:=HK.post 7 kr;rw [h7];refine ay rfl rfl fun K hK=> ?_;go_simp;exact hK _ _ ⟨_,⟨hC.1.buildA ((Keep.refl _ _).alloc _) (b:=wz.heap.size) (aP _ _ rfl) (Nat.le_refl _),hC.2⟩,fun d _ _ h=>h,rfl,trivial⟩
   ·obtain ⟨v',w2,hr,hc2⟩:=hC.1.appA Dl dc dc (fun A f h=>absurd (Obj.cells.inj h).2.1 dc) rfl (by intro u hu;simp at hu;subst hu;rfl) om (HK.up 8 kr) HK.self rfl;have h0:σ 0=(.slice o4 k c4):=HK.post 0 kr;rw [h0];refine ay rfl rfl fun K hK=> ?_;refine dM _ _ 38 _ _ rfl rfl rfl hr ?_;exact hK _ _ ⟨_,⟨hc2,fun h=>absurd (show S 20=true from h) (by rw [HK.down 20 kr];decide),hC.2.2⟩,fun d _ _ h=>h,rfl,trivial⟩
   ·refine ay rfl rfl fun K hK=> ?_;go_simp;exact hK _ _ ⟨_,hC,fun d _ _ h=>h,rfl,HK.init 21 (HK.down 21 kr)⟩
   ·have m0:=(hC.1.k.cell lX3).trans xB.out;refine ay rfl rfl fun K hK=> ?_;go_simp;exact hK _ _ ⟨_,hC,fun d _ _ h=>h,rfl,rfl⟩
   ·have h11:σ 11= .pointer (some ⟨bs,0,none⟩):=HK.post 11 kr;rw [h11];refine ay rfl rfl fun K hK=> ?_;go_simp;exact hK _ _ ⟨_,hC,fun d _ _ h=>h,rfl,rfl⟩
   ·have h12:σ 12= .pointer (some ⟨bs,0,none⟩):=HK.post 12 kr;rw [h12];refine ay rfl rfl fun K hK=> ?_;go_simp;exact hK _ _ ⟨_,hC,fun d _ _ h=>h,rfl,rfl⟩
   ·have h13:σ 13= .pointer (some ⟨bs,2,none⟩):=HK.post 13 kr;rw [h13];have m0:=(hC.1.k.cell lS3).trans x2.out;refine ay rfl rfl fun K hK=> ?_;go_simp;exact hK _ _ ⟨_,hC,fun d _ _ h=>h,rfl,rfl⟩
   ·refine ay rfl rfl fun K hK=> ?_;go_simp;exact hK _ _ ⟨_,hC,fun d _ _ h=>h,rfl,rfl⟩
   ·have h14:σ 14=(.slice (some ⟨bn,0,none⟩) n cn):=HK.post 14 kr;rw [h14];have h15:σ 15= .int .i64 (q:Int):=HK.post 15 kr;rw [h15];refine ay rfl rfl fun K hK=> ?_;go_simp;exact hK _ _ ⟨_,hC,fun d _ _ h=>h,rfl,rfl⟩
   ·have h16:σ 16= .pointer (some ⟨bn,q*2,none⟩):=HK.post 16 kr;rw [h16];have m0:=(hC.1.k.cell ln3).trans xN.out;have m1:=(hC.1.k.cell ln3).trans xD.out;refine ay rfl rfl fun K hK=> ?_;go_simp;exact hK _ _ ⟨_,hC,fun d _ _ h=>h,rfl,rfl⟩
   ·have h17:σ 17= .agg #[.int .i64 g.N,.int .i64 g.D]:=HK.post 17 kr;rw [h17];refine ay rfl rfl fun K hK=> ?_;go_simp;exact hK _ _ ⟨_,⟨hC.1.buildB ((Keep.refl _ _).alloc _) (b:=wz.heap.size) (aP _ _ rfl) (Nat.le_refl _),hC.2⟩,fun d _ _ h=>h,rfl,trivial⟩
   ·obtain ⟨v',w2,hr,hc2⟩:=hC.1.appB Pp dc dc rfl (by intro u hu;simp at hu;rcases hu with rfl | rfl<;>rfl) om (HK.up 18 kr) HK.self rfl;have h10:σ 10=(.slice o5 k c5):=HK.post 10 kr;rw [h10];refine ay rfl rfl fun K hK=> ?_;refine dM _ _ 25 _ _ rfl rfl rfl hr ?_;exact hK _ _ ⟨_,⟨hc2,hC.2.1,fun h=>absurd (show S 21=true from h) (by rw [HK.down 21 kr];decide)⟩,fun d _ _ h=>h,rfl,trivial⟩
   ·refine ay rfl rfl fun K hK=> ?_;go_simp;exact hK _ _ ⟨_,⟨hC.1,fun _=>rfl,hC.2.2⟩,fun d _ _ h=>h,rfl,trivial⟩
   refine ay rfl rfl fun K hK=> ?_;go_simp;exact hK _ _ ⟨_,⟨hC.1,hC.2.1,fun _=>rfl⟩,fun d _ _ h=>h,rfl,trivial⟩
  intro S σ w9 Ej hS hP;have hT:=Ej.1.done (hS 8 (show 8<22 from om)) (hS 9 (show 9<22 from om)) (hS 18 (show 18<22 from om)) (hS 19 (show 19<22 from om));obtain⟨oA,cA',UQ⟩:=dL hT.a;obtain⟨oB,cB',hvB⟩:=dL hT.b;have UU:σ 20=_:=(Ej.2.1 (hS 20 (show 20<22 from om))).trans UQ;have UW:σ 21=_:=(Ej.2.2 (hS 21 (show 21<22 from om))).trans hvB;rw [UU,UW];refine NoPanic.normal ?_;have K9:=zh hT.k;have Ue:Hid (w9.ownsRow w3.heap.size TI 1 (.slice oA (k+1) cA') (k+1) (iv ((p.map fun i=>lits.getD i 0).take (k+1)))):=zh (by rw [HTA.out,←UQ];exact hT.a);have HF9:Hid (w9.ownsRow w3.heap.size TF 2 (.slice oB (k+1) cB') (k+1) (((p.map fun i=>nums.getD i ⟨0,0⟩).take (k+1)).flatMap Ud)):=zh (by rw [HTF.out,←hvB];exact hT.b);clear hT UQ hvB UU UW hP hS Ej m0;go_wp2;go_roundw
  case rel=>exact⟨k+1,om,by go_num,K9.out,Ue.out,HF9.out⟩
  simp [intOf];omega
 have hlt:¬(k:Int)<(n:Int):=om;obtain rfl:n=k:=om;have hXr:=(yI.out.block bx lX3 fun _ h=>h).trans HX3.out;have hBr:=(yI.out.block bs lS3 fun _ h=>h).trans HB3.out;have HXr:=zh hXr;have HBr:=zh hBr;have lXr:=lt_of_heap hXr;have lSr:=lt_of_heap hBr;have c1:=cell_of_heap (o:=1) hBr rfl;have c2:=cell_of_heap (o:=2) hBr rfl;have f1:=aL.free (A:=_) ⟨_,hBr⟩ 1;have f2:=aL.free (A:=_) ⟨_,hBr⟩ 2;clear hXr hBr;go_upto_region 15 with fail;refine aD (fun w'=>Keep (ZR bs bs) wr w') [] [([0,1,2,3,4,5],6),([7,8],9)] [] kr kr (Keep.refl _ _).drew ?_;intro X W hne hF hcl;have aQ:=zh hcl;have z0:=fun x=>(rM (i:=0) ((hF x).block bx lXr fun o ho=>ho.elim (fun e=>mM.out e) (fun e=>mM.out e))).trans (cell_of_heap (o:=0) HXr.out rfl);have zl:=fun x=>dJ lXr (hF x).size;have zs:=fun x=>dJ lSr (hF x).size;clear hF hcl;simp only [aO,aJ,zl0,zl1,zl2,aR,Bool.false_eq_true,if_false]
 (repeat(quiet_step (fail)));refine wpQuiet_nil ?_
 refine ay rfl rfl fun K hK=> ?_;go_simp;have k6:Keep (ZR bs bs) wr (wr.setCell ⟨bs,1,none⟩ (.slice o4 n c4)).drew:=(Keep.setCell (Keep.refl _ _) _ (fun _=> .inl rfl)).drew;refine hK _ _ ⟨fun _=>aQ.out _ k6,?_⟩;clear hK
 (repeat(quiet_step (fail)));refine wpQuiet_nil ?_
 refine ay rfl rfl fun K hK=> ?_;go_simp;have k7:Keep (ZR bs bs) wr ((wr.setCell ⟨bs,1,none⟩ (.slice o4 n c4)).setCell ⟨bs,2,none⟩ (.slice o5 n c5)).drew:=(Keep.setCell (Keep.setCell (Keep.refl _ _) _ (fun _=> .inl rfl)) _ (fun _=> .inl rfl)).drew;refine hK _ _ ⟨fun _=>aQ.out _ k7,?_⟩;clear hK k6 k7 aQ
 (repeat(quiet_step (fail)));refine wpQuiet_nil ?_
 refine NoPanic.normal ?_;clear hne z0 zl zs W X;have hg0:w0.heap.size≤bs:=HGS.out;have hA:=HA.out;have hF:=HF.out;have hnA:(Value.slice o4 n c4).ownBlock≠some bs:=fun e=>by
  obtain⟨A,e1⟩:=gF hA e;rw [HBr.out]at e1;exact absurd (Obj.cells.inj (Option.some.inj e1)).2.1 dc
 have hnF:(Value.slice o5 n c5).ownBlock≠some bs:=fun e=>by
  obtain⟨A,e1⟩:=gF hF e;rw [HBr.out]at e1;exact absurd (Obj.cells.inj (Option.some.inj e1)).2.1 dc
 have HKE:Hid (Keep au w0 ((wr.setCell ⟨bs,1,none⟩ (.slice o4 n c4)).setCell ⟨bs,2,none⟩ (.slice o5 n c5)).drew):=zh (iC (iC (zbx.out.both yI.out) _ hg0) _ hg0).drew;have HPA:Hid (((p.map fun i=>lits.getD i 0).take n)=(cO (lits.zip nums)).map (·.1)):=zh (by
  rw [List.take_of_length_le (by rw [List.length_map,Nl.out];exact Nat.le_refl _),←HP.out,List.map_map];rfl)
 have HPF:Hid (((p.map fun i=>nums.getD i ⟨0,0⟩).take n)=(cO (lits.zip nums)).map (·.2)):=zh (by
  rw [List.take_of_length_le (by rw [List.length_map,Nl.out];exact Nat.le_refl _),←HP.out,List.map_map];rfl)
 have hle:w0.heap.size≤w3.heap.size:=zbx.out.size;have HAE:Hid (bD ((wr.setCell ⟨bs,1,none⟩ (.slice o4 n c4)).setCell ⟨bs,2,none⟩ (.slice o5 n c5)).drew w0.heap.size (.slice o4 n c4) ((cO (lits.zip nums)).map (·.1))):=zh (by
  have h1:=World.ownsRow_mono (fD (ownsRow_setCell_other (a:=⟨bs,2,none⟩) (ownsRow_setCell_other (a:=⟨bs,1,none⟩) hA hnA (.slice o4 n c4)) hnA (.slice o5 n c5)) ((Keep.refl au _).drew)) hle;rw [HPA.out]at h1;unfold bD;have e:((cO (lits.zip nums)).map (·.1)).length=n:=by rw [← HPA.out,List.length_take,List.length_map,Nl.out];omega
  rw [e];exact h1)
 have HFE:Hid (pK ((wr.setCell ⟨bs,1,none⟩ (.slice o4 n c4)).setCell ⟨bs,2,none⟩ (.slice o5 n c5)).drew w0.heap.size (.slice o5 n c5) ((cO (lits.zip nums)).map (·.2))):=zh (by
  have h1:=World.ownsRow_mono (fD (ownsRow_setCell_other (a:=⟨bs,2,none⟩) (ownsRow_setCell_other (a:=⟨bs,1,none⟩) hF hnF (.slice o4 n c4)) hnF (.slice o5 n c5)) ((Keep.refl au _).drew)) hle;rw [HPF.out]at h1;unfold pK dR;have e:((cO (lits.zip nums)).map (·.2)).length=n:=by rw [← HPF.out,List.length_take,List.length_map,Nl.out];omega
  rw [e];exact h1)
 have HBE:Hid (((wr.setCell ⟨bs,1,none⟩ (.slice o4 n c4)).setCell ⟨bs,2,none⟩ (.slice o5 n c5)).drew.heap[bs]? =some (.cells #[x0,.slice o4 n c4,.slice o5 n c5,x3,x4,x5,x6,x7,x8] sD (0,0))):=zh (heap_setCell_same _ _ (heap_setCell_same _ _ HBr.out));clear hA hF hnA hnF c1 c2 f1 f2 HA HF HBr HXr;go_wp2;go_end0;exact⟨rfl,HKE.out,_,_,HBE.out,HAE.out,HFE.out⟩
end Go.Proofs.YtaiffmebphhdaaaGreat
