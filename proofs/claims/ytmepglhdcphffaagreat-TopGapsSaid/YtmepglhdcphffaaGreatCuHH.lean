/- Package cut: sortStep. Package cut: refuted. -/
import Derived.Test.YtmepglhdcphffaaGreatCuGG
import Derived.Test.YtmepglhdcphffaaGreatCuAA
import Derived.Test.YtmepglhdcphffaaGreatLongCC
import Derived.Test.YtmepglhdcphffaaGreatExAA
import Derived.Test.YtmepglhdcphffaaGreatOwGG
namespace Go.Proofs.YtmepglhdcphffaaGreat
set_option maxRecDepth 100000
set_option maxHeartbeats 16000000
set_option linter.unusedSimpArgs false
set_option linter.unusedVariables false
open Go.ChangeShapes Go.WideShapes Go.RowKit
open Go.Sort hiding Below
theorem Tx (W:World)(bx bs bl ol cl n a b:Nat)(x y:Int)(hbx:W.cell? ⟨bx,0,none⟩=some (.pointer (some ⟨bs,0,none⟩)))(lx:bx<W.heap.size)(hbs:W.cell? ⟨bs,1,none⟩=some (.slice (some ⟨bl,ol,none⟩) n cl))(ls:bs<W.heap.size)(ha:W.cell? ⟨bl,ol+a,none⟩=some (.int .i64 x))(hb:W.cell? ⟨bl,ol+b,none⟩=some (.int .i64 y))(ll:bl<W.heap.size)(han:a<n)(hbn:b<n)(hn:n≤1000)(hx:x.natAbs≤1000000)(hy:y.natAbs≤1000000):
  Calls Tryz.prog 276 #[.int .i64 (a:Int),.int .i64 (b:Int),.pointer (some ⟨bx,0,none⟩)] W fun e w'=>e= .returned (.int .i64 (y-x))∧∃q,w'=W.drewN q:=by
 have h1:(a:Int)<(n:Int):=om;have h2:(b:Int)<(n:Int):=om;go_enter Tryz.func276,Tryz.ntmps276;go_wp2;go_quiet (fail);go_wp2;refine bodyPost_ret (by simp [results,Tryz.results276,go_sem];rfl) rfl ?_;exact⟨rfl,_,rfl⟩
theorem Ag (x:Int × Fq):∀l,(Oo x l).Perm (x::l)
 | []=>List.Perm.refl _
 | y::l=>by
  unfold Oo;split
  ·exact ((Ag x l).cons y).trans (List.Perm.swap x y l)
  exact List.Perm.refl _
theorem kJ:∀l,(gN l).Perm l
 | []=>List.Perm.refl _
 | x::l=>(Ag x _).trans ((kJ l).cons x)
theorem A9 (x:Int × Fq):∀l,l.Pairwise (fun a b=>b.1≤a.1)→(Oo x l).Pairwise fun a b=>b.1≤a.1
 | [],_=>by simp [Oo]
 | y::l,h=>by
  rw [List.pairwise_cons]at h;unfold Oo;split
  ·refine List.pairwise_cons.2 ⟨fun z hz=> ?_,A9 x l h.2⟩;rcases List.mem_cons.1 ((Ag x l).mem_iff.1 hz)with rfl | hz
   ·omega
   exact h.1 z hz
  refine List.pairwise_cons.2 ⟨fun z hz=> ?_,List.pairwise_cons.2 h⟩;rcases List.mem_cons.1 hz with rfl | hz
  ·omega
  have:=h.1 z hz;omega
theorem zk:∀l,(gN l).Pairwise fun a b=>b.1≤a.1
 | []=>by simp [gN]
 | x::l=>A9 x _ (zk l)
theorem Tz {P:List (Int × Fq)}(h:(P.map (·.1)).Nodup){a b:Int × Fq}(ha:a∈P)(hb:b∈P)(e:a.1=b.1):a=b:=by
 obtain⟨i,hi,rfl⟩:=List.getElem_of_mem ha;obtain⟨j,hj,rfl⟩:=List.getElem_of_mem hb;have hp:=List.pairwise_map.1 (List.nodup_iff_pairwise_ne.1 h);rcases Nat.lt_trichotomy i j with h1 | h1 | h1
 ·exact absurd e (List.pairwise_iff_getElem.1 hp i j hi hj h1)
 ·subst h1;rfl
 exact absurd e.symm (List.pairwise_iff_getElem.1 hp j i hj hi h1)
theorem XO {P m:List (Int × Fq)}(hnd:(P.map (·.1)).Nodup)(h:m.Perm P)(hs:m.Pairwise fun a b=>b.1≤a.1):m=gN P:=
 List.Perm.eq_of_pairwise (fun a b ha hb h1 h2=>Tz hnd (h.mem_iff.1 ha) ((kJ P).mem_iff.1 hb) om) hs (zk P) (h.trans (kJ P).symm)
theorem LK {lits:List Int}{nums:List Fq}{p:List Nat}(hl:nums.length=lits.length)(hnd:lits.Nodup)(hp:p.Perm (List.range lits.length))(hs:(p.map fun i=>lits.getD i 0).Pairwise fun a b=>b≤a):(p.map fun i=>(lits.getD i 0,nums.getD i ⟨0,0⟩))=gN (lits.zip nums):=by
 have hz:(List.range lits.length).map (fun i=>(lits.getD i 0,nums.getD i ⟨0,0⟩))=lits.zip nums:=by
  apply List.ext_getElem
  ·simp [hl]
  intro i h1 h2;have h3:i<lits.length:=by simpa using h1
  simp [h3,hl]
 refine XO ?_ ?_ ?_
 ·have:(lits.zip nums).map (·.1)=lits:=List.map_fst_zip om;rw [this];exact hnd
 ·rw [← hz];exact hp.map _
 rw [List.pairwise_map]at hs ⊢;exact hs
def qE (n k:Nat):List Int:=(List.range n).map fun j=>if j<k then(j:Int)else 0
theorem qY (n k:Nat):(qE n k).length=n:=by simp [qE]
theorem XP {n k:Nat}(h:k<n):(qE n k).set k (k:Int)=qE n (k+1):=by
 apply List.ext_getElem
 ·simp [qE]
 intro i h1 h2;have hi:i<n:=by simpa [qE]using h2
 rw [List.getElem_set];simp only [qE,List.getElem_map,List.getElem_range];by_cases hk:k=i
 ·subst hk;simp
 rw [if_neg hk];by_cases hik:i<k
 ·rw [if_pos hik,if_pos om]
 rw [if_neg hik,if_neg om]
theorem TA (n:Nat):qE n 0=List.replicate n 0:=by
 apply List.ext_getElem
 ·simp [qE]
 intro i h1 h2;simp [qE]
def Fg (n:Nat)(i:Fin n):Value:= .int .i64 (i.1:Int)
def cfF (lits:List Int)(n:Nat)(a b:Fin n):Int:=lits.getD b.1 0-lits.getD a.1 0
theorem ltF (lits:List Int)(n:Nat)(a b:Fin n):ltOf (cfF lits n) a b=decide (lits.getD b.1 0<lits.getD a.1 0):=by
 unfold ltOf cfF;exact decide_eq_decide.2 om
theorem zff (lits:List Int)(n:Nat):SWO (ltOf (cfF lits n))where
 irrefl x:=by rw [ltF];simp
 trans x y z h1 h2:=by rw [ltF]at *;simp only [decide_eq_true_eq]at *;omega
 ntrans x y z h1 h2:=by rw [ltF]at *;simp only [decide_eq_false_iff_not]at *;omega
theorem qZ {w w':World}{c i:Nat}(h:w'.heap[c]? =w.heap[c]?):w'.cell? ⟨c,i,none⟩=w.cell? ⟨c,i,none⟩:=by
 unfold World.cell?;simp only [h]
theorem QJ {α:Type}(d:Array α){n:Nat}(h:d.size=n):d.extract 0 n=d:=by subst h;simp
theorem LU (w0 w:World)(b cap n bx bs bl ol cl:Nat)(lits:List Int)(k0:Keep au w0 w)(hn:lits.length=n)(h0:0<n)(h:bC w w0.heap.size (.slice (some ⟨b,0,none⟩) n cap) (qE n n))
  (hbx:w.cell? ⟨bx,0,none⟩=some (.pointer (some ⟨bs,0,none⟩))) (lx:bx<w.heap.size) (nx:bx≠b) (hbs:w.cell? ⟨bs,1,none⟩=some (.slice (some ⟨bl,ol,none⟩) n cl)) (ls:bs<w.heap.size) (ns:bs≠b) (hl:∀i,i<n→w.cell? ⟨bl,ol+i,none⟩=some (.int .i64 (lits.getD i 0))) (ll:bl<w.heap.size) (nl:bl≠b) (hl2:n≤1000) (hx:∀x∈lits,x.natAbs≤1000000):
  Calls Tryz.prog 168 #[.slice (some ⟨b,0,none⟩) n cap,.func (.func 276) #[] #[.pointer (some ⟨bx,0,none⟩)]] w fun e w'=>e= .returned (.tuple #[])∧(∃p:List Nat,p.Perm (List.range n)∧(p.map fun i=>lits.getD i 0).Pairwise (fun a b=>b≤a)∧bC w' w0.heap.size (.slice (some ⟨b,0,none⟩) n cap) (p.map fun(i:Nat)=>(i:Int)))∧Keep au w0 w':=by
 obtain⟨m,rfl⟩:∃m,n=m+1:=⟨n-1,om⟩;have eg:∀args w,(callFunc 276 args).run Tryz.prog w= .ok (.enter 276 args) w:=enters_of Tryz.func276 kr rfl;let d:Array (Fin (m+1)):=(List.ofFn fun i:Fin (m+1)=>i).toArray
 have hds:d.size=m+1:=by simp [d]
 have hdl:d.toList.map (fun i=>i.1)=List.range (m+1):=by
  apply List.ext_getElem
  ·simp [d]
  intro i h1 h2;simp only [d,List.getElem_map,List.getElem_ofFn,List.getElem_range]
 have hol:=qY (m+1) (m+1);have hdi:∀i (hi:i<(qE (m+1) (m+1)).length),Fg (m+1) d[i]! = .int .i64 (qE (m+1) (m+1))[i]:=fun i hi=>by
  have hi':i<m+1:=om;rw [getElem!_pos d i om];simp [d,Fg,qE,hi']
 have h':bC w w0.heap.size (.slice (some ⟨b,0,none⟩) (qE (m+1) (m+1)).length cap) (qE (m+1) (m+1)):=by rw [hol];exact h
 have hlt:b<w.heap.size:=by
  obtain⟨A,hA⟩:=jh h (b:=b) rfl;exact lt_of_heap hA
 have hb:w0.heap.size≤b:=bC.block h b rfl;have hcr:CmpReads Tryz.prog 276 #[.pointer (some ⟨bx,0,none⟩)] (Fg (m+1)) (cfF lits (m+1)) b 0 d.size w:=fun q os dk hs x y=>by
  have e1:=yj (enc:=Fg (m+1)) (n:=q) (d:=dk) (os:=os) lx nx;have e2:=yj (enc:=Fg (m+1)) (n:=q) (d:=dk) (os:=os) ls ns;have e3:=yj (enc:=Fg (m+1)) (n:=q) (d:=dk) (os:=os) ll nl;have sz:=PE (enc:=Fg (m+1)) (w:=w) (blk:=b) (n:=q) (d:=dk) (os:=os);have hxb:∀i,(lits.getD i 0).natAbs≤1000000:=fun i=>by
   by_cases hi:i<lits.length
   ·rw [dV,eD hi];exact hx _ (List.getElem_mem hi)
   rw [dV,List.getElem?_eq_none om];decide
  exact Tx _ bx bs bl ol cl (m+1) x.1 y.1 _ _ ((qZ e1).trans hbx) om ((qZ e2).trans hbs) om ((qZ e3).trans (hl x.1 x.2)) ((qZ e3).trans (hl y.1 y.2)) om x.2 y.2 hl2 (hxb _) (hxb _)
 have hcon:=Any.slices_SortFunc Zn (Fg (m+1)) (fun _=>rfl) (cfF lits (m+1)) (zff lits (m+1)) 276 #[.pointer (some ⟨bx,0,none⟩)] b 0 cap d w eg hcr.lays (Rn h' (by rw [hds,hol]) hdi) hlt om;rw [hds]at hcon;refine hcon.mono ?_;rintro e w' ⟨rfl,d',n,os,hp,hs,rfl⟩;obtain⟨p1,p2,p3⟩:=hp;have hps:d'.size=m+1:=by rw [p1,hds]
 have hpp:(d'.toList.map fun i=>i.1).Perm (List.range (m+1)):=by
  rw [← hdl];refine List.Perm.map _ ?_;rw [QJ d' hps,QJ d hds]at p3;exact p3
 refine⟨rfl,⟨d'.toList.map fun i=>i.1,hpp,?_,?_⟩,(k0.grown Vn fun k hk=>by cases hk;exact hb)⟩
 ·rw [List.map_map,List.pairwise_map,List.pairwise_iff_getElem];intro i j hi hj hij;have hi':i<d'.size:=by simpa using hi
  have hj':j<d'.size:=by simpa using hj
  have:=hs i j (Nat.zero_le _) hij om;rw [ltF,getElem!_pos d' i hi',getElem!_pos d' j hj',decide_eq_false_iff_not]at this;simp only [Array.getElem_toList,Function.comp_apply];omega
 have hsl:((d'.toList.map fun i=>i.1).map fun(i:Nat)=>(i:Int)).length=(qE (m+1) (m+1)).length:=by simp [hps,qE]
 have:=Nr (n:=n) (os:=os) (enc:=Fg (m+1)) (d:=d') (ys:=(d'.toList.map fun i=>i.1).map fun(i:Nat)=>(i:Int)) h' (by rw [hps,hol]) hsl fun i hi=>by
  rw [getElem!_pos d' i (by rw [hps];rw [hsl,hol]at hi;exact hi)];unfold Fg;congr 1;simp
 rwa [hsl,hol]at this
theorem Eb {w:World}{base:Nat}{v:Value}{xs:List Int}(h:bC w base v xs)(h0:xs≠ []):∃b c,v= .slice (some ⟨b,0,none⟩) xs.length c∧base≤b∧b<w.heap.size∧∀i,i<xs.length→w.cell? ⟨b,i,none⟩=some (.int .i64 (xs.getD i 0)):=by
 obtain⟨hl0,h | ⟨g,cap,cur,hv,hb,hg,hl',hm,hs,ht⟩⟩:=h
 ·exact absurd (List.eq_nil_of_length_eq_zero h.2) h0
 refine⟨g,cap,hv,hb,lt_of_heap hg,fun i hi=> ?_⟩;have h1:(iv xs)[i]? =some (.int .i64 xs[i]):=by simp [iv,hi]
 rw [← ht,List.getElem?_take]at h1;rw [if_pos (by simpa using hi)]at h1;rw [dV,eD hi];exact cell_of_heap hg (by simpa using h1)
theorem TD {w:World}{base:Nat}{v:Value}{xs:List Fq}(h:lJ w base v xs)(h0:xs≠ []):∃b c,v= .slice (some ⟨b,0,none⟩) xs.length c∧base≤b∧b<w.heap.size∧∀i,i<xs.length→w.cell? ⟨b,i*2,none⟩=some (.int .i64 (xs.getD i ⟨0,0⟩).N)∧w.cell? ⟨b,i*2+1,none⟩=some (.int .i64 (xs.getD i ⟨0,0⟩).D):=by
 obtain⟨b,c,hv,hb,hlt,hc⟩:=aO.cells yC h h0;refine⟨b,c,hv,hb,hlt,fun i hi=> ?_⟩;have e:xs.getD i ⟨0,0⟩=xs[i]:=by rw [dV,eD hi];rfl
 rw [e];have h1:=hc i xs[i] (eD hi) 0 _ rfl;have h2:=hc i xs[i] (eD hi) 1 _ rfl;exact⟨by simpa using h1,by simpa using h2⟩
def pvH (vA vB vS vN:Value)(bx bs:Nat)(i x:Int)(aI aF:Addr)(N D:Int):Nat→Value→Prop
 | 0,v=>v=vA
 | 1,v=>v= .pointer (some ⟨bs,0,none⟩)
 | 2,v=>v= .pointer (some ⟨bs,0,none⟩)
 | 3,v=>v= .pointer (some ⟨bs,1,none⟩)
 | 4,v=>v=vS
 | 5,v=>v= .int .i64 i
 | 6,v=>v= .pointer (some aI)
 | 7,v=>v= .int .i64 x
 | 10,v=>v=vB
 | 11,v=>v= .pointer (some ⟨bs,0,none⟩)
 | 12,v=>v= .pointer (some ⟨bs,0,none⟩)
 | 13,v=>v= .pointer (some ⟨bs,2,none⟩)
 | 14,v=>v=vN
 | 15,v=>v= .int .i64 i
 | 16,v=>v= .pointer (some aF)
 | 17,v=>v= .agg #[.int .i64 N,.int .i64 D]
 | _,_=>True
theorem I9 (w0 w:World)(bs n:Nat)(vl vn x0 x3 x4 x5 x6 x7 x8:Value)(lits:List Int)(nums:List Fq)(k0:Keep au w0 w)(hbs:w0.heap.size≤bs)(hB:w.heap[bs]? =some (.cells #[x0,vl,vn,x3,x4,x5,x6,x7,x8] jc (0,0)))(hl:bC w w0.heap.size vl lits)(hn:lJ w w0.heap.size vn nums)
  (e1:lits.length=n) (e2:nums.length=n) (h0:0<n) (hn2:n≤1000) (hx:∀x∈lits,x.natAbs≤1000000) (hnd:lits.Nodup):
  Calls Tryz.prog 250 #[.pointer (some ⟨bs,0,none⟩)] w fun e w'=>e= .returned (.tuple #[])∧∃xC vn',Keep au w0 w'∧w'.heap[bs]? =some (.cells #[x0,xC,vn',x3,x4,x5,x6,x7,x8] jc (0,0))∧bC w' w0.heap.size xC ((gN (lits.zip nums)).map (·.1))∧lJ w' w0.heap.size vn' ((gN (lits.zip nums)).map (·.2)):=by
 obtain⟨bl,cl,rfl,gl,ll,hcl⟩:=Eb hl (by intro e;rw [e]at e1;simp at e1;omega);obtain⟨bn,cn,rfl,gn,ln,hcn⟩:=TD hn (by intro e;rw [e]at e2;simp at e2;omega);rw [e1]at hB hl hcl;rw [e2]at hB hn hcn;have aY:=zh hcl;have HCN:=zh hcn;have K0:=zh k0;have WB:=zh e1;have HE2:=zh e2;have HX:=zh hx;have Ux:=zh hnd;have HGS:=zh hbs;have HB0:=zh hB;have lS:=lt_of_heap hB;clear hcl hcn k0 e1 e2 hx hnd hbs hl hn hB gl gn;go_enter Tryz.func250,Tryz.ntmps250;go_upto_region 1 with fail;have k1:Keep au w (w.alloc (.cells #[.pointer (some ⟨bs,0,none⟩)] 314)):=(Keep.refl _ _).alloc _;have hX1:(w.alloc (.cells #[.pointer (some ⟨bs,0,none⟩)] 314)).heap[w.heap.size]? =some (.cells #[.pointer (some ⟨bs,0,none⟩)] 314 (0,0)):=aK _ _ _ rfl;have HX1:=zh hX1;have K1:=zh k1;have lS1:=bJ lS k1.size;have ll1:=bJ ll k1.size;have ln1:=bJ ln k1.size;have lX:=lt_of_heap hX1;have HB1:Hid ((w.alloc (.cells #[.pointer (some ⟨bs,0,none⟩)] 314)).heap[bs]? =_):=zh ((k1.block bs lS fun _ h=>h).trans HB0.out);have WG:=zh (fun i hi=>(k1.cell ll).trans (aY.out i hi));have zci:=zh (fun i hi=>And.intro ((k1.cell ln).trans (HCN.out i hi).1) ((k1.cell ln).trans (HCN.out i hi).2));have lY:Hid (w.heap.size≠bs):=zh om;have HKB:Hid (Keep au w0 (w.alloc (.cells #[.pointer (some ⟨bs,0,none⟩)] 314))):=zh (K0.out.both k1);clear k1 hX1 HB0 aY HCN K0 K1;generalize w.alloc (.cells #[.pointer (some ⟨bs,0,none⟩)] 314)=w1 at *;obtain⟨bx,hbx⟩:∃bx,w.heap.size=bx:=⟨_,rfl⟩;rw [hbx]at HX1 lX lY ⊢;clear hbx ll ln lS;have xB:=cell_of_heap (o:=0) HX1.out rfl;have x1:=cell_of_heap (o:=1) HB1.out rfl;have x2:=cell_of_heap (o:=2) HB1.out rfl;obtain⟨w2,hr2,ho2,hk2⟩:=Sr w1 n om;have K2:=zh hk2;have Im:=zh (show bC w2 w1.heap.size (.slice (some ⟨w1.heap.size,0,none⟩) n n) (qE n 0) by rw [TA];exact ho2);obtain⟨bo,RP⟩:∃bo,w1.heap.size=bo:=⟨_,rfl⟩;have Us:=zh RP;clear ho2 hk2;have hr2':(Instr.makeSlice 22 (.int .i64 (n:Int)) (.int .i64 (n:Int))).run Tryz.prog w1= .ok (.slice (some ⟨bo,0,none⟩) n n) w2:=by rw [← RP];exact hr2
 clear hr2 RP;have XB:=zh xB;have X1:=zh x1;have X2:=zh x2;go_wp2;go_loopw [16] (fun s wr=>∃k:Nat,k≤n∧s= .int .i64 k∧Keep au w1 wr∧bC wr w1.heap.size (.slice (some ⟨bo,0,none⟩) n n) (qE n k)) (fun s _=>(n-intOf s).toNat)
 case atStart=>exact⟨0,om,rfl,K2.out,by rw [← Us.out]at *;exact Im.out⟩
 obtain⟨k,hk,rfl,hkr,hor⟩:=hrel;have KR:=zh hkr;have VP:=zh hor;obtain⟨Ao,hAo⟩:=jh hor (b:=bo) rfl;clear hkr hor;by_cases hkn:k<n
 case pos=>
  have hlt:(k:Int)<(n:Int):=om;obtain⟨b',c',hv,_,_,hcc⟩:=Eb VP.out (by intro e;have:=congrArg List.length e;rw [qY]at this;simp at this;omega);injection hv with q1 q2 q3;clear q2 q3;injection q1 with q1;injection q1 with q1;subst q1;have m0:=hcc k (by rw [qY];exact hkn);have m1:=aL.free (A:=Ao) ⟨_,hAo⟩ k;have m2:=lt_of_heap hAo;have NW:=zh (bC.set (xs:=qE n k) (c:=n) (by rw [qY];exact VP.out) (i:=k) (by rw [qY];exact hkn) (k:Int));clear hcc;go_wp2;go_roundw
  case rel=>exact⟨k+1,om,by go_num,aQ KR.out _ (by rw [Us.out];exact Nat.le_refl _),by have:=NW.out;rw [qY,XP hkn]at this;exact this⟩
  simp [intOf];omega
 have hlt:¬(k:Int)<(n:Int):=om;obtain rfl:n=k:=om;have sz1:=KR.out.size;have CS:=zh (LU w1 wr bo n n bx bs bl 0 cl lits KR.out WB.out h0 VP.out ((KR.out.cell lX).trans XB.out) om (by have:=Us.out;omega) ((KR.out.cell lS1).trans X1.out) om (by have:=Us.out;omega) (fun i hi=>by rw [Nat.zero_add];exact(KR.out.cell ll1).trans (WG.out i hi)) om (by have:=Us.out;omega) hn2 HX.out);clear hAo;go_wp2_with fail;refine CS.out.mono ?_;rintro e w3 ⟨rfl,⟨p,hp1,hp2,hp3⟩,hk3⟩;have HP:=zh (LK (nums:=nums) (by have:=WB.out;have:=HE2.out;omega) Ux.out (by rw [WB.out];exact hp1) hp2);have HPM:Hid (∀i∈p,i<n):=zh fun i hi=>List.mem_range.1 (hp1.mem_iff.1 hi);have MW:Hid (p.length=n):=zh (by have:=hp1.length_eq;rw [List.length_range]at this;exact this);obtain⟨b',c',hv,_,lo,hcc⟩:=Eb hp3 (by intro e;have:=congrArg List.length e;rw [List.length_map,MW.out]at this;simp at this;omega);injection hv with q1 q2 q3;clear q2 q3;injection q1 with q1;injection q1 with q1;subst q1;have HCO:Hid (∀i (hi:i<p.length),w3.cell? ⟨bo,i,none⟩=some (.int .i64 (p[i]:Int))):=zh fun i hi=>by
  have:=hcc i (by rw [List.length_map];exact hi);rw [this,dV,List.getElem?_map,eD hi];rfl
 have K3:=zh hk3;have HB3:=zh ((hk3.block bs lS1 fun _ h=>h).trans HB1.out);have HX3:=zh ((hk3.block bx lX fun _ h=>h).trans HX1.out);have zfg:=zh (fun i hi=>(hk3.cell ll1).trans (WG.out i hi));have zdS:=zh (fun i hi=>And.intro ((hk3.cell ln1).trans (zci.out i hi).1) ((hk3.cell ln1).trans (zci.out i hi).2));have zdT:=zh (HKB.out.both hk3);have sz3:=hk3.size;have lS3:=bJ lS1 sz3;have lX3:=bJ lX sz3;have ll3:=bJ ll1 sz3;have ln3:=bJ ln1 sz3;clear hp1 hp2 hp3 hk3 hcc VP KR CS WG zci HKB HB1 HX1 XB X1 X2 xB x1 x2 sz1 sz3 lS1 lX ll1 ln1 K2 Im Ux;go_wp2;go_loopw [29,4,5] (fun s s4 s5 wr=>∃k:Nat,k≤n∧s= .int .i64 k∧Keep au w3 wr∧wr.ownsRow w3.heap.size TI 1 s4 k (iv ((p.map fun i=>lits.getD i 0).take k))∧wr.ownsRow w3.heap.size TF 2 s5 k (((p.map fun i=>nums.getD i ⟨0,0⟩).take k).flatMap Ig)) (fun s _ _ _=>(n-intOf s).toNat)
 case atStart=>exact⟨0,om,rfl,kp,World.ownsRow_nil _ _ _ _,World.ownsRow_nil _ _ _ _⟩
 obtain⟨k,hk,rfl,hkr,ha,hf⟩:=hrel;have Jv:=zh hkr;obtain⟨o4,c4,rfl⟩:=dJ ha;obtain⟨o5,c5,rfl⟩:=dJ hf;have HA:=zh ha;have HF:=zh hf;clear hkr ha hf;by_cases hkn:k<n
 case pos=>
  have hlt:(k:Int)<(n:Int):=om;have hkp:k<p.length:=by rw [MW.out];exact hkn
  have m0:=(Jv.out.cell lo).trans (HCO.out k hkp);obtain⟨q,hq⟩:∃q,p[k]=q:=⟨_,rfl⟩;have Jr:q<n:=by rw [← hq];exact HPM.out _ (List.getElem_mem hkp)
  have hqI:(q:Int)<(n:Int):=om;rw [hq]at m0;have HTA:Hid (iv ((p.map fun i=>lits.getD i 0).take (k+1))=iv ((p.map fun i=>lits.getD i 0).take k)++ [.int .i64 (lits.getD q 0)]):=zh (by
   rw [List.take_succ_eq_append_getElem (by rw [List.length_map];exact hkp),Dn,List.getElem_map,hq];rfl)
  have HTF:Hid ((((p.map fun i=>nums.getD i ⟨0,0⟩).take (k+1)).flatMap Ig)=(((p.map fun i=>nums.getD i ⟨0,0⟩).take k).flatMap Ig)++ [.int .i64 (nums.getD q ⟨0,0⟩).N,.int .i64 (nums.getD q ⟨0,0⟩).D]):=zh (by
   rw [List.take_succ_eq_append_getElem (by rw [List.length_map];exact hkp),List.flatMap_append,List.getElem_map,hq];rfl)
  have xB:=zh (cell_of_heap (o:=0) HX3.out rfl);have x1:=zh (cell_of_heap (o:=1) HB3.out rfl);have x2:=zh (cell_of_heap (o:=2) HB3.out rfl);have xI:=zh (zfg.out q Jr);have xN:=zh (zdS.out q Jr).1;have xD:=zh (zdS.out q Jr).2;have wL:=zh ((Jv.out.block bx lX3 fun _ h=>h).trans HX3.out);clear hq;generalize lits.getD q 0=x at *;generalize nums.getD q ⟨0,0⟩=g at *;go_upto_region 13 with fail;refine kY (fun S σ w'=>lH w3 TI 1 k TF 2 k (.slice o4 k c4) (.slice o5 k c5) (iv ((p.map fun i=>lits.getD i 0).take k)) [.int .i64 x] (((p.map fun i=>nums.getD i ⟨0,0⟩).take k).flatMap Ig) [.int .i64 g.N,.int .i64 g.D] bx 314 (fun _ _=> #[.pointer (some ⟨bs,0,none⟩)]) bx (.cells #[.pointer (some ⟨bs,0,none⟩)] 314 (0,0)) (S 8) (S 9) (S 18) (S 19) false false (σ 8) (σ 9) (σ 18) (σ 19) w'∧(S 20=true→σ 20=σ 9)∧(S 21=true→σ 21=σ 19)) (fun S d v w=>pvH (.slice o4 k c4) (.slice o5 k c5) (.slice (some ⟨bl,0,none⟩) n cl) (.slice (some ⟨bn,0,none⟩) n cn) bx bs q x ⟨bl,q,none⟩ ⟨bn,q*2,none⟩ g.N g.D d v) kr kr kr kr (fun S σ hS=>⟨lH.start (hS 8) (hS 9) (hS 18) (hS 19) rfl rfl (⟨Jv.out.size,Jv.out,HA.out,HF.out,wL.out,wL.out⟩),fun h=>(by rw [hS 20]at h;cases h),fun h=>(by rw [hS 21]at h;cases h)⟩) _ (fun σ=>by
   show bP _ σ [0,1,2,3,4,5,6,7,8,9,10,11,12,13,14,15,16,17,18,19,20,21] _=_;simp only [bP,zl0,zl1,zl2,Act.put,List.setIfInBounds_toArray,List.set_cons_zero,List.set_cons_succ];rfl) ?_ ?_
  ·intro S σ wz hC hall e he HK;have he:e<22:=he;obtain rfl | rfl | rfl | rfl | rfl | rfl | rfl | rfl | rfl | rfl | rfl | rfl | rfl | rfl | rfl | rfl | rfl | rfl | rfl | rfl | rfl | rfl:e=0∨e=1∨e=2∨e=3∨e=4∨e=5∨e=6∨e=7∨e=8∨e=9∨e=10∨e=11∨e=12∨e=13∨e=14∨e=15∨e=16∨e=17∨e=18∨e=19∨e=20∨e=21:=om
   ·refine ay rfl rfl fun K hK=> ?_;go_simp;exact hK _ _ ⟨_,hC,fun d _ _ h=>h,rfl,HK.init 20 (HK.down 20 kr)⟩
   ·have m0:=(hC.1.k.cell lX3).trans xB.out;refine ay rfl rfl fun K hK=> ?_;go_simp;exact hK _ _ ⟨_,hC,fun d _ _ h=>h,rfl,rfl⟩
   ·have h1:σ 1= .pointer (some ⟨bs,0,none⟩):=HK.post 1 kr;rw [h1];refine ay rfl rfl fun K hK=> ?_;go_simp;exact hK _ _ ⟨_,hC,fun d _ _ h=>h,rfl,rfl⟩
   ·have h2:σ 2= .pointer (some ⟨bs,0,none⟩):=HK.post 2 kr;rw [h2];refine ay rfl rfl fun K hK=> ?_;go_simp;exact hK _ _ ⟨_,hC,fun d _ _ h=>h,rfl,rfl⟩
   ·have h3:σ 3= .pointer (some ⟨bs,1,none⟩):=HK.post 3 kr;rw [h3];have m0:=(hC.1.k.cell lS3).trans x1.out;refine ay rfl rfl fun K hK=> ?_;go_simp;exact hK _ _ ⟨_,hC,fun d _ _ h=>h,rfl,rfl⟩
   ·refine ay rfl rfl fun K hK=> ?_;go_simp;exact hK _ _ ⟨_,hC,fun d _ _ h=>h,rfl,rfl⟩
   ·have h4:σ 4=(.slice (some ⟨bl,0,none⟩) n cl):=HK.post 4 kr;rw [h4];have h5:σ 5= .int .i64 (q:Int):=HK.post 5 kr;rw [h5];refine ay rfl rfl fun K hK=> ?_;go_simp;exact hK _ _ ⟨_,hC,fun d _ _ h=>h,rfl,rfl⟩
   ·have h6:σ 6= .pointer (some ⟨bl,q,none⟩):=HK.post 6 kr;rw [h6];have m0:=(hC.1.k.cell ll3).trans xI.out;refine ay rfl rfl fun K hK=> ?_;go_simp;exact hK _ _ ⟨_,hC,fun d _ _ h=>h,rfl,rfl⟩
   ·have h7:σ 7= .int .i64 x:=HK.post 7 kr;rw [h7];refine ay rfl rfl fun K hK=> ?_;go_simp;exact hK _ _ ⟨_,⟨hC.1.buildA ((Keep.refl _ _).alloc _) (b:=wz.heap.size) (aN _ _ rfl) (Nat.le_refl _),hC.2⟩,fun d _ _ h=>h,rfl,trivial⟩
   ·obtain ⟨v',w2,hr,hc2⟩:=hC.1.appA PG dc dc (fun A f h=>absurd (Obj.cells.inj h).2.1 dc) rfl (by intro u hu;simp at hu;subst hu;rfl) om (HK.up 8 kr) HK.self rfl;have h0:σ 0=(.slice o4 k c4):=HK.post 0 kr;rw [h0];refine ay rfl rfl fun K hK=> ?_;refine dn _ _ 22 _ _ rfl rfl rfl hr ?_;exact hK _ _ ⟨_,⟨hc2,fun h=>absurd (show S 20=true from h) (by rw [HK.down 20 kr];decide),hC.2.2⟩,fun d _ _ h=>h,rfl,trivial⟩
   ·refine ay rfl rfl fun K hK=> ?_;go_simp;exact hK _ _ ⟨_,hC,fun d _ _ h=>h,rfl,HK.init 21 (HK.down 21 kr)⟩
   ·have m0:=(hC.1.k.cell lX3).trans xB.out;refine ay rfl rfl fun K hK=> ?_;go_simp;exact hK _ _ ⟨_,hC,fun d _ _ h=>h,rfl,rfl⟩
   ·have h11:σ 11= .pointer (some ⟨bs,0,none⟩):=HK.post 11 kr;rw [h11];refine ay rfl rfl fun K hK=> ?_;go_simp;exact hK _ _ ⟨_,hC,fun d _ _ h=>h,rfl,rfl⟩
   ·have h12:σ 12= .pointer (some ⟨bs,0,none⟩):=HK.post 12 kr;rw [h12];refine ay rfl rfl fun K hK=> ?_;go_simp;exact hK _ _ ⟨_,hC,fun d _ _ h=>h,rfl,rfl⟩
   ·have h13:σ 13= .pointer (some ⟨bs,2,none⟩):=HK.post 13 kr;rw [h13];have m0:=(hC.1.k.cell lS3).trans x2.out;refine ay rfl rfl fun K hK=> ?_;go_simp;exact hK _ _ ⟨_,hC,fun d _ _ h=>h,rfl,rfl⟩
   ·refine ay rfl rfl fun K hK=> ?_;go_simp;exact hK _ _ ⟨_,hC,fun d _ _ h=>h,rfl,rfl⟩
   ·have h14:σ 14=(.slice (some ⟨bn,0,none⟩) n cn):=HK.post 14 kr;rw [h14];have h15:σ 15= .int .i64 (q:Int):=HK.post 15 kr;rw [h15];refine ay rfl rfl fun K hK=> ?_;go_simp;exact hK _ _ ⟨_,hC,fun d _ _ h=>h,rfl,rfl⟩
   ·have h16:σ 16= .pointer (some ⟨bn,q*2,none⟩):=HK.post 16 kr;rw [h16];have m0:=(hC.1.k.cell ln3).trans xN.out;have m1:=(hC.1.k.cell ln3).trans xD.out;refine ay rfl rfl fun K hK=> ?_;go_simp;exact hK _ _ ⟨_,hC,fun d _ _ h=>h,rfl,rfl⟩
   ·have h17:σ 17= .agg #[.int .i64 g.N,.int .i64 g.D]:=HK.post 17 kr;rw [h17];refine ay rfl rfl fun K hK=> ?_;go_simp;exact hK _ _ ⟨_,⟨hC.1.buildB ((Keep.refl _ _).alloc _) (b:=wz.heap.size) (aN _ _ rfl) (Nat.le_refl _),hC.2⟩,fun d _ _ h=>h,rfl,trivial⟩
   ·obtain ⟨v',w2,hr,hc2⟩:=hC.1.appB PI dc dc rfl (by intro u hu;simp at hu;rcases hu with rfl | rfl<;>rfl) om (HK.up 18 kr) HK.self rfl;have h10:σ 10=(.slice o5 k c5):=HK.post 10 kr;rw [h10];refine ay rfl rfl fun K hK=> ?_;refine dn _ _ 41 _ _ rfl rfl rfl hr ?_;exact hK _ _ ⟨_,⟨hc2,hC.2.1,fun h=>absurd (show S 21=true from h) (by rw [HK.down 21 kr];decide)⟩,fun d _ _ h=>h,rfl,trivial⟩
   ·refine ay rfl rfl fun K hK=> ?_;go_simp;exact hK _ _ ⟨_,⟨hC.1,fun _=>rfl,hC.2.2⟩,fun d _ _ h=>h,rfl,trivial⟩
   refine ay rfl rfl fun K hK=> ?_;go_simp;exact hK _ _ ⟨_,⟨hC.1,hC.2.1,fun _=>rfl⟩,fun d _ _ h=>h,rfl,trivial⟩
  intro S σ w9 UD hS hP;have hT:=UD.1.done (hS 8 (show 8<22 from om)) (hS 9 (show 9<22 from om)) (hS 18 (show 18<22 from om)) (hS 19 (show 19<22 from om));obtain⟨oA,cA',Jw⟩:=dJ hT.a;obtain⟨oB,cB',hvB⟩:=dJ hT.b;have zdU:σ 20=_:=(UD.2.1 (hS 20 (show 20<22 from om))).trans Jw;have zdV:σ 21=_:=(UD.2.2 (hS 21 (show 21<22 from om))).trans hvB;rw [zdU,zdV];refine NoPanic.normal ?_;have K9:=zh hT.k;have HA9:Hid (w9.ownsRow w3.heap.size TI 1 (.slice oA (k+1) cA') (k+1) (iv ((p.map fun i=>lits.getD i 0).take (k+1)))):=zh (by rw [HTA.out,←Jw];exact hT.a);have HF9:Hid (w9.ownsRow w3.heap.size TF 2 (.slice oB (k+1) cB') (k+1) (((p.map fun i=>nums.getD i ⟨0,0⟩).take (k+1)).flatMap Ig)):=zh (by rw [HTF.out,←hvB];exact hT.b);clear hT Jw hvB zdU zdV hP hS UD m0;go_wp2;go_roundw
  case rel=>exact⟨k+1,om,by go_num,K9.out,HA9.out,HF9.out⟩
  simp [intOf];omega
 have hlt:¬(k:Int)<(n:Int):=om;obtain rfl:n=k:=om;have hXr:=(Jv.out.block bx lX3 fun _ h=>h).trans HX3.out;have hBr:=(Jv.out.block bs lS3 fun _ h=>h).trans HB3.out;have HXr:=zh hXr;have Pw:=zh hBr;have lXr:=lt_of_heap hXr;have lSr:=lt_of_heap hBr;have c1:=cell_of_heap (o:=1) hBr rfl;have c2:=cell_of_heap (o:=2) hBr rfl;have f1:=aL.free (A:=_) ⟨_,hBr⟩ 1;have f2:=aL.free (A:=_) ⟨_,hBr⟩ 2;clear hXr hBr;go_upto_region 15 with fail;refine aD (fun w'=>Keep (MU bs bs) wr w') [] [([0,1,2,3,4,5],6),([7,8],9)] [] kr kr (Keep.refl _ _).drew ?_;intro X W hne hF hcl;have aY:=zh hcl;have z0:=fun x=>(qZ (i:=0) ((hF x).block bx lXr fun o ho=>ho.elim (fun e=>lY.out e) (fun e=>lY.out e))).trans (cell_of_heap (o:=0) HXr.out rfl);have zl:=fun x=>bJ lXr (hF x).size;have zs:=fun x=>bJ lSr (hF x).size;clear hF hcl;simp only [aW,aJ,zl0,zl1,zl2,aX,Bool.false_eq_true,if_false]
 (repeat(quiet_step (fail)));refine wpQuiet_nil ?_
 refine ay rfl rfl fun K hK=> ?_;go_simp;have k6:Keep (MU bs bs) wr (wr.setCell ⟨bs,1,none⟩ (.slice o4 n c4)).drew:=(Keep.setCell (Keep.refl _ _) _ (fun _=> .inl rfl)).drew;refine hK _ _ ⟨fun _=>aY.out _ k6,?_⟩;clear hK
 (repeat(quiet_step (fail)));refine wpQuiet_nil ?_
 refine ay rfl rfl fun K hK=> ?_;go_simp;have k7:Keep (MU bs bs) wr ((wr.setCell ⟨bs,1,none⟩ (.slice o4 n c4)).setCell ⟨bs,2,none⟩ (.slice o5 n c5)).drew:=(Keep.setCell (Keep.setCell (Keep.refl _ _) _ (fun _=> .inl rfl)) _ (fun _=> .inl rfl)).drew;refine hK _ _ ⟨fun _=>aY.out _ k7,?_⟩;clear hK k6 k7 aY
 (repeat(quiet_step (fail)));refine wpQuiet_nil ?_
 refine NoPanic.normal ?_;clear hne z0 zl zs W X;have hg0:w0.heap.size≤bs:=HGS.out;have hA:=HA.out;have hF:=HF.out;have hnA:(Value.slice o4 n c4).ownBlock≠some bs:=fun e=>by
  obtain⟨A,e1⟩:=jh hA e;rw [Pw.out]at e1;exact absurd (Obj.cells.inj (Option.some.inj e1)).2.1 dc
 have hnF:(Value.slice o5 n c5).ownBlock≠some bs:=fun e=>by
  obtain⟨A,e1⟩:=jh hF e;rw [Pw.out]at e1;exact absurd (Obj.cells.inj (Option.some.inj e1)).2.1 dc
 have HKE:Hid (Keep au w0 ((wr.setCell ⟨bs,1,none⟩ (.slice o4 n c4)).setCell ⟨bs,2,none⟩ (.slice o5 n c5)).drew):=zh (aQ (aQ (zdT.out.both Jv.out) _ hg0) _ hg0).drew;have HPA:Hid (((p.map fun i=>lits.getD i 0).take n)=(gN (lits.zip nums)).map (·.1)):=zh (by
  rw [List.take_of_length_le (by rw [List.length_map,MW.out];exact Nat.le_refl _),←HP.out,List.map_map];rfl)
 have HPF:Hid (((p.map fun i=>nums.getD i ⟨0,0⟩).take n)=(gN (lits.zip nums)).map (·.2)):=zh (by
  rw [List.take_of_length_le (by rw [List.length_map,MW.out];exact Nat.le_refl _),←HP.out,List.map_map];rfl)
 have hle:w0.heap.size≤w3.heap.size:=zdT.out.size;have HAE:Hid (bC ((wr.setCell ⟨bs,1,none⟩ (.slice o4 n c4)).setCell ⟨bs,2,none⟩ (.slice o5 n c5)).drew w0.heap.size (.slice o4 n c4) ((gN (lits.zip nums)).map (·.1))):=zh (by
  have h1:=World.ownsRow_mono (bR (ownsRow_setCell_other (a:=⟨bs,2,none⟩) (ownsRow_setCell_other (a:=⟨bs,1,none⟩) hA hnA (.slice o4 n c4)) hnA (.slice o5 n c5)) ((Keep.refl au _).drew)) hle;rw [HPA.out]at h1;unfold bC;have e:((gN (lits.zip nums)).map (·.1)).length=n:=by rw [← HPA.out,List.length_take,List.length_map,MW.out];omega
  rw [e];exact h1)
 have HFE:Hid (lJ ((wr.setCell ⟨bs,1,none⟩ (.slice o4 n c4)).setCell ⟨bs,2,none⟩ (.slice o5 n c5)).drew w0.heap.size (.slice o5 n c5) ((gN (lits.zip nums)).map (·.2))):=zh (by
  have h1:=World.ownsRow_mono (bR (ownsRow_setCell_other (a:=⟨bs,2,none⟩) (ownsRow_setCell_other (a:=⟨bs,1,none⟩) hF hnF (.slice o4 n c4)) hnF (.slice o5 n c5)) ((Keep.refl au _).drew)) hle;rw [HPF.out]at h1;unfold lJ aO;have e:((gN (lits.zip nums)).map (·.2)).length=n:=by rw [← HPF.out,List.length_take,List.length_map,MW.out];omega
  rw [e];exact h1)
 have HBE:Hid (((wr.setCell ⟨bs,1,none⟩ (.slice o4 n c4)).setCell ⟨bs,2,none⟩ (.slice o5 n c5)).drew.heap[bs]? =some (.cells #[x0,.slice o4 n c4,.slice o5 n c5,x3,x4,x5,x6,x7,x8] jc (0,0))):=zh (heap_setCell_same _ _ (heap_setCell_same _ _ Pw.out));clear hA hF hnA hnF c1 c2 f1 f2 HA HF Pw HXr;go_wp2;go_end0;exact⟨rfl,HKE.out,_,_,HBE.out,HAE.out,HFE.out⟩
variable {P:Nat→Prop}
theorem XQ {v:Value}{q:Rat}(h:bM v q)(w:World):Calls Tryz.prog 46 #[v] w fun e w'=>e= .returned (.int .i64 q.num.sign)∧Keep au w w':=by
 obtain⟨d,rfl,_⟩:=h;exact Cj w q.num d
def Fh (times:List Rat)(ids:List Int)(k:Nat):List (Int × Fq):=cK (times.take k) (ids.take k)
theorem Ec (times:List Rat)(ids:List Int):Fh times ids 0= []:=by simp [Fh,cK]
theorem XT {times:List Rat}{ids:List Int}{k:Nat}(h1:k<times.length)(h2:k<ids.length):Fh times ids (k+1)=Fh times ids k++(if times[k]=0 then []else [(-ids[k],eX times[k])]):=by
 unfold Fh cK;rw [List.take_succ_eq_append_getElem h1,List.take_succ_eq_append_getElem h2,List.zip_append (by rw [List.length_take,List.length_take];omega),List.filter_append,List.map_append];by_cases h:times[k]=0
 ·rw [if_pos h];simp [h]
 rw [if_neg h];simp [h]
theorem zaJ {times:List Rat}{ids:List Int}{n:Nat}(h1:times.length=n)(h2:ids.length=n):Fh times ids n=cK times ids:=by
 unfold Fh;rw [List.take_of_length_le om,List.take_of_length_le om]
theorem zaK (times:List Rat)(ids:List Int)(k:Nat):(Fh times ids k).length≤k:=by
 unfold Fh cK;rw [List.length_map];refine Nat.le_trans (List.length_filter_le _ _) ?_;rw [List.length_zip,List.length_take];omega
theorem TH {qs:List Rat}{k n:Nat}(hk:k<qs.length)(hn:qs.length=n)(h:¬Fits qs[k]):allFit qs n=false:=by
 unfold allFit;rw [List.take_of_length_le om];by_cases ha:(qs.all fun q=>decide (Fits q))=true
 ·rw [List.all_eq_true]at ha;exact absurd (of_decide_eq_true (ha _ (List.getElem_mem hk))) h
 simpa using ha
theorem TJ {q:Rat}(h:q=0):Fits q:=by subst h;exact⟨dc,dc⟩
theorem LV {times:List Rat}{ids:List Int}(hid:∀i∈ids,0≤i∧i≤1000):∀x∈(cK times ids).map (·.1),x.natAbs≤1000000:=by
 intro x hx;obtain⟨p,hp,rfl⟩:=List.mem_map.1 hx;unfold cK at hp;obtain⟨r,hr,rfl⟩:=List.mem_map.1 hp;have:=hid _ (List.of_mem_zip (List.mem_filter.1 hr).1).2;simp only;omega
theorem TK (P:List (Int × Fq)):(P.map (·.1)).zip (P.map (·.2))=P:=by
 induction P with
 | nil=>rfl
 | cons x l ih=>simp [ih]
def pvI (vA vB vI:Value)(b8:Nat)(i x:Int)(aI:Addr)(N D:Int):Nat→Value→Prop
 | 0,v=>v= .pointer (some ⟨b8,1,none⟩)
 | 1,v=>v=vA
 | 2,v=>v=vI
 | 3,v=>v= .int .i64 i
 | 4,v=>v= .pointer (some aI)
 | 5,v=>v= .int .i64 x
 | 6,v=>v= .int .i64 (-x)
 | 9,v=>v= .pointer (some ⟨b8,2,none⟩)
 | 10,v=>v=vB
 | 11,v=>v= .agg #[.int .i64 N,.int .i64 D]
 | 14,v=>v= .pointer (some ⟨b8,1,none⟩)
 | 16,v=>v= .pointer (some ⟨b8,2,none⟩)
 | _,_=>True
theorem JN (w0 w:World)(bS:Nat)(vr vi:Value)(s:wJ)(v zdW:Value)(times:List Rat)(ids:List Int)(n:Nat)(h:Vs P w0 w bS vr vi s)(hT:jf w v times)(hN:∀q∈times,NB 1000 q)(hI:aR w zdW ids)(e1:times.length=n)(e2:ids.length=n)(hn:n≤64)(hid:∀i∈ids,0≤i∧i≤1000)(hnd:((cK times ids).map (·.1)).Nodup)(hne:cK times ids≠ [])(hsl:s.steps.length≤50000):
  Calls Tryz.prog 219 #[.pointer (some ⟨bS,0,none⟩),v,zdW] w fun e w'=>(allFit times n=true→∃u,e= .returned (.tuple #[u,.bool true])∧bC w' w0.heap.size u ((gN (cK times ids)).map (·.1))∧Vs P w0 w' bS vr vi {s with steps:=s.steps++ [⟨4,(gN (cK times ids)).map (·.1),(gN (cK times ids)).map (·.2),Ro⟩]})∧(allFit times n=false→e= .returned (.tuple #[.slice none 0 0,.bool false])∧Vs P w0 w' bS vr vi s)∧KT P w w':=by
 obtain⟨va,vt,vp,xs,ys,hc⟩:=h;obtain⟨⟨oa,ca,rfl⟩,⟨ot,ct,rfl⟩,op,cp,rfl⟩:=hc.forms;have HC:=zh hc;have HT:=zh hT;have EI:=zh hN;have HI:=zh hI;have WB:=zh e1;have HE2:=zh e2;have HID:=zh hid;have Ux:=zh hnd;have kZ:=zh hne;have hpos:0<n:=by
  rcases Nat.eq_zero_or_pos n with h | h
  ·exfalso;rw [h]at e1;rw [List.eq_nil_of_length_eq_zero e1]at hne;exact hne (by simp [cK])
  exact h
 obtain⟨ot',ct',hv1,_,hmt⟩:=hT.len;obtain⟨oi',ci',hv2,_⟩:=hI.len;rw [e1]at hv1;rw [e2]at hv2;subst hv1 hv2;unfold maxLen at hmt;have HXI:Hid (∀k (hk:k<n),∃bi oi,oi'=some ⟨bi,oi,none⟩∧bi<w.heap.size∧w.cell? ⟨bi,oi+k,none⟩=some (.int .i64 (ids.getD k 0))):=zh fun k hk=>by
  obtain⟨b,o,c,hv,hb,hcc⟩:=hI.at (k:=k) om;injection hv with q1 _ _;refine⟨b,o,q1,hb,?_⟩;rw [dV,eD om];exact hcc
 have lS:=lt_of_heap hc.b;clear hc hT hN hI e1 e2 hid hnd hne;go_enter Tryz.func219,Tryz.ntmps219;go_upto_region 2 with fail;have k1:Keep au w (w.alloc (.cells #[.int .i64 4,.slice none 0 0,.slice none 0 0,.int .i64 0,.int .i64 0,.int .i64 0,.slice none 0 0,.int .i64 0,.int .i64 0] jc)):=(Keep.refl _ _).alloc _;have HB1:Hid ((w.alloc (.cells #[.int .i64 4,.slice none 0 0,.slice none 0 0,.int .i64 0,.int .i64 0,.int .i64 0,.slice none 0 0,.int .i64 0,.int .i64 0] jc)).heap[w.heap.size]? =some (.cells #[.int .i64 4,.slice none 0 0,.slice none 0 0,.int .i64 0,.int .i64 0,.int .i64 0,.slice none 0 0,.int .i64 0,.int .i64 0] jc (0,0))):=zh (aK _ _ _ rfl);have K1:=zh k1;clear k1;generalize w.alloc (.cells #[.int .i64 4,.slice none 0 0,.slice none 0 0,.int .i64 0,.int .i64 0,.int .i64 0,.slice none 0 0,.int .i64 0,.int .i64 0] jc)=w1 at *;obtain⟨b8,hb8⟩:∃b8,w.heap.size=b8:=⟨_,rfl⟩;rw [hb8]at HB1 ⊢;have IB:Hid (w.heap.size≤b8):=zh (Nat.le_of_eq hb8);clear hb8;go_wp2;go_loopw [16] (fun s wr=>∃(k m:Nat) (vA vB:Value),k≤n∧s= .int .i64 k∧m=(Fh times ids k).length∧Keep au w wr∧wr.heap[b8]? =some (.cells #[.int .i64 4,vA,vB,.int .i64 0,.int .i64 0,.int .i64 0,.slice none 0 0,.int .i64 0,.int .i64 0] jc (0,0))∧wr.ownsRow w.heap.size TI 1 vA m (iv ((Fh times ids k).map (·.1)))∧wr.ownsRow w.heap.size TF 2 vB m (((Fh times ids k).map (·.2)).flatMap Ig)∧allFit times k=true) (fun s _=>(n-intOf s).toNat)
 case atStart=>exact⟨0,0,_,_,om,rfl,by rw [Ec];rfl,K1.out,HB1.out,by rw [Ec];exact World.ownsRow_nil _ _ _ _,by rw [Ec];exact World.ownsRow_nil _ _ _ _,by simp [allFit]⟩
 obtain⟨k,m,vA,vB,hk,rfl,hm,hkr,hb8,ha,hf,hfit⟩:=hrel;have KR:=zh hkr;have jN:=zh hb8;obtain⟨oA,cA,rfl⟩:=dJ ha;obtain⟨oB,cB,rfl⟩:=dJ hf;have HA:=zh ha;have HF:=zh hf;have HM:=zh hm;have hml:m≤k:=by rw [hm];exact zaK _ _ _
 have XU:=zh hfit;have l8:=lt_of_heap hb8;clear hkr hb8 ha hf hm hfit;by_cases hkn:k<n
 case pos=>
  have hlt:(k:Int)<(n:Int):=om;have hkt:k<times.length:=by rw [WB.out];exact hkn
  have hki:k<ids.length:=by rw [HE2.out];exact hkn
  have Jy:=zh (XT hkt hki);have HFS:=zh (Ba hkt);have OT:=zh (TH hkt WB.out);obtain⟨b,o,rfl,hb,xb,xS,xc,xU,p0,p1,p2,p3,hx⟩:=(HT.out.keep KR.out).at hkt;have CS:=fun w=>zh (XQ hx w);have CF:=fun w=>zh (D7 w _ _ hx (EI.out _ (List.getElem_mem hkt)));rw [Gn]at CF;have HIK:Hid (ids.getD k 0=ids[k]):=zh (by rw [dV,eD hki];rfl);generalize times[k]=t at *;clear hx;by_cases ht:t=0
  case pos=>
   have e3:t.num.sign=0:=by rw [ht];rfl
   have Jy:Hid (Fh times ids (k+1)=Fh times ids k):=zh (by rw [Jy.out,if_pos ht,List.append_nil]);have HFS:Hid (allFit times (k+1)=true):=zh (by rw [HFS.out,XU.out,decide_eq_true (TJ ht)];rfl);rw [e3]at CS;clear ht e3 CF OT HIK;go_wp2_with fail;refine(CS _).out.mono ?_;rintro e w4 ⟨rfl,hk4⟩;have k4:Keep au wr w4:=Keep.trans kp hk4 fun _ _ _ h=>h;have K4:=zh k4;clear hk4 k4 p0 p1 p2 p3 CS;go_wp2;go_roundw
   case rel=>exact⟨k+1,m,_,_,om,by go_num,by rw [Jy.out];exact HM.out,KR.out.both K4.out,(K4.out.block b8 l8 fun _ h=>h).trans jN.out,by rw [Jy.out];exact bR HA.out K4.out,by rw [Jy.out];exact bR HF.out K4.out,HFS.out⟩
   simp [intOf];omega
  have e3:(t.num.sign==0)=false:=by
   rw [beq_eq_false_iff_ne];intro h0;exact ht (by rwa [Int.sign_eq_zero_iff_zero,Rat.num_eq_zero]at h0)
  have Jy:Hid (Fh times ids (k+1)=Fh times ids k++ [(-ids[k],eX t)]):=zh (by rw [Jy.out,if_neg ht]);clear ht;generalize t.num.sign=sg at *;go_wp2_with fail;refine(CS _).out.mono ?_;rintro e w4 ⟨rfl,hk4⟩;have k4:Keep au wr w4:=Keep.trans kp hk4 fun _ _ _ h=>h;have K4:=zh k4;have hb10:=zh (aL.keep (aN (w:=wr) #[.bool xb,.string xS,.bool xc,.string xU] 102 rfl) hk4);clear hk4 k4 p0 p1 p2 p3 CS;obtain⟨y0,y1,y2,y3,_,_,_,_,yl⟩:=hb10.out.four;by_cases hft:Fits t
  case neg=>
   rw [decide_eq_false hft]at CF;have OT:=zh (OT.out hft);clear hft Jy HFS;go_wp2_with fail;refine(CF _).out.mono ?_;rintro e w5 ⟨rfl,hk5⟩;have K5:Hid (Keep au w w5):=zh ((KR.out.both K4.out).both (Keep.trans kp hk5 fun _ _ _ h=>h));clear hk5 y0 y1 y2 y3 CF;generalize (eX t).N=fn at *;generalize (eX t).D=fd at *;go_wp2;refine bodyPost_ret (by simp [results,Tryz.results219,go_sem];rfl) rfl ?_;have KE:=K5.out.alloc (.cells #[.int .i64 fn,.int .i64 fd] TF);exact⟨fun h=>absurd h (by rw [OT.out];decide),fun _=>⟨rfl,_,_,_,_,_,HC.out.keep KE⟩,KT.of KE⟩
  rw [decide_eq_true hft]at CF;have HFS:Hid (allFit times (k+1)=true):=zh (by rw [HFS.out,XU.out,decide_eq_true hft];rfl);clear hft OT;go_wp2_with fail;refine(CF _).out.mono ?_;rintro e w5 ⟨rfl,hk5⟩;have k5:Keep au w4 w5:=Keep.trans kp hk5 fun _ _ _ h=>h;have k6:Keep au wr (w5.alloc (.cells #[.int .i64 (eX t).N,.int .i64 (eX t).D] TF)):=(K4.out.both k5).alloc _;have zdX:Hid ((w5.alloc (.cells #[.int .i64 (eX t).N,.int .i64 (eX t).D] TF)).heap[w5.heap.size]? =some (.cells #[.int .i64 (eX t).N,.int .i64 (eX t).D] TF (0,0))):=zh (aK _ _ _ rfl);have HKY:Hid (Keep au w (w5.alloc (.cells #[.int .i64 (eX t).N,.int .i64 (eX t).D] TF))):=zh (KR.out.both k6);have jN:Hid ((w5.alloc (.cells #[.int .i64 (eX t).N,.int .i64 (eX t).D] TF)).heap[b8]? =_):=zh ((k6.block b8 l8 fun _ h=>h).trans jN.out);have HA:=zh (bR HA.out k6);have HF:=zh (bR HF.out k6);obtain⟨bi,oi,hoi,lI,xi⟩:=HXI.out k hkn;subst hoi;rw [HIK.out]at xi;have xI:=zh xi;have HIB:=zh (HID.out _ (List.getElem_mem hki));clear hk5 k5 k6 y0 y1 y2 y3 yl hb10 xi CF HIK K4;generalize ids[k]=x at *;have hx0:dA (-x):=by have:=HIB.out;unfold dA;omega
  have HW:Hid (IntKind.i64.wrap (-x)= -x):=zh (by have:=HIB.out;simp [IntKind.wrap,IntKind.bits,IntKind.signed];omega);go_upto_region 9 with fail;generalize w5.alloc (.cells #[.int .i64 (eX t).N,.int .i64 (eX t).D] TF)=wy at *;obtain⟨b11,hb11⟩:∃b11,w5.heap.size=b11:=⟨_,rfl⟩;rw [hb11]at zdX ⊢;clear hb11;refine kY (fun S σ w'=>lH w TI 1 m TF 2 m (.slice oA m cA) (.slice oB m cB) (iv ((Fh times ids k).map (·.1))) [.int .i64 (-x)] (((Fh times ids k).map (·.2)).flatMap Ig) [.int .i64 (eX t).N,.int .i64 (eX t).D] b8 jc (fun a b=> #[.int .i64 4,a,b,.int .i64 0,.int .i64 0,.int .i64 0,.slice none 0 0,.int .i64 0,.int .i64 0]) b11 (.cells #[.int .i64 (eX t).N,.int .i64 (eX t).D] TF (0,0)) (S 7) (S 8) (S 12) (S 13) (S 15) (S 17) (σ 7) (σ 8) (σ 12) (σ 13) w'∧True) (fun S d v w=>pvI (.slice oA m cA) (.slice oB m cB) (.slice (some ⟨bi,oi,none⟩) n ci') b8 k x ⟨bi,oi+k,none⟩ (eX t).N (eX t).D d v) kr kr kr kr (fun S σ hS=>⟨lH.start (hS 7) (hS 8) (hS 12) (hS 13) (hS 15) (hS 17) (⟨HKY.out.size,HKY.out,HA.out,HF.out,jN.out,zdX.out⟩),trivial⟩) _ (fun σ=>by
   show bP _ σ [0,1,2,3,4,5,6,7,8,9,10,11,12,13,14,15,16,17] _=_;simp only [bP,zl0,zl1,zl2,Act.put,List.setIfInBounds_toArray,List.set_cons_zero,List.set_cons_succ];rfl) ?_ ?_
  ·intro S σ wz hC hall e he HK;have he:e<18:=he;obtain rfl | rfl | rfl | rfl | rfl | rfl | rfl | rfl | rfl | rfl | rfl | rfl | rfl | rfl | rfl | rfl | rfl | rfl:e=0∨e=1∨e=2∨e=3∨e=4∨e=5∨e=6∨e=7∨e=8∨e=9∨e=10∨e=11∨e=12∨e=13∨e=14∨e=15∨e=16∨e=17:=om
   ·refine ay rfl rfl fun K hK=> ?_;go_simp;exact hK _ _ ⟨_,hC,fun d _ _ h=>h,rfl,rfl⟩
   ·have h0:σ 0= .pointer (some ⟨b8,1,none⟩):=HK.post 0 kr;rw [h0];have m0:wz.cell? ⟨b8,1,none⟩=some (.slice oA m cA):=by
     have h:=cell_of_heap (o:=1) hC.1.blk rfl;rw [HK.down 15 kr]at h;exact h
    refine ay rfl rfl fun K hK=> ?_;go_simp;exact hK _ _ ⟨_,hC,fun d _ _ h=>h,rfl,rfl⟩
   ·refine ay rfl rfl fun K hK=> ?_;go_simp;exact hK _ _ ⟨_,hC,fun d _ _ h=>h,rfl,rfl⟩
   ·refine ay rfl rfl fun K hK=> ?_;go_simp;exact hK _ _ ⟨_,hC,fun d _ _ h=>h,rfl,rfl⟩
   ·have h2:σ 2=(.slice (some ⟨bi,oi,none⟩) n ci'):=HK.post 2 kr;rw [h2];have h3:σ 3= .int .i64 (k:Int):=HK.post 3 kr;rw [h3];refine ay rfl rfl fun K hK=> ?_;go_simp;exact hK _ _ ⟨_,hC,fun d _ _ h=>h,rfl,rfl⟩
   ·have h4:σ 4= .pointer (some ⟨bi,oi+k,none⟩):=HK.post 4 kr;rw [h4];have m0:=(hC.1.k.cell lI).trans xI.out;refine ay rfl rfl fun K hK=> ?_;go_simp;exact hK _ _ ⟨_,hC,fun d _ _ h=>h,rfl,rfl⟩
   ·have h5:σ 5= .int .i64 x:=HK.post 5 kr;rw [h5];refine ay rfl rfl fun K hK=> ?_;go_simp;exact hK _ _ ⟨_,hC,fun d _ _ h=>h,rfl,congrArg (Value.int IntKind.i64) HW.out⟩
   ·have h6:σ 6= .int .i64 (-x):=HK.post 6 kr;rw [h6];refine ay rfl rfl fun K hK=> ?_;go_simp;exact hK _ _ ⟨_,⟨hC.1.buildA ((Keep.refl _ _).alloc _) (b:=wz.heap.size) (aN _ _ rfl) (Nat.le_refl _),hC.2⟩,fun d _ _ h=>h,rfl,trivial⟩
   ·obtain ⟨v',w2,hr,hc2⟩:=hC.1.appA PG dc dc (fun A f h=>absurd (Obj.cells.inj h).2.1 dc) rfl (by intro u hu;simp at hu;subst hu;rfl) om (HK.up 7 kr) HK.self (HK.down 15 kr);have h1:σ 1=(.slice oA m cA):=HK.post 1 kr;rw [h1];refine ay rfl rfl fun K hK=> ?_;refine dn _ _ 22 _ _ rfl rfl rfl hr ?_;exact hK _ _ ⟨_,⟨hc2,trivial⟩,fun d _ _ h=>h,rfl,trivial⟩
   ·refine ay rfl rfl fun K hK=> ?_;go_simp;exact hK _ _ ⟨_,hC,fun d _ _ h=>h,rfl,rfl⟩
   ·have h9:σ 9= .pointer (some ⟨b8,2,none⟩):=HK.post 9 kr;rw [h9];have m0:wz.cell? ⟨b8,2,none⟩=some (.slice oB m cB):=by
     have h:=cell_of_heap (o:=2) hC.1.blk rfl;rw [HK.down 17 kr]at h;exact h
    refine ay rfl rfl fun K hK=> ?_;go_simp;exact hK _ _ ⟨_,hC,fun d _ _ h=>h,rfl,rfl⟩
   ·have hx:=hC.1.x (HK.down 13 kr);have m0:=cell_of_heap (o:=0) hx rfl;have m1:=cell_of_heap (o:=1) hx rfl;have m2:=lt_of_heap hx;refine ay rfl rfl fun K hK=> ?_;go_simp;exact hK _ _ ⟨_,hC,fun d _ _ h=>h,rfl,rfl⟩
   ·have h11:σ 11= .agg #[.int .i64 (eX t).N,.int .i64 (eX t).D]:=HK.post 11 kr;rw [h11];refine ay rfl rfl fun K hK=> ?_;go_simp;exact hK _ _ ⟨_,⟨hC.1.buildB ((Keep.refl _ _).alloc _) (b:=wz.heap.size) (aN _ _ rfl) (Nat.le_refl _),hC.2⟩,fun d _ _ h=>h,rfl,trivial⟩
   ·obtain ⟨v',w2,hr,hc2⟩:=hC.1.appB PI dc dc rfl (by intro u hu;simp at hu;rcases hu with rfl | rfl<;>rfl) om (HK.up 12 kr) HK.self (HK.down 17 kr);have h10:σ 10=(.slice oB m cB):=HK.post 10 kr;rw [h10];refine ay rfl rfl fun K hK=> ?_;refine dn _ _ 41 _ _ rfl rfl rfl hr ?_;exact hK _ _ ⟨_,⟨hc2,trivial⟩,fun d _ _ h=>h,rfl,trivial⟩
   ·refine ay rfl rfl fun K hK=> ?_;go_simp;exact hK _ _ ⟨_,hC,fun d _ _ h=>h,rfl,rfl⟩
   ·obtain ⟨o',c',hv⟩:=dJ (hC.1.a1 (HK.up 8 kr));have h14:σ 14= .pointer (some ⟨b8,1,none⟩):=HK.post 14 kr;rw [h14];rw [hv];have m0:=cell_of_heap (o:=1) hC.1.blk rfl;have m1:=aL.free (A:=_) ⟨_,hC.1.blk⟩ 1;refine ay rfl rfl fun K hK=> ?_;go_simp;exact hK _ _ ⟨undef,⟨hC.1.set dc dc IB.out (HK.up 8 kr) (HK.up 13 kr) (by rw [← hv];rfl),trivial⟩,fun d _ _ h=>h,rfl,trivial⟩
   ·refine ay rfl rfl fun K hK=> ?_;go_simp;exact hK _ _ ⟨_,hC,fun d _ _ h=>h,rfl,rfl⟩
   obtain⟨o',c',hv⟩:=dJ (hC.1.b1 (HK.up 13 kr));have h16:σ 16= .pointer (some ⟨b8,2,none⟩):=HK.post 16 kr;rw [h16];rw [hv];have m0:=cell_of_heap (o:=2) hC.1.blk rfl;have m1:=aL.free (A:=_) ⟨_,hC.1.blk⟩ 2;refine ay rfl rfl fun K hK=> ?_;go_simp;exact hK _ _ ⟨undef,⟨hC.1.set dc dc IB.out (HK.up 8 kr) (HK.up 13 kr) (by rw [← hv];rfl),trivial⟩,fun d _ _ h=>h,rfl,trivial⟩
  intro S σ w9 UD hS hP;have hT:=UD.1.done (hS 7 (show 7<18 from om)) (hS 8 (show 8<18 from om)) (hS 12 (show 12<18 from om)) (hS 13 (show 13<18 from om));obtain⟨oA,cA',Jw⟩:=dJ hT.a;obtain⟨oB,cB',hvB⟩:=dJ hT.b;refine NoPanic.normal ?_;have HBE:Hid (w9.heap[b8]? =some (.cells #[.int .i64 4,.slice oA (m+1) cA',.slice oB (m+1) cB',.int .i64 0,.int .i64 0,.int .i64 0,.slice none 0 0,.int .i64 0,.int .i64 0] jc (0,0))):=zh (by
   have h:=UD.1.blk;rw [hS 15 (show 15<18 from om),hS 17 (show 17<18 from om),Jw,hvB]at h;exact h)
  have K9:=zh hT.k;have HA9:Hid (w9.ownsRow w.heap.size TI 1 (.slice oA (m+1) cA') (m+1) (iv ((Fh times ids (k+1)).map (·.1)))):=zh (by rw [Jy.out,List.map_append,Dn,←Jw];exact hT.a);have HF9:Hid (w9.ownsRow w.heap.size TF 2 (.slice oB (m+1) cB') (m+1) (((Fh times ids (k+1)).map (·.2)).flatMap Ig)):=zh (by rw [Jy.out,List.map_append,List.flatMap_append,←hvB];exact hT.b);have HML:Hid (m+1=(Fh times ids (k+1)).length):=zh (by rw [Jy.out,List.length_append,HM.out];rfl);clear hT Jw hvB hP hS UD;go_wp2;go_roundw
  case rel=>exact⟨k+1,m+1,_,_,om,by go_num,HML.out,K9.out,HBE.out,HA9.out,HF9.out,HFS.out⟩
  simp [intOf];omega
 have hlt:¬(k:Int)<(n:Int):=om;obtain rfl:n=k:=om;have HPA:=zh (zaJ WB.out HE2.out);have HML:Hid ((cK times ids).length=m):=zh (by rw [HM.out,HPA.out]);have hm0:0<m:=by
  rw [← HML.out];exact List.length_pos_iff.2 kZ.out
 have HAI:Hid (bC wr w.heap.size (.slice oA m cA) ((cK times ids).map (·.1))):=zh (by
  have h:=HA.out;rw [HPA.out]at h;unfold bC;rw [List.length_map,HML.out];exact h)
 have Ct:Hid (lJ wr w.heap.size (.slice oB m cB) ((cK times ids).map (·.2))):=zh (by
  have h:=HF.out;rw [HPA.out]at h;unfold lJ aO;rw [List.length_map,HML.out];exact h)
 have CSS:=I9 w wr b8 m _ _ (.int .i64 4) _ _ _ _ _ _ _ _ KR.out IB.out jN.out HAI.out Ct.out (by rw [List.length_map,HML.out]) (by rw [List.length_map,HML.out]) hm0 om (LV HID.out) Ux.out;rw [TK]at CSS;clear HA HF HAI Ct HT EI HI HXI;have zdY:Hid (∀x∈(gN (cK times ids)).map (·.1),dA x):=zh fun x hx=>by
  obtain⟨p,hp,rfl⟩:=List.mem_map.1 hx;have:=LV HID.out _ (List.mem_map_of_mem ((kJ _).mem_iff.1 hp));unfold dA;omega
 have MW:Hid ((gN (cK times ids)).length≤900000):=zh (by rw [(kJ _).length_eq,HML.out];omega);clear kZ HPA HML HM HID Ux;obtain⟨L,hP⟩:∃L,gN (cK times ids)=L:=⟨_,rfl⟩;rw [hP]at CSS zdY MW;have HP:=zh hP;clear hP;go_wp2_with fail;refine CSS.mono ?_;rintro e w3 ⟨rfl,xC,vn',hk3,hB3,hl3,hn3⟩;have K3:=zh hk3;have HB3:=zh hB3;have Wx:=zh hl3;have HN3:=zh hn3;obtain⟨ol,cl,hvl⟩:=hl3.len;obtain⟨on,cn,WY,_⟩:=hn3.len;rw [List.length_map]at hvl WY;subst hvl WY;have HC3:=zh (HC.out.keep hk3);have zdZ:Hid (∀k,(Value.slice ot s.steps.length ct).ownBlock=some k→k≠b8):=zh fun k hk e=>by have:=HC.out.t.lt k hk;have:=IB.out;omega
 have Uv:Hid (b8≠bS):=zh fun e=>by have:=IB.out;omega
 obtain⟨t0,t1,t2,t3,t4,t5,t6,lS3⟩:=yu HC3.out.blk;have l83:=lt_of_heap hB3;clear hk3 hB3 hl3 hn3 CSS KR jN;go_upto_region 12 with fail;refine aD (fun w'=>Keep au w3 w') [0,7,8,9,10] [([0,1,2,3,4,5],6),([],7),([8,9],10)] [] kr kr kp ?_;intro X W hne hF hcl;have aY:=zh hcl;have z4:=fun x=>((hF x).cell lS3).trans t4;have zl:=fun x=>bJ lS3 (hF x).size;have d0:=fun x=>((hF x).cell l83).trans (cell_of_heap (o:=0) HB3.out rfl);have d1:=fun x=>((hF x).cell l83).trans (cell_of_heap (o:=1) HB3.out rfl);have d2:=fun x=>((hF x).cell l83).trans (cell_of_heap (o:=2) HB3.out rfl);have d3:=fun x=>((hF x).cell l83).trans (cell_of_heap (o:=3) HB3.out rfl);have d4:=fun x=>((hF x).cell l83).trans (cell_of_heap (o:=4) HB3.out rfl);have d5:=fun x=>((hF x).cell l83).trans (cell_of_heap (o:=5) HB3.out rfl);have d6:=fun x=>((hF x).cell l83).trans (cell_of_heap (o:=6) HB3.out rfl);have d7:=fun x=>((hF x).cell l83).trans (cell_of_heap (o:=7) HB3.out rfl);have d8:=fun x=>((hF x).cell l83).trans (cell_of_heap (o:=8) HB3.out rfl);have zm:=fun x=>bJ l83 (hF x).size;clear hF hcl t0 t1 t2 t3 t4 t5 t6;simp only [aW,aJ,zl0,zl1,zl2,aX,Bool.false_eq_true,if_false]
 (repeat(quiet_step (fail)));refine wpQuiet_nil ?_
 refine ay rfl rfl fun K hK=> ?_;go_simp;have k8:Keep au w3 (w3.alloc (.cells #[.int .i64 4,.slice ol L.length cl,.slice on L.length cn,.int .i64 0,.int .i64 0,.int .i64 0,.slice none 0 0,.int .i64 0,.int .i64 0] jc)).drew:=((Keep.refl _ _).alloc _).drew;refine hK _ _ ⟨fun _=>aY.out _ k8,?_⟩;have sz3:w0.heap.size≤w.heap.size:=HC.out.k.size;obtain⟨v9,w9,hr9,hv9,hc9,kt9,hb9,hg9⟩:=(HC3.out.keep k8).pushT (y:=⟨.slice ol L.length cl,.slice on L.length cn,.slice none 0 0,⟨4,L.map fun(x:Int × Fq)=>x.1,L.map fun(x:Int × Fq)=>x.2,Ro⟩⟩) ⟨World.ownsRow_mono (Wx.out.keep k8) sz3,World.ownsRow_mono (HN3.out.keep k8) sz3,bC.nil _ _⟩ (b:=w3.heap.size) (aL.keep (aN _ _ rfl) (Keep.refl _ _).drew) (by show s.steps.length≤_;omega);obtain⟨o9,c9,rfl⟩:=hv9;have EJ:aL w9 bS #[vr,vi,.int .i64 (s.fuel:Int),.slice oa s.atoms.length ca,.slice ot s.steps.length ct,.slice op s.point.length cp,.bool s.much]:=⟨_,hb9.trans (HC3.out.keep k8).b⟩;have g4:=EJ.cell 4;have g4f:=EJ.free 4;have gl:=EJ.lt;have HC9:=zh hc9;have HK9:=zh ((KT.of (K3.out.both k8)).trans kt9);have jN:Hid ((w9.setCell ⟨bS,4,none⟩ (.slice o9 (s.steps.length+1) c9)).heap[b8]? =some (.cells #[.int .i64 4,.slice ol L.length cl,.slice on L.length cn,.int .i64 0,.int .i64 0,.int .i64 0,.slice none 0 0,.int .i64 0,.int .i64 0] jc (0,0))):=zh (by
  rw [heap_setCell_other _ _ _ _ Uv.out,hg9.block b8 (lt_of_heap ((k8.block b8 l83 fun _ h=>h).trans HB3.out)) fun e=>zdZ.out _ e.symm rfl];exact(k8.block b8 l83 fun _ h=>h).trans HB3.out)
 have HL9:=zh (kt9.ints (Wx.out.keep k8));clear hK k8 hc9 hb9 EJ kt9 aY hg9 HC3 Wx HN3 HB3 zdZ Uv
 (repeat(quiet_step (fail)));refine wpQuiet_nil ?_
 refine ay rfl rfl fun K hK=> ?_;refine dn _ _ 44 _ _ rfl rfl rfl hr9 ?_;refine hK _ _ ⟨fun h=>(by simp at h),?_⟩;clear hK hr9
 (repeat(quiet_step (fail)));refine wpQuiet_nil ?_
 refine ay rfl rfl fun K hK=> ?_;go_simp;refine hK _ _ ⟨fun h=>(by simp at h),?_⟩;clear hK
 (repeat(quiet_step (fail)));refine wpQuiet_nil ?_
 refine NoPanic.normal ?_;clear hne z4 zl d0 d1 d2 d3 d4 d5 d6 d7 d8 zm lS3 l83 W X g4 g4f gl;generalize w9.setCell ⟨bS,4,none⟩ (.slice o9 (s.steps.length+1) c9)=wz at *;have d1:=cell_of_heap (o:=1) jN.out rfl;have dl:=lt_of_heap jN.out;have HI9:Hid (aR wz (.slice ol L.length cl) (L.map (·.1))):=zh (HL9.out.ints zdY.out);have CL:=zh (AP wz _ _ HI9.out (by rw [List.length_map];exact MW.out));go_wp2_with fail;refine CL.out.mono ?_;rintro e w8 ⟨u,rfl,hu,hk8⟩;have HU:=zh hu;have K8:=zh hk8;clear hu hk8 CL d1;go_wp2;refine bodyPost_ret (by simp [results,Tryz.results219,go_sem];rfl) rfl ?_;rw [HP.out];refine⟨fun _=>⟨u,rfl,World.ownsRow_mono HU.out (Nat.le_trans HC9.out.k.size (Nat.le_refl _)),_,_,_,_,_,HC9.out.keep K8.out⟩,fun h=>absurd XU.out (by rw [h];decide),HK9.out.trans (KT.of K8.out)⟩
end Go.Proofs.YtmepglhdcphffaaGreat
