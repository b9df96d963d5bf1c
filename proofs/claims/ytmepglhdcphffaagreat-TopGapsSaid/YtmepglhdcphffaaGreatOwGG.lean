/- Rows of the call's own whose elements have several cells: fractions, rows, lists. Fractions of numbers, as Frac answers them. Package tableau's Fracs. Rows appended to rows of the call's own; parts of slices of rows. -/
import Derived.Test.YtmepglhdcphffaaGreatPtAA
import Derived.Test.YtmepglhdcphffaaGreatFkAA
import Derived.Test.YtmepglhdcphffaaGreatRegVV
namespace Go.Proofs.YtmepglhdcphffaaGreat
set_option maxRecDepth 100000
set_option maxHeartbeats 8000000
set_option linter.unusedSimpArgs false
set_option linter.unusedVariables false
open Go.ChangeShapes Go.WideShapes Go.RowKit
section
variable {α:Type} {T:TypeId} {K:Nat} {c:α→List Value}
theorem Lg (hK:∀x,(c x).length=K)(l:List α):(l.flatMap c).length=l.length*K:=by
 induction l with
 | nil=>simp
 | cons g t ih=>
  rw [List.flatMap_cons,List.length_append,ih,hK,List.length_cons,Nat.succ_mul,Nat.add_comm]
theorem flat_get (hK:∀x,(c x).length=K):∀(l:List α) (i:Nat) (x:α),l[i]? =some x→∀j,j<K→(l.flatMap c)[i*K+j]? =(c x)[j]?
 | [],i,x,h,j,hj=>by simp at h
 | y::t,0,x,h,j,hj=>by
  simp at h;subst h;rw [List.flatMap_cons,Nat.zero_mul,Nat.zero_add,List.getElem?_append_left (by rw [hK];exact hj)]
 | y::t,i+1,x,h,j,hj=>by
  have ih:=flat_get hK t i x (by simpa using h) j hj;rw [List.flatMap_cons,List.getElem?_append_right (by rw [hK,Nat.succ_mul];omega),hK,←ih];congr 1;rw [Nat.succ_mul];omega
def aO (T:TypeId)(K:Nat)(c:α→List Value)(w:World)(base:Nat)(v:Value)(l:List α):Prop:=w.ownsRow base T K v l.length (l.flatMap c)
theorem aO.nil (w:World)(base:Nat):aO T K c w base (.slice none 0 0) []:=World.ownsRow_nil _ _ _ _
theorem aO.block {w:World}{base:Nat}{v:Value}{l:List α}(h:aO T K c w base v l):∀k,v.ownBlock=some k→base≤k:=fun k hk=>(World.ownsRow.lt h k hk).1
theorem aO.keep {w w':World}{base:Nat}{v:Value}{l:List α}(h:aO T K c w base v l)(k:Keep au w w'):aO T K c w' base v l:=by
 obtain⟨hl,h | ⟨g,cap,cur,hv,hb,hg,hl',hm,hs,ht⟩⟩:=h
 ·exact ⟨hl,.inl h⟩
 exact⟨hl,.inr ⟨g,cap,cur,hv,hb,by rw [k.block g (lt_of_heap hg) fun _ h=>h];exact hg,hl',hm,hs,ht⟩⟩
theorem aO.len {w:World}{base:Nat}{v:Value}{l:List α}(h:aO T K c w base v l):∃oa cap,v= .slice oa l.length cap∧l.length≤cap∧cap≤maxLen:=by
 obtain⟨hl,h | ⟨g,cap,cur,hv,hb,hg,hl',hm,hs,ht⟩⟩:=h
 ·obtain ⟨rfl,h0⟩:=h;exact⟨none,0,by rw [h0],om,sm⟩
 exact⟨_,cap,hv,hl',hm⟩
theorem aO.grown0 {w w':World}{base:Nat}{v:Value}{l:List α}{row:Option Nat}(h:aO T K c w base v l)(hg:w.grownBy w' row)(hr:∀k,v.ownBlock=some k→some k≠row):aO T K c w' base v l:=by
 obtain⟨hl,h | ⟨g,cap,cur,hv,hb,hgg,hl',hm,hs,ht⟩⟩:=h
 ·exact ⟨hl,.inl h⟩
 exact⟨hl,.inr ⟨g,cap,cur,hv,hb,by rw [hg.block g (lt_of_heap hgg) (hr g (by rw [hv];rfl))];exact hgg,hl',hm,hs,ht⟩⟩
theorem aO.cells (hK:∀x,(c x).length=K){w:World}{base:Nat}{v:Value}{l:List α}(h:aO T K c w base v l)(h0:l≠ []):∃g cap,v= .slice (some ⟨g,0,none⟩) l.length cap∧base≤g∧g<w.heap.size∧∀i x,l[i]? =some x→∀j u,(c x)[j]? =some u→w.cell? ⟨g,0+i*K+j,none⟩=some u:=by
 obtain⟨hl,h' | ⟨g,cap,cur,hv,hb,hg,hl',hm,hs,ht⟩⟩:=h
 ·obtain ⟨rfl,h1⟩:=h';exact absurd (List.eq_nil_of_length_eq_zero h1) h0
 refine⟨g,cap,hv,hb,lt_of_heap hg,fun i x hx j u hu=> ?_⟩;have hj:j<K:=by rw [← hK x];exact(List.getElem?_eq_some_iff.1 hu).1
 have hc:=flat_get hK l i x hx j hj;have hil:i<l.length:=(List.getElem?_eq_some_iff.1 hx).1;rw [← ht,List.getElem?_take]at hc;have hlt:i*K+j<l.length*K:=by
  have:(i+1)*K≤l.length*K:=Nat.mul_le_mul_right _ hil;rw [Nat.succ_mul]at this;omega
 rw [if_pos hlt,hu]at hc;rw [Nat.zero_add];exact cell_of_heap hg (by simpa using hc)
theorem aO.lt {w:World}{base:Nat}{v:Value}{l:List α}(h:aO T K c w base v l):∀k,v.ownBlock=some k→k<w.heap.size:=fun k hk=>(World.ownsRow.lt h k hk).2
theorem aO.app (hK:∀x,(c x).length=K){i:TypeInfo}{z:Value}{bytes:Nat}{sl:TypeId}(hu:Tryz.prog.underlying sl=some (.slice T))(hi:Tryz.prog.info? T=some i)(hz:i.zero=some z)(hs:i.size=K)(hb:i.bytes=bytes)(hzs:z.cells.size=K)(h0:0<K)
  {w:World} {base:Nat} {v:Value} {l:List α} (hown:aO T K c w base v l) {b:Nat} {x:α} (hbk:aL w b (c x).toArray) (h1:∀u∈c x,u.oneCell'=true) (hmx:l.length+1≤maxLen) (hby:(l.length+1)*bytes≤140737488355328) (hbase:base≤w.heap.size):
  ∃v' w',(Builtin.append_ #[sl,sl] sl #[v,.slice (some ⟨b,0,none⟩) 1 1]).run Tryz.prog w= .ok v' w'∧aO T K c w' base v' (l++ [x])∧w.grownBy w' v.ownBlock∧(v'.ownBlock=v.ownBlock∨v'.ownBlock=some w.heap.size):=by
 obtain⟨v',w',hr,ho,hg,_,hv⟩:=run_append_own_at (P:=Tryz.prog) w base sl sl T i z K bytes hu hi hz hs hb hzs h0 v l.length (l.flatMap c) hown ⟨b,0,none⟩ 1 1 (c x) (by rw [hK,Nat.one_mul])
  (fun j u hj=>by rw [add_plain,Nat.zero_add,hbk.cell j];simpa using hj) h1 hmx hby hbase
 exact⟨v',w',hr,by unfold aO;rw [List.flatMap_append,List.length_append];simpa using ho,hg,hv⟩
end
abbrev TF:TypeId:=95
theorem PK:(Tryz.prog.info? TF).map (fun i=>(i.zero,i.size,i.bytes))=some (some (.agg #[.int .i64 0,.int .i64 0]),2,16):=kr
def Ig (g:Fq):List Value:= [.int .i64 g.N,.int .i64 g.D]
theorem yC (g:Fq):(Ig g).length=2:=rfl
theorem PX (g:Fq):∀u∈Ig g,u.oneCell'=true:=by
 intro u hu;simp [Ig]at hu;rcases hu with rfl | rfl<;>rfl
abbrev lJ (w:World)(base:Nat)(v:Value)(l:List Fq):Prop:=aO TF 2 Ig w base v l
theorem aO.fracs {w:World}{base:Nat}{v:Value}{l:List Fq}(h:lJ w base v l)(hx:∀g∈l,dA g.N∧dA g.D):dM w v l:=by
 obtain⟨oa,cap,hv,h1,h2⟩:=h.len;refine⟨oa,cap,hv,h1,h2,hx,fun hne=> ?_⟩;obtain⟨g,cap',hv',hb,hlt,hc⟩:=aO.cells yC h hne;rw [hv]at hv';cases hv';exact⟨g,0,rfl,hlt,fun i x hi=>⟨hc i x hi 0 _ rfl,hc i x hi 1 _ rfl⟩⟩
theorem Kr {w:World}{base:Nat}{v:Value}{l:List Fq}(hown:lJ w base v l){b:Nat}{g:Fq}(hb:aL w b #[.int .i64 g.N,.int .i64 g.D])(hl:(l.length+1)*16≤140737488355328)(hbase:base≤w.heap.size):
  ∃v' w',(Builtin.append_ #[41,41] 41 #[v,.slice (some ⟨b,0,none⟩) 1 1]).run Tryz.prog w= .ok v' w'∧lJ w' base v' (l++ [g])∧w.grownBy w' v.ownBlock∧(v'.ownBlock=v.ownBlock∨v'.ownBlock=some w.heap.size):=by
 obtain⟨i0,hi0,hz0,hz1,hz2⟩:=info_parts PK;exact aO.app yC Tryz.underlying41 hi0 hz0 hz1 hz2 rfl dc hown (x:=g) hb (PX g) (by unfold maxLen;omega) hl hbase
def Apart (u v:Value):Prop:=∀k,u.ownBlock=some k→v.ownBlock≠some k
theorem Apart.symm {u v:Value}(h:Apart u v):Apart v u:=fun k h1 h2=>h k h2 h1
theorem Si (v:Value):Apart (.slice none 0 0) v:=fun k h=>by cases h
theorem Apart.step {u v v':Value}{n:Nat}(h:Apart u v)(hu:∀k,u.ownBlock=some k→k<n)(hv:v'.ownBlock=v.ownBlock∨v'.ownBlock=some n):Apart u v':=by
 intro k hk h';rcases hv with e | e
 ·exact h k hk (by rw [← e];exact h')
 rw [e]at h';have:=hu k hk;cases h';omega
theorem Apart.row {u v:Value}(h:Apart u v):∀k,u.ownBlock=some k→some k≠v.ownBlock:=fun k hk e=>h k hk e.symm
abbrev PL:TypeId:=34
theorem zcj:(Tryz.prog.info? PL).map (fun i=>(i.zero,i.size,i.bytes))=some (some (.agg #[.slice none 0 0,.int .i64 0,.int .i64 0]),3,40):=kr
structure xQ where
 sv:Value
 r:Rw
def JK (x:xQ):List Value:= [x.sv,.int .i64 x.r.kind,.int .i64 x.r.to]
def kC (w0 w:World)(base:Nat)(v:Value)(l:List Rw):Prop:=∃xs:List xQ,xs.map xQ.r=l∧(∀x∈xs,aR w0 x.sv x.r.of∧dA x.r.kind∧dA x.r.to∧xW x.sv)∧aO PL 3 JK w base v xs
theorem Jc (x:xQ):(JK x).length=3:=rfl
theorem zaL {w:World}{x:xQ}(h:aR w x.sv x.r.of):∀u∈JK x,u.oneCell'=true:=by
 obtain⟨oa,cap,e,_⟩:=h.len;intro u hu;simp [JK]at hu;rcases hu with rfl | rfl | rfl
 ·rw [e];rfl
 ·rfl
 rfl
theorem kC.nil (w0 w:World)(base:Nat):kC w0 w base (.slice none 0 0) []:=⟨[],rfl,sm,aO.nil _ _⟩
theorem kC.keep {w0 w w':World}{base:Nat}{v:Value}{l:List Rw}(h:kC w0 w base v l)(k:Keep au w w'):kC w0 w' base v l:=by
 obtain⟨xs,h1,h2,h3⟩:=h;exact⟨xs,h1,h2,h3.keep k⟩
theorem kC.len {w0 w:World}{base:Nat}{v:Value}{l:List Rw}(h:kC w0 w base v l):∃oa cap,v= .slice oa l.length cap∧l.length≤cap∧cap≤maxLen:=by
 obtain⟨xs,rfl,_,h3⟩:=h;rw [List.length_map];exact h3.len
theorem kC.block {w0 w:World}{base:Nat}{v:Value}{l:List Rw}(h:kC w0 w base v l):∀k,v.ownBlock=some k→base≤k:=by
 obtain⟨xs,_,_,h3⟩:=h;exact h3.block
theorem kC.lt {w0 w:World}{base:Nat}{v:Value}{l:List Rw}(h:kC w0 w base v l):∀k,v.ownBlock=some k→k<w.heap.size:=by
 obtain⟨xs,_,_,h3⟩:=h;exact h3.lt
theorem kC.grown0 {w0 w w':World}{base:Nat}{v:Value}{l:List Rw}{row:Option Nat}(h:kC w0 w base v l)(hg:w.grownBy w' row)(hr:∀k,v.ownBlock=some k→some k≠row):kC w0 w' base v l:=by
 obtain⟨xs,h1,h2,h3⟩:=h;exact⟨xs,h1,h2,h3.grown0 hg hr⟩
theorem kC.rows {w0 w:World}{base:Nat}{v:Value}{l:List Rw}(h:kC w0 w base v l)(k0:Keep au w0 w):iH w v l:=by
 obtain⟨xs,rfl,h2,h3⟩:=h;obtain⟨oa,cap,hv,h4,h5⟩:=h3.len;refine⟨oa,cap,by rw [List.length_map];exact hv,by rw [List.length_map];exact h4,h5,fun hne=> ?_⟩;obtain⟨g,cap',hv',hb,hlt,hc⟩:=aO.cells Jc h3 (by rintro rfl;simp at hne);rw [hv]at hv';cases hv';refine⟨g,0,rfl,hlt,fun i x hi=> ?_⟩;rw [List.getElem?_map]at hi;rcases hx:xs[i]? with _ | y
 ·rw [hx]at hi;cases hi
 rw [hx]at hi;simp at hi;subst hi;obtain⟨h6,h7⟩:=h2 y (List.mem_of_getElem? hx);exact⟨y.sv,hc i y hx 0 _ rfl,hc i y hx 1 _ rfl,hc i y hx 2 _ rfl,h6.keep k0,h7⟩
theorem ZG {w0 w:World}{base:Nat}{v:Value}{l:List Rw}(hown:kC w0 w base v l){b:Nat}{sv:Value}{r:Rw}(hb:aL w b #[sv,.int .i64 r.kind,.int .i64 r.to])(hi:aR w0 sv r.of∧dA r.kind∧dA r.to∧xW sv)(hl:(l.length+1)*40≤140737488355328)(hbase:base≤w.heap.size):
  ∃v' w',(Builtin.append_ #[56,56] 56 #[v,.slice (some ⟨b,0,none⟩) 1 1]).run Tryz.prog w= .ok v' w'∧kC w0 w' base v' (l++ [r])∧w.grownBy w' v.ownBlock∧(v'.ownBlock=v.ownBlock∨v'.ownBlock=some w.heap.size):=by
 obtain⟨i0,hi0,hz0,hz1,hz2⟩:=info_parts zcj;obtain⟨xs,rfl,h2,h3⟩:=hown;rw [List.length_map]at hl;obtain⟨v',w',hr,ho,hg,hv⟩:=aO.app Jc Tryz.underlying56 hi0 hz0 hz1 hz2 rfl dc h3 (x:=⟨sv,r⟩) hb (zaL hi.1) (by unfold maxLen;omega) hl hbase;refine⟨v',w',hr,⟨xs++ [⟨sv,r⟩],sm,fun x hx=> ?_,ho⟩,hg,hv⟩;rcases List.mem_append.1 hx with hx | hx
 ·exact h2 x hx
 rw [List.mem_singleton]at hx;subst hx;exact hi
theorem pW {S:Nat→Bool}{e d:Nat}(h:mark S e d=false):S d=false:=by
 unfold mark at h;split at h
 ·cases h
 exact h
def eX (q:Rat):Fq:=if Fits q then⟨q.num,q.den⟩else⟨0,0⟩
theorem kM (S:Nat→Bool)(e:Nat):mark S e e=true:=by unfold mark;rw [if_pos rfl]
theorem dL {S:Nat→Bool}{e d:Nat}(h:d≠e):mark S e d=S d:=by unfold mark;rw [if_neg h]
theorem Gn (q:Rat):pQ q= .tuple #[.agg #[.int .i64 (eX q).N,.int .i64 (eX q).D],.bool (decide (Fits q))]:=by
 unfold pQ eX;by_cases h:Fits q
 ·rw [if_pos h,if_pos h,decide_eq_true h];rfl
 rw [if_neg h,if_neg h,decide_eq_false h];rfl
def allFit (qs:List Rat)(k:Nat):Bool:=(qs.take k).all fun q=>decide (Fits q)
theorem Ba {qs:List Rat}{k:Nat}(h:k<qs.length):allFit qs (k+1)=(allFit qs k&&decide (Fits qs[k])):=by
 unfold allFit;rw [List.take_succ_eq_append_getElem h,List.all_append];simp
theorem zaM {qs:List Rat}{k:Nat}(h:k<qs.length):(qs.take (k+1)).map eX=(qs.take k).map eX++ [eX qs[k]]:=by
 rw [List.take_succ_eq_append_getElem h,List.map_append];rfl
theorem Ib (w:World)(v:Value)(qs:List Rat)(h:jf w v qs)(hn:∀q∈qs,NB 1000 q)(hl:qs.length≤1000):
  Calls Tryz.prog 33 #[v] w fun e w'=>∃u,e= .returned (.tuple #[u,.bool (allFit qs qs.length)])∧lJ w' w.heap.size u (qs.map eX)∧Keep au w w':=by
 have HQ:=zh h;have HN:=zh hn;obtain⟨oa,ca,rfl,_,hma⟩:=h.len;unfold maxLen at hma;clear h hn;go_enter Tryz.func33,Tryz.ntmps33;go_wp2;go_loopw [4,5,12] (fun s4 s5 s12 wr=>∃k:Nat,k≤qs.length∧s12= .int .i64 k∧s5= .bool (allFit qs k)∧Keep au w wr∧lJ wr w.heap.size s4 ((qs.take k).map eX)) (fun _ _ s _=>(qs.length-intOf s).toNat)
 case atStart=>exact⟨0,om,rfl,rfl,Keep.refl _ _,aO.nil _ _⟩
 obtain⟨k,hk,rfl,rfl,hkr,hou⟩:=hrel;have dH:=zh hkr;have zD:=zh hou;obtain⟨ou,cu,hu,_⟩:=hou.len;rw [List.length_map,List.length_take_of_le hk]at hu;subst hu;clear hkr hou;by_cases hkl:k<qs.length
 case neg=>
  have hlt:¬(k:Int)<(qs.length:Int):=om;obtain rfl:k=qs.length:=om;go_wp2;refine bodyPost_ret (by simp [results,Tryz.results33,go_sem];rfl) rfl ?_;refine⟨_,rfl,?_,dH.out⟩;have:=zD.out;rwa [List.take_length]at this
 have hlt:(k:Int)<(qs.length:Int):=om;obtain⟨b,o,rfl,hb,xb,xS,xc,xU,p0,p1,p2,p3,hx⟩:=(HQ.out.keep dH.out).at hkl;have HX:=zh hx;have CF:=fun w=>zh (D7 w _ _ hx (HN.out _ (List.getElem_mem hkl)));rw [Gn]at CF;have HAS:=zh (Ba hkl);have HTF:=zh (zaM hkl);have hone:((qs.take k).map eX).length=k:=by rw [List.length_map,List.length_take_of_le hk]
 have zfi:=zh hone;clear hone;obtain⟨p,hp⟩:∃p,qs[k]=p:=⟨_,rfl⟩;rw [hp]at CF HAS HTF;clear hp;go_wp2_with fail;refine(CF _).out.mono ?_;rintro e w4 ⟨rfl,hk4⟩;have K4:Hid (Keep au w w4):=zh (dH.out.both (Keep.trans kp hk4 fun _ _ _ h=>h));have Rs:=zh (zD.out.keep (Keep.trans kp hk4 fun _ _ _ h=>h:Keep au wr w4));have EG:Hid (w.heap.size≤w4.heap.size):=zh K4.out.size;clear hk4 CF p0 p1 p2 p3 dH zD hb;have k6:Keep au w4 ((w4.alloc (.cells #[.int .i64 (eX p).N,.int .i64 (eX p).D] 95)).alloc (.cells #[.int .i64 (eX p).N,.int .i64 (eX p).D] 95)):=((Keep.refl _ _).alloc _).alloc _;obtain⟨v7,w7,hr7,ho7,hg7,_⟩:=Kr (g:=eX p) (b:=w4.heap.size+1) (Rs.out.keep k6) kc (by rw [zfi.out];omega) (Nat.le_trans EG.out k6.size);have hblk:=fun kk hh=>Rs.out.block kk hh;have K7:=zh ((K4.out.both k6).grown hg7 fun kk hh=>hblk kk hh);rw [← HTF.out]at ho7;have YN:=zh ho7;obtain⟨o7,c7,hs7,_⟩:=ho7.len;rw [List.length_map,List.length_take_of_le om]at hs7;subst hs7;generalize (eX p).N=fn at *;generalize (eX p).D=fd at *;clear k6 ho7 hg7 hblk K4 Rs;generalize hak:allFit qs k=ak at *;generalize hfp:decide (Fits p)=fp at *;clear hak hfp;cases ak
 ·go_wp2_with (at_builtin;refine aV _ _ 41 _ _ rfl rfl rfl rfl hr7 ?_);go_roundw
  case rel=>exact⟨k+1,om,gn,by rw [HAS.out];rfl,K7.out,YN.out⟩
  simp [intOf];omega
 go_wp2_with (at_builtin;refine aV _ _ 41 _ _ rfl rfl rfl rfl hr7 ?_);go_roundw
 case rel=>exact⟨k+1,om,gn,by rw [HAS.out];rfl,K7.out,YN.out⟩
 simp [intOf];omega
theorem zaN:(Tryz.prog.info? PL).map (fun i=>(i.zero,i.size,i.bytes))=some (some (.agg #[.slice none 0 0,.int .i64 0,.int .i64 0]),3,40):=kr
theorem XV {α:Type}{K:Nat}{c:α→List Value}(hK:∀x,(c x).length=K)(l:List α):(l.flatMap c).length=l.length*K:=by
 induction l with
 | nil=>simp
 | cons g t ih=>
  rw [List.flatMap_cons,List.length_append,ih,hK,List.length_cons,Nat.succ_mul,Nat.add_comm]
theorem zck {w:World}{x:xQ}(h:aR w x.sv x.r.of):∀u∈JK x,u.oneCell'=true:=by
 obtain⟨oa,cap,e,_⟩:=h.len;intro u hu;simp [JK]at hu;rcases hu with rfl | rfl | rfl
 ·rw [e];rfl
 ·rfl
 rfl
theorem Ma {w:World}{b:Nat}:∀(xs:List Rw) (o:Nat),(∀i r,xs[i]? =some r→JB w b (o+i*3) r)→∃ys:List xQ,ys.map xQ.r=xs∧(∀x∈ys,aR w x.sv x.r.of∧dA x.r.kind∧dA x.r.to∧xW x.sv)∧∀j u,(ys.flatMap JK)[j]? =some u→w.cell? ⟨b,o+j,none⟩=some u
 | [],o,_=>⟨[],rfl,sm,sm⟩
 | r::xs,o,h=>by
  obtain⟨sv,c0,c1,c2,hi,h5⟩:=h 0 r rfl;rw [Nat.zero_mul,Nat.add_zero]at c0 c1 c2;obtain⟨ys,e,hy,hc⟩:=Ma xs (o+3) (fun i x hx=>by
   have:=h (i+1) x (by simpa using hx);rw [show o+(i+1)*3=o+3+i*3 from om]at this;exact this)
  refine⟨⟨sv,r⟩::ys,by simp [e],?_,?_⟩
  ·intro x hx;rcases List.mem_cons.1 hx with rfl | hx
   ·exact ⟨hi,h5⟩
   exact hy x hx
  intro j u hj;rw [List.flatMap_cons]at hj;rcases j with _ | _ | _ | j
  ·simp [JK]at hj;subst hj;exact c0
  ·simp [JK]at hj;subst hj;exact c1
  ·simp [JK]at hj;subst hj;exact c2
  have:=hc j u (by simpa [JK]using hj);rw [show o+(j+1+1+1)=o+3+j from om];exact this
theorem WU {w0 w:World}{base:Nat}{v:Value}{l:List Rw}(hown:kC w0 w base v l){u:Value}{xs:List Rw}(hu:iH w0 u xs)(k:Keep au w0 w)(hl:(l.length+xs.length)*40≤140737488355328)(hbase:base≤w.heap.size):
  ∃v' w',(Builtin.append_ #[56,56] 56 #[v,u]).run Tryz.prog w= .ok v' w'∧kC w0 w' base v' (l++xs)∧w.grownBy w' v.ownBlock:=by
 obtain⟨i0,hi0,hz0,hz1,hz2⟩:=info_parts zaN;obtain⟨zs,rfl,h2,h3⟩:=hown;rw [List.length_map]at hl;obtain⟨oa,cap,rfl,h4,h5,h6⟩:=hu;obtain⟨ys,hys,hy,hsrc⟩:∃ys:List xQ,ys.map xQ.r=xs∧(∀x∈ys,aR w0 x.sv x.r.of∧dA x.r.kind∧dA x.r.to∧xW x.sv)∧(0<xs.length→∃a,oa=some a∧∀j u,(ys.flatMap JK)[j]? =some u→w.cell? (a.add j)=some u):=by
  by_cases hne:xs= []
  ·subst hne;exact⟨[],rfl,sm,fun h=>absurd h sm⟩
  obtain⟨b,o,rfl,hb,hc⟩:=h6 hne;obtain⟨ys,e,hy,hcc⟩:=Ma xs o hc;refine⟨ys,e,hy,fun _=>⟨_,rfl,fun j u hj=> ?_⟩⟩;rw [show(⟨b,o,none⟩:Addr).add j=⟨b,o+j,none⟩from by unfold Addr.add;split<;>simp_all,k.cell hb];exact hcc j u hj
 subst hys;rw [List.length_map]at hsrc hl;obtain⟨v',w',hr,ho,hg⟩:=vE (P:=Tryz.prog) (w:=w) (ty:=56) Tryz.underlying56 hi0 hz0 hz1 hz2 rfl dc base v zs.length (zs.flatMap JK) h3 oa ys.length cap (ys.flatMap JK) (by rw [XV Jc]) hsrc (fun u hu=>by
  obtain⟨x,hx,hu⟩:=List.mem_flatMap.1 hu;exact zck (hy x hx).1 u hu) (by unfold maxLen;omega) om hbase
 refine⟨v',w',by rw [List.length_map];exact hr,⟨zs++ys,sm,fun x hx=> ?_,by unfold aO;rw [List.flatMap_append,List.length_append];exact ho⟩,hg⟩;rcases List.mem_append.1 hx with hx | hx
 ·exact h2 x hx
 exact hy x hx
end Go.Proofs.YtmepglhdcphffaaGreat
