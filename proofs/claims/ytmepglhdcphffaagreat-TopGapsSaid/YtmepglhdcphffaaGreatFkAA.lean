/- Package row's List; the reference's Rows. The reference's Rows. Lists of exact numbers, as they lie in memory. Package farkas's numbers: fractions as exact numbers. Combinations of rows: plain. -/
import Derived.Test.YtmepglhdcphffaaGreatPtAA
import Derived.Test.YtmepglhdcphffaaGreatExAA
namespace Go.Proofs.YtmepglhdcphffaaGreat
set_option linter.unusedSimpArgs false
set_option linter.unusedVariables false
open Go.ChangeShapes Go.WideShapes Go.RowKit
structure NV where
 nb:Bool
 nS:ByteArray
 db:Bool
 dS:ByteArray
def NV.v (x:NV):Value:= .agg #[.bool x.nb,.string x.nS,.bool x.db,.string x.dS]
def NV.L (x:NV):List Value:= [.bool x.nb,.string x.nS,.bool x.db,.string x.dS]
def nv0:NV:=⟨false,⟨#[]⟩,false,⟨#[]⟩⟩
theorem Ci {v:Value}{q:Rat}(h:bM v q):∃x:NV,v=x.v:=by
 obtain⟨d,rfl,_⟩:=h;exact⟨⟨_,_,_,_⟩,rfl⟩
theorem rJ:bM nv0.v 0:=by have:=Px;rwa [Py]at this
theorem eP (q:Rat):∃x:NV,qj q=x.v∧bM x.v q:=by
 obtain⟨x,hx⟩:=Ci (oV q);exact⟨x,hx,by rw [← hx];exact oV q⟩
def GV (l:List NV):List Value:=l.flatMap NV.L
theorem GX (l:List NV):(GV l).length=l.length*4:=by
 induction l with
 | nil=>rfl
 | cons g t ih=>
  have:GV (g::t)=g.L++GV t:=rfl;rw [this,List.length_append,ih];simp [NV.L];omega
theorem rM:∀(l:List NV) (i:Nat) (g:NV),l[i]? =some g→(GV l)[i*4]? =some (.bool g.nb)∧(GV l)[i*4+1]? =some (.string g.nS)∧(GV l)[i*4+2]? =some (.bool g.db)∧(GV l)[i*4+3]? =some (.string g.dS)
 | [],i,g,h=>by simp at h
 | x::t,0,g,h=>by
  simp at h;subst h;exact⟨rfl,rfl,rfl,rfl⟩
 | x::t,i+1,g,h=>by
  have ih:=rM t i g (by simpa using h);have e:GV (x::t)=Value.bool x.nb::Value.string x.nS::Value.bool x.db::Value.string x.dS::GV t:=rfl;rw [e,show(i+1)*4=i*4+1+1+1+1 from om,show i*4+1+1+1+1+1=(i*4+1)+1+1+1+1 from om,show i*4+1+1+1+1+2=(i*4+2)+1+1+1+1 from om,show i*4+1+1+1+1+3=(i*4+3)+1+1+1+1 from om];simpa using ih
theorem Zf (l:List NV)(x:NV):GV l++x.L=GV (l++ [x]):=by simp [GV]
def rO (l:List NV)(qs:List Rat):Prop:=l.length=qs.length∧∀(i:Nat) (x:NV) (q:Rat),l[i]? =some x→qs[i]? =some q→bM x.v q
theorem rO.nil:rO [] []:=⟨rfl,fun i x q h=>by simp at h⟩
theorem rO.push {l:List NV}{qs:List Rat}(h:rO l qs){x:NV}{q:Rat}(hx:bM x.v q):rO (l++ [x]) (qs++ [q]):=by
 refine⟨by simp [h.1],fun i y p hy hp=> ?_⟩;by_cases hi:i<l.length
 ·rw [List.getElem?_append_left hi]at hy;rw [List.getElem?_append_left (by rw [← h.1];exact hi)]at hp;exact h.2 i y p hy hp
 rw [List.getElem?_append_right om]at hy;rw [List.getElem?_append_right (by rw [← h.1];omega)]at hp;rw [← h.1]at hp;have hz:i-l.length=0:=by
  have:=(List.getElem?_eq_some_iff.1 hy).1;simp at this;exact this
 rw [hz]at hy hp;simp at hy hp;subst hy hp;exact hx
theorem rO.set {l:List NV}{qs:List Rat}(h:rO l qs)(k:Nat){x:NV}{q:Rat}(hx:bM x.v q):rO (l.set k x) (qs.set k q):=by
 refine⟨by simp [h.1],fun i y p hy hp=> ?_⟩;rw [List.getElem?_set]at hy hp;by_cases hik:k=i
 ·subst hik;rw [if_pos rfl]at hy hp;split at hy
  ·rw [if_pos (by rw [← h.1];assumption)]at hp;simp at hy hp;subst hy hp;exact hx
  simp at hy
 rw [if_neg hik]at hy hp;exact h.2 i y p hy hp
theorem rO.zeros (n:Nat):rO (List.replicate n nv0) (List.replicate n 0):=by
 refine⟨sm,fun i x q hx hq=> ?_⟩;obtain⟨h1,rfl⟩:=List.getElem?_eq_some_iff.1 hx;obtain⟨h2,rfl⟩:=List.getElem?_eq_some_iff.1 hq;simp only [List.getElem_replicate];exact rJ
theorem rO.at {l:List NV}{qs:List Rat}(h:rO l qs){k:Nat}(hk:k<qs.length):∃x,l[k]? =some x∧bM x.v qs[k]:=by
 have hl:k<l.length:=by rw [h.1];exact hk
 exact⟨l[k],by simp [hl],h.2 k _ _ (by simp [hl]) (by simp [hk])⟩
def U5 (w:World)(b o:Nat)(l:List NV):Prop:=∀(i:Nat) (x:NV),l[i]? =some x→w.cell? ⟨b,o+i*4,none⟩=some (.bool x.nb)∧w.cell? ⟨b,o+i*4+1,none⟩=some (.string x.nS)∧w.cell? ⟨b,o+i*4+2,none⟩=some (.bool x.db)∧w.cell? ⟨b,o+i*4+3,none⟩=some (.string x.dS)
def jf (w:World)(v:Value)(qs:List Rat):Prop:=
 ∃(oa:Option Addr) (cap:Nat) (l:List NV),v= .slice oa qs.length cap∧qs.length≤cap∧cap≤maxLen∧rO l qs∧(qs≠ []→∃b o,oa=some ⟨b,o,none⟩∧b<w.heap.size∧U5 w b o l)
theorem jf.keep {w w':World}{v:Value}{qs:List Rat}(h:jf w v qs)(k:Keep au w w'):jf w' v qs:=by
 obtain⟨oa,cap,l,h1,h2,h2',h3,h4⟩:=h;refine⟨oa,cap,l,h1,h2,h2',h3,fun hne=> ?_⟩;obtain⟨b,o,e,hb,hc⟩:=h4 hne;exact⟨b,o,e,bJ hb k.size,fun i g hg=>by simp only [k.cell hb];exact hc i g hg⟩
theorem jf.len {w:World}{v:Value}{qs:List Rat}(h:jf w v qs):∃oa cap,v= .slice oa qs.length cap∧qs.length≤cap∧cap≤maxLen:=by
 obtain⟨oa,cap,l,h1,h2,h2',_⟩:=h;exact⟨oa,cap,h1,h2,h2'⟩
theorem jf.at {w:World}{oa:Option Addr}{n cap:Nat}{qs:List Rat}(h:jf w (.slice oa n cap) qs){k:Nat}(hk:k<qs.length):
  ∃b o,oa=some ⟨b,o,none⟩∧b<w.heap.size∧∃nb nS db dS,w.cell? ⟨b,o+k*4,none⟩=some (.bool nb)∧w.cell? ⟨b,o+k*4+1,none⟩=some (.string nS)∧w.cell? ⟨b,o+k*4+2,none⟩=some (.bool db)∧w.cell? ⟨b,o+k*4+3,none⟩=some (.string dS)∧bM (.agg #[.bool nb,.string nS,.bool db,.string dS]) qs[k]:=by
 obtain⟨MP,cap',l,hv,_,_,hA,h4⟩:=h;cases hv;obtain⟨b,o,e,hb,hc⟩:=h4 (by rintro rfl;simp at hk);obtain⟨x,hx,hn⟩:=hA.at hk;obtain⟨h1,h2,h3,h4⟩:=hc k x hx;exact⟨b,o,e,hb,_,_,_,_,h1,h2,h3,h4,hn⟩
def bD (w:World)(g:Nat)(qs:List Rat):Prop:=∃A:Array Value,∃l:List NV,aL w g A∧rO l qs∧∀(i:Nat) (x:NV),l[i]? =some x→A[i*4]? =some (.bool x.nb)∧A[i*4+1]? =some (.string x.nS)∧A[i*4+2]? =some (.bool x.db)∧A[i*4+3]? =some (.string x.dS)
theorem bD.lt {w:World}{g:Nat}{qs:List Rat}(h:bD w g qs):g<w.heap.size:=by obtain⟨A,l,h,_⟩:=h;exact h.lt
theorem bD.keep {w w':World}{g:Nat}{qs:List Rat}(h:bD w g qs)(k:Keep au w w'):bD w' g qs:=by
 obtain⟨A,l,h,hA⟩:=h;exact⟨A,l,h.keep k,hA⟩
theorem bD.old {w:World}{g:Nat}{qs:List Rat}(h:bD w g qs)(o:Obj):bD (w.alloc o) g qs:=h.keep ((Keep.refl _ _).alloc o)
theorem bD.other {w:World}{g g':Nat}{qs:List Rat}(h:bD w g qs)(i:Nat)(v:Value)(hne:g≠g'):bD (w.setCell ⟨g',i,none⟩ v) g qs:=by
 obtain⟨A,l,h,hA⟩:=h;exact⟨A,l,h.setOther i v hne,hA⟩
theorem bD.at {w:World}{g:Nat}{qs:List Rat}(h:bD w g qs){k:Nat}(hk:k<qs.length):
  ∃nb nS db dS,w.cell? ⟨g,k*4,none⟩=some (.bool nb)∧w.cell? ⟨g,k*4+1,none⟩=some (.string nS)∧w.cell? ⟨g,k*4+2,none⟩=some (.bool db)∧w.cell? ⟨g,k*4+3,none⟩=some (.string dS)∧
   bM (.agg #[.bool nb,.string nS,.bool db,.string dS]) qs[k]∧w.frozen? ⟨g,k*4,none⟩=false∧w.frozen? ⟨g,k*4+1,none⟩=false∧w.frozen? ⟨g,k*4+2,none⟩=false∧w.frozen? ⟨g,k*4+3,none⟩=false:=by
 obtain⟨A,l,h,hA,hc⟩:=h;obtain⟨x,hx,hn⟩:=hA.at hk;obtain⟨h1,h2,h3,h4⟩:=hc k x hx;exact⟨_,_,_,_,by rw [h.cell];exact h1,by rw [h.cell];exact h2,by rw [h.cell];exact h3,by rw [h.cell];exact h4,hn,h.free _,h.free _,h.free _,h.free _⟩
theorem bD.set {w:World}{g:Nat}{qs:List Rat}(h:bD w g qs){k:Nat}{nb:Bool}{nS:ByteArray}{db:Bool}{dS:ByteArray}{q:Rat}(hq:bM (.agg #[.bool nb,.string nS,.bool db,.string dS]) q):
  bD ((((w.setCell ⟨g,k*4,none⟩ (.bool nb)).setCell ⟨g,k*4+1,none⟩ (.string nS)).setCell ⟨g,k*4+2,none⟩ (.bool db)).setCell ⟨g,k*4+3,none⟩ (.string dS)) g (qs.set k q):=by
 obtain⟨A,l,h,hA,hc⟩:=h;refine⟨_,l.set k ⟨nb,nS,db,dS⟩,(((h.set _ _).set _ _).set _ _).set _ _,hA.set k hq,fun i x hx=> ?_⟩;rw [List.getElem?_set]at hx;by_cases hik:k=i
 ·subst hik;rw [if_pos rfl]at hx;split at hx
  ·rename_i hk;simp at hx;subst hx;obtain⟨h1,h2,h3,h4⟩:=hc k l[k] (by simp [hk]);have e1:=(Array.getElem?_eq_some_iff.1 h1).1;have e2:=(Array.getElem?_eq_some_iff.1 h2).1;have e3:=(Array.getElem?_eq_some_iff.1 h3).1;have e4:=(Array.getElem?_eq_some_iff.1 h4).1;refine⟨?_,?_,?_,?_⟩<;>simp [Array.getElem?_setIfInBounds,e1,e2,e3,e4]
  simp at hx
 rw [if_neg hik]at hx;obtain⟨h1,h2,h3,h4⟩:=hc i x hx;refine⟨?_,?_,?_,?_⟩
 ·rw [Array.getElem?_setIfInBounds_ne om,Array.getElem?_setIfInBounds_ne om,Array.getElem?_setIfInBounds_ne om,Array.getElem?_setIfInBounds_ne om];exact h1
 ·rw [Array.getElem?_setIfInBounds_ne om,Array.getElem?_setIfInBounds_ne om,Array.getElem?_setIfInBounds_ne om,Array.getElem?_setIfInBounds_ne om];exact h2
 ·rw [Array.getElem?_setIfInBounds_ne om,Array.getElem?_setIfInBounds_ne om,Array.getElem?_setIfInBounds_ne om,Array.getElem?_setIfInBounds_ne om];exact h3
 rw [Array.getElem?_setIfInBounds_ne om,Array.getElem?_setIfInBounds_ne om,Array.getElem?_setIfInBounds_ne om,Array.getElem?_setIfInBounds_ne om];exact h4
theorem bD.nums {w:World}{g:Nat}{qs:List Rat}(h:bD w g qs){n cap:Nat}(hn:n=qs.length)(h1:qs.length≤cap)(h2:cap≤maxLen):jf w (.slice (some ⟨g,0,none⟩) n cap) qs:=by
 subst hn;obtain⟨A,l,h,hA,hc⟩:=h;refine⟨_,cap,l,rfl,h1,h2,hA,fun _=>⟨g,0,rfl,h.lt,fun i x hx=> ?_⟩⟩;obtain⟨c0,c1,c2,c3⟩:=hc i x hx;rw [Nat.zero_add];exact⟨by rw [h.cell];exact c0,by rw [h.cell];exact c1,by rw [h.cell];exact c2,by rw [h.cell];exact c3⟩
theorem Ra {w0 w:World}{b o:Nat}(h:Keep au w0 w)(hb:w0.heap.size≤b)(u v x y:Value):Keep au w0 ((((w.setCell ⟨b,o,none⟩ u).setCell ⟨b,o+1,none⟩ v).setCell ⟨b,o+2,none⟩ x).setCell ⟨b,o+3,none⟩ y):=
 (((h.setCell _ (fun h=>absurd h om)).setCell _ (fun h=>absurd h om)).setCell _ (fun h=>absurd h om)).setCell _ (fun h=>absurd h om)
theorem aL.otherN {w:World}{b b' o:Nat}{A:Array Value}(h:aL w b A)(hne:b≠b')(p q r s:Value):aL ((((w.setCell ⟨b',o,none⟩ p).setCell ⟨b',o+1,none⟩ q).setCell ⟨b',o+2,none⟩ r).setCell ⟨b',o+3,none⟩ s) b A:=
 (((h.setOther _ _ hne).setOther _ _ hne).setOther _ _ hne).setOther _ _ hne
theorem bD.otherN {w:World}{b b' o:Nat}{qs:List Rat}(h:bD w b qs)(hne:b≠b')(p q r s:Value):bD ((((w.setCell ⟨b',o,none⟩ p).setCell ⟨b',o+1,none⟩ q).setCell ⟨b',o+2,none⟩ r).setCell ⟨b',o+3,none⟩ s) b qs:=
 (((h.other _ _ hne).other _ _ hne).other _ _ hne).other _ _ hne
abbrev U6:TypeId:=102
theorem Pz:(Tryz.prog.info? U6).map (fun i=>(i.zero,i.size,i.bytes))=some (some (.agg #[.bool false,.string ⟨#[]⟩,.bool false,.string ⟨#[]⟩]),4,48):=kr
def oK (w:World)(base:Nat)(v:Value)(qs:List Rat):Prop:=∃l,rO l qs∧w.ownsRow base U6 4 v l.length (GV l)
theorem oK.nil (w:World)(base:Nat):oK w base (.slice none 0 0) []:=⟨[],rO.nil,World.ownsRow_nil _ _ _ _⟩
theorem oK.block {w:World}{base:Nat}{v:Value}{qs:List Rat}(h:oK w base v qs):∀k,v.ownBlock=some k→base≤k:=by
 obtain⟨l,_,h⟩:=h;exact fun k hk=>(World.ownsRow.lt h k hk).1
theorem oK.keep {w w':World}{base:Nat}{v:Value}{qs:List Rat}(h:oK w base v qs)(k:Keep au w w'):oK w' base v qs:=by
 obtain⟨l,hA,hl,h | ⟨g,cap,cur,hv,hb,hg,hl',hm,hs,ht⟩⟩:=h
 ·exact ⟨l,hA,hl,.inl h⟩
 exact⟨l,hA,hl,.inr ⟨g,cap,cur,hv,hb,by rw [k.block g (lt_of_heap hg) fun _ h=>h];exact hg,hl',hm,hs,ht⟩⟩
theorem oK.len {w:World}{base:Nat}{v:Value}{qs:List Rat}(h:oK w base v qs):∃oa cap,v= .slice oa qs.length cap:=by
 obtain⟨l,hA,hl,h | ⟨g,cap,cur,hv,hb,hg,hl',hm,hs,ht⟩⟩:=h
 ·obtain ⟨rfl,h0⟩:=h;exact⟨none,0,by rw [← hA.1,h0]⟩
 exact⟨_,cap,by rw [hv,hA.1]⟩
theorem oK.cells {w:World}{base g cap m:Nat}{l:List NV}(h:w.ownsRow base U6 4 (.slice (some ⟨g,0,none⟩) m cap) m (GV l)):U5 w g 0 l:=by
 intro i x hx;obtain⟨c0,c1,c2,c3⟩:=rM l i x hx;have hc:=fun j u=>h.cells (g:=g) rfl j u;have e:∀j,(⟨g,0,none⟩:Addr).add j=⟨g,0+j,none⟩:=fun j=>add_plain g 0 j;refine⟨?_,?_,?_,?_⟩
 ·rw [← hc _ _ c0,e]
 ·rw [← hc _ _ c1,e,←Nat.add_assoc]
 ·rw [← hc _ _ c2,e,←Nat.add_assoc]
 rw [← hc _ _ c3,e,←Nat.add_assoc]
theorem oK.nums {w:World}{base:Nat}{v:Value}{qs:List Rat}(h:oK w base v qs):jf w v qs:=by
 obtain⟨l,hA,hl,h | ⟨g,cap,cur,hv,hb,hg,hl',hm,hs,ht⟩⟩:=h
 ·obtain ⟨rfl,h0⟩:=h;have:qs= []:=List.eq_nil_of_length_eq_zero (by rw [← hA.1,h0]);subst this;exact⟨none,0,l,rfl,sm,sm,hA,fun h=>absurd rfl h⟩
 refine⟨_,cap,l,by rw [hv,hA.1],by rw [← hA.1];exact hl',hm,hA,fun _=>⟨g,0,rfl,lt_of_heap hg,?_⟩⟩;exact oK.cells (base:=base) (m:=l.length) (cap:=cap) ⟨hl,.inr ⟨g,cap,cur,rfl,hb,hg,hl',hm,hs,ht⟩⟩
theorem wI {w:World}{base g cap m:Nat}{l:List NV}{qs:List Rat}(hA:rO l qs)(h:w.ownsRow base U6 4 (.slice (some ⟨g,0,none⟩) m cap) m (GV l)):bD w g qs:=by
 obtain⟨hl,h | ⟨g',cap',cur,hv,hb,hg,hl',hm,hs,ht⟩⟩:=h
 ·obtain ⟨h,_⟩:=h;cases h
 cases hv;refine⟨cur,l,⟨_,hg⟩,hA,fun i x hx=> ?_⟩;have hil:i<l.length:=(List.getElem?_eq_some_iff.1 hx).1;rw [GX]at hl;have hc:∀j u,j<4→(GV l)[i*4+j]? =some u→cur[i*4+j]? =some u:=by
  intro j u hj hu;rw [← ht,List.getElem?_take,if_pos om]at hu;simpa using hu
 obtain⟨c0,c1,c2,c3⟩:=rM l i x hx;exact⟨hc 0 _ om c0,hc 1 _ om c1,hc 2 _ om c2,hc 3 _ om c3⟩
theorem oK.blk {w:World}{base:Nat}{v:Value}{qs:List Rat}(h:oK w base v qs)(h0:qs≠ []):∃g cap,v= .slice (some ⟨g,0,none⟩) qs.length cap∧base≤g∧bD w g qs∧qs.length≤cap∧cap≤maxLen:=by
 obtain⟨l,hA,hl,h | ⟨g,cap,cur,hv,hb,hg,hl',hm,hs,ht⟩⟩:=h
 ·obtain ⟨rfl,h1⟩:=h;exact absurd (List.eq_nil_of_length_eq_zero (by rw [← hA.1,h1])) h0
 exact⟨g,cap,by rw [hv,hA.1],hb,wI (base:=base) (m:=l.length) (cap:=cap) hA ⟨hl,.inr ⟨g,cap,cur,rfl,hb,hg,hl',hm,hs,ht⟩⟩,by rw [← hA.1];exact hl',hm⟩
theorem oK.grown0 {w w':World}{base:Nat}{v:Value}{qs:List Rat}{row:Option Nat}(h:oK w base v qs)(hg:w.grownBy w' row)(hr:∀k,v.ownBlock=some k→some k≠row):oK w' base v qs:=by
 obtain⟨l,hA,hl,h | ⟨g,cap,cur,hv,hb,hgg,hl',hm,hs,ht⟩⟩:=h
 ·exact ⟨l,hA,hl,.inl h⟩
 exact⟨l,hA,hl,.inr ⟨g,cap,cur,hv,hb,by rw [hg.block g (lt_of_heap hgg) (hr g (by rw [hv];rfl))];exact hgg,hl',hm,hs,ht⟩⟩
theorem Zg {w:World}{base:Nat}{v:Value}{qs:List Rat}(hown:oK w base v qs){b:Nat}{x:NV}{q:Rat}(hb:aL w b #[.bool x.nb,.string x.nS,.bool x.db,.string x.dS])(hx:bM x.v q)(hl:(qs.length+1)*48≤140737488355328)(hbase:base≤w.heap.size):
  ∃v' w',(Builtin.append_ #[86,86] 86 #[v,.slice (some ⟨b,0,none⟩) 1 1]).run Tryz.prog w= .ok v' w'∧oK w' base v' (qs++ [q])∧w.grownBy w' v.ownBlock:=by
 obtain⟨i0,hi0,hz0,hz1,hz2⟩:=info_parts Pz;obtain⟨l,hA,hown⟩:=hown;have hlen:=hA.1;obtain⟨v',w',hr,ho,hg⟩:=vE (P:=Tryz.prog) (w:=w) (ty:=86) Tryz.underlying86 hi0 hz0 hz1 hz2 rfl dc base v l.length (GV l) hown (some ⟨b,0,none⟩) 1 1 x.L (by simp [NV.L])
  (fun _=>⟨_,rfl,fun j u hj=>by rw [add_plain,Nat.zero_add,hb.cell j];simpa [NV.L]using hj⟩) (by intro u hu;simp [NV.L]at hu;rcases hu with rfl | rfl | rfl | rfl<;>rfl) (by unfold maxLen;omega) (by rw [hlen];exact hl) hbase
 exact⟨v',w',hr,⟨l++ [x],hA.push hx,by rw [← Zf,List.length_append];exact ho⟩,hg⟩
theorem Rb (n:Nat):(madeCells (Value.agg #[.bool false,.string ⟨#[]⟩,.bool false,.string ⟨#[]⟩]).cells (n*4)).toList=GV (List.replicate n nv0):=by
 apply List.ext_getElem?;intro i;by_cases hi:i<n*4
 ·obtain ⟨k,j,hj,rfl⟩:∃k j,j<4∧i=k*4+j:=⟨i/4,i%4,om,om⟩;have hk:k<n:=om;obtain⟨c0,c1,c2,c3⟩:=rM (List.replicate n nv0) k nv0 (by simp [hk]);have hm:(k*4+j)%4=j:=om;obtain rfl | rfl | rfl | rfl:j=0∨j=1∨j=2∨j=3:=om
  ·rw [Nat.add_zero]at *;rw [c0];simp [madeCells,Value.cells,hi,hm,nv0]
  ·rw [c1];simp [madeCells,Value.cells,hi,hm,nv0]
  ·rw [c2];simp [madeCells,Value.cells,hi,hm,nv0]
  rw [c3];simp [madeCells,Value.cells,hi,hm,nv0]
 rw [List.getElem?_eq_none (by simp [madeCells];omega),List.getElem?_eq_none (by rw [GX];simp;omega)]
theorem zG (w:World)(n:Nat)(hn:n≤1000000):∃w',(Instr.makeSlice 86 (.int .i64 (n:Int)) (.int .i64 (n:Int))).run Tryz.prog w= .ok (.slice (some ⟨w.heap.size,0,none⟩) n n) w'∧bD w' w.heap.size (List.replicate n 0)∧Keep au w w':=by
 obtain⟨i0,hi0,hz0,hz1,hz2⟩:=info_parts Pz;obtain⟨w',hr,ho,hg⟩:=run_make_full (P:=Tryz.prog) w w.heap.size 86 U6 i0 (.agg #[.bool false,.string ⟨#[]⟩,.bool false,.string ⟨#[]⟩]) 4 Tryz.underlying86 hi0 hz0 hz1 .i64 .i64 n (by rw [hz2];omega) (by unfold maxLen;omega) (Nat.le_refl _);rw [Rb]at ho;exact⟨w',hr,wI (rO.zeros n) ho,Keep.of_below (dB hg w.heap.size (Nat.le_refl _) sm) (Nat.le_refl _)⟩
theorem tX {q:Rat}(h:q=0):q.num.sign=0:=by subst h;rfl
theorem tY {q:Rat}(h:¬q=0):q.num.sign≠0:=fun h0=>h (by rwa [Int.sign_eq_zero_iff_zero,Rat.num_eq_zero]at h0)
theorem ko {v:Value}{q:Rat}(h:bM v q)(w:World):Calls Tryz.prog 46 #[v] w fun e w'=>e= .returned (.int .i64 q.num.sign)∧Keep au w w':=by
 obtain⟨d,rfl,_⟩:=h;exact Cj w q.num d
section
variable {rows:List Rw} {ts:List Rat} {N i k:Nat}
theorem Ck {i:Nat}(hi:i<rows.length):rows.getD i bZ=rows[i]:=by
 rw [dV,eD hi];rfl
theorem U7 {i:Nat}(hi:rows.length≤i):rows.getD i bZ=bZ:=by
 rw [dV,List.getElem?_eq_none hi];rfl
theorem U8:fO 0:=by unfold fO;omega
theorem PD {x:Int}(h:fO x):NB 1 (x:Rat):=jg (by unfold fO at h;omega)
end
end Go.Proofs.YtmepglhdcphffaaGreat
