/- A region whose order is drawn, by what each operation leaves: whatever the order, each is walked once. A region whose order is drawn, by what each operation leaves, with a relation among what they leave. A drawn region by a plan in which an extraction, too, may come late (as a move may). -/
import Derived.Test.YtmepglhdcphffaaGreatBaseA
namespace Go.Proofs.YtmepglhdcphffaaGreat
set_option linter.unusedSimpArgs false
set_option linter.unusedVariables false
def bP (ops:Array Oper)(σ:Nat→Value):List Nat→Act→Act
 | [],a=>a
 | e::es,a=>bP ops σ es (match ops[e]? with | some o=>a.put o.dst (σ e) | none=>a)
def upd (σ:Nat→Value)(e:Nat)(v:Value):Nat→Value:=fun i=>if i=e then v else σ i
def jF (ops:Array Oper)(e:Nat):Option Tmp:=(ops[e]?).bind (·.dst)
def Da (ops:Array Oper):Bool:=(List.range ops.size).all fun i=>(List.range ops.size).all fun j=>i==j || (jF ops i).isNone || jF ops i != jF ops j
def Ke (md:Region.Mode)(ops:Array Oper):Bool:=(List.range ops.size).all fun i=>((ops[i]?).map fun o=>o.after.all fun e=> !Region.binds md e || decide (e.on<i)).getD true
section
variable {P:Program} {ops:Array Oper} {Q:Exit→Act→World→Prop} {md:Region.Mode}
theorem xg {σ:Nat→Value}{d:Option Tmp}{v:Value}:∀(es:List Nat) (a:Act),(∀e∈es,∀x,d=some x→jF ops e≠some x)→bP ops σ es (a.put d v)=(bP ops σ es a).put d v
 | [],a,_=>rfl
 | e::es,a,h=>by
  unfold bP;rcases ho:ops[e]? with _ | o
  ·exact xg es a fun i hi=>h i (List.mem_cons_of_mem _ hi)
  have h1:∀x,d=some x→o.dst≠some x:=fun x hx=>by
   have:=h e (List.mem_cons_self) x hx;unfold jF at this;rw [ho]at this;exact this
  simp only;rw [Act.put_comm a v (σ e) h1];exact xg es _ fun i hi=>h i (List.mem_cons_of_mem _ hi)
theorem yE {σ τ:Nat→Value}:∀(es:List Nat) (a:Act),(∀e∈es,σ e=τ e)→bP ops σ es a=bP ops τ es a
 | [],a,_=>rfl
 | e::es,a,h=>by
  unfold bP;rw [h e List.mem_cons_self];exact yE es _ fun i hi=>h i (List.mem_cons_of_mem _ hi)
theorem ZM (a:Act)(d:Option Tmp)(u v:Value):(a.put d u).put d v=a.put d v:=by
 unfold Act.put;cases d with
 | none=>rfl
 | some i=>simp
theorem xu {σ:Nat→Value}{e:Nat}{v:Value}{o:Oper}(ho:ops[e]? =some o):∀(es:List Nat) (a:Act),es.Nodup→e∈es→(∀i∈es,i≠e→∀x,o.dst=some x→jF ops i≠some x)→bP ops (upd σ e v) es a=(bP ops σ es a).put o.dst v
 | [],a,_,h,_=>by cases h
 | i::es,a,hn,h,hd=>by
  unfold bP;rw [List.nodup_cons]at hn;by_cases hie:i=e
  ·subst hie;rw [ho];simp only;have e1:upd σ i v i=v:=by simp [upd]
   rw [e1,yE (τ:=σ) es _ fun j hj=>by
    have:j≠i:=fun h0=>hn.1 (h0 ▸ hj);simp [upd,this]]
   rw [← xg es _ fun j hj=>hd j (List.mem_cons_of_mem _ hj) (fun h0=>hn.1 (h0 ▸ hj)),ZM]
  have hes:e∈es:=by
   rcases List.mem_cons.1 h with h | h
   ·exact absurd h.symm hie
   exact h
  have e1:upd σ e v i=σ i:=by simp [upd,hie]
  rw [e1];exact xu ho es _ hn.2 hes fun j hj=>hd j (List.mem_cons_of_mem _ hj)
theorem VW (a:Act)(d:Option Tmp):a.put d (match d with | some i=>a.tmps.getD i undef | none=>undef)=a:=by
 unfold Act.put;cases d with
 | none=>rfl
 | some i=>
  rcases Nat.lt_or_ge i a.tmps.size with h | h
  ·have:a.tmps.setIfInBounds i a.tmps[i]=a.tmps:=by
    apply Array.ext_getElem?;intro j;rw [Array.getElem?_setIfInBounds];split
    ·rename_i e;subst e;simp [h]
    rfl
   simp [Array.getD,h,this]
  simp [Array.setIfInBounds,Nat.not_lt.2 h]
def start (ops:Array Oper)(a:Act)(e:Nat):Value:=match jF ops e with | some i=>a.tmps.getD i undef | none=>undef
theorem mF:∀(es:List Nat) (a:Act),bP ops (start ops a) es a=a
 | [],a=>rfl
 | e::es,a=>by
  unfold bP;rcases ho:ops[e]? with _ | o
  ·exact mF es a
  simp only;have:start ops a e=(match o.dst with | some i=>a.tmps.getD i undef | none=>undef):=by unfold start jF;rw [ho];rfl
  rw [this,VW];exact mF es a
theorem Az (h:Da ops=true){i j:Nat}(hi:i<ops.size)(hj:j<ops.size)(hij:i≠j){x:Tmp}(hx:jF ops j=some x):jF ops i≠some x:=by
 intro h0;have h1:=List.all_eq_true.1 (List.all_eq_true.1 h i (List.mem_range.2 hi)) j (List.mem_range.2 hj);simp [hij,h0,hx]at h1
theorem Db (hb:Ke md ops=true){listed:Array Bool}(hr:Region.ready md ops listed= []):∀e,e<ops.size→listed.getD e true=true:=by
 intro e
 induction e using Nat.strongRecOn with
 | ind e ih=>
  intro he;rcases hl:listed.getD e true with _ | _
  ·exfalso;have ho:ops[e]? =some ops[e]:=by simp [he]
   have:e∈Region.ready md ops listed:=by
    refine mem_ready.2 ⟨hl,_,ho,fun ed hed hbd=> ?_⟩;have h1:=List.all_eq_true.1 hb e (List.mem_range.2 he);rw [ho]at h1;simp only [Option.map_some,Option.getD_some,Array.all_eq_true',Bool.or_eq_true,decide_eq_true_eq]at h1;have h1:ed.on<e:=by
     rcases h1 ed hed with h | h
     ·rw [hbd]at h;cases h
     exact h
    have h2:=ih ed.on h1 (Nat.lt_trans h1 he);rcases Nat.lt_or_ge ed.on listed.size with h' | h'
    ·simpa [Array.getD,h']using h2
    have:listed.size≤e:=om;simp [Array.getD,Nat.not_lt.2 this]at hl
   rw [hr]at this;cases this
  rfl
theorem rT {listed:Array Bool}(hd:DC md ops listed):∀(n e d:Nat) (o:Oper),ops[e]? =some o→(∀ed∈o.after,Region.binds md ed=true→listed.getD ed.on false=true)→iO md ops n e d=true→listed.getD d false=true
 | 0,_,_,_,_,_,h=>by cases h
 | n+1,e,d,o,ho,hall,h=>by
  obtain⟨oj,hoj,ed,hed,hb,h1⟩:=pz h;rw [ho]at hoj;cases hoj;have hl:=hall ed hed hb;rcases h1 with h1 | h1
  ·rw [← h1];exact hl
  rcases hk:ops[ed.on]? with _ | ok
  ·cases n with
   | zero=>cases h1
   | succ n=>
    obtain⟨oj,hoj,_⟩:=pz h1;rw [hk]at hoj;cases hoj
  exact rT hd n ed.on d ok hk (fun e2 he2 hb2=>hd ed.on ok e2 hk hl he2 hb2) h1
def mark (S:Nat→Bool)(e:Nat):Nat→Bool:=fun i=>if i=e then true else S i
structure Known (md:Region.Mode)(ops:Array Oper)(a0:Act)(uz:(Nat→Bool)→Nat→Value→World→Prop)(S:Nat→Bool)(σ:Nat→Value)(w:World)(e:Nat):Prop where
 self:S e=false
 init:∀d,S d=false→σ d=start ops a0 d
 up:∀d,iO md ops ops.size e d=true→S d=true
 down:∀d,iO md ops ops.size d e=true→S d=false
 post:∀d,iO md ops ops.size e d=true→uz S d (σ d) w
theorem NN (hb:Ke md ops=true)(ha:Da ops=true){C:World→Prop}{uz:(Nat→Bool)→Nat→Value→World→Prop}{a0:Act}
  (hop:∀e o,ops[e]? =some o→∀S σ w,C w→Known md ops a0 uz S σ w e→wpOp P ops Q e (fun a' w'=>C w'∧(∀d,d≠e→S d=true→uz S d (σ d) w→uz (mark S e) d (σ d) w')∧∃v,a'=(bP ops σ (List.range ops.size) a0).put o.dst v∧uz (mark S e) e v w') (bP ops σ (List.range ops.size) a0) w)
  (hend:∀S σ w,C w→(∀e,e<ops.size→S e=true)→(∀e,e<ops.size→uz S e (σ e) w)→Q .normal (bP ops σ (List.range ops.size) a0) w):
  ∀(n:Nat) (U:List Nat) (listed:Array Bool) (σ:Nat→Value) (w:World),U.length=n→listed.size=ops.size→U.Nodup→(∀e,listed.getD e true=false→e∈U)→DC md ops listed→C w→(∀e,listed.getD e false=true→uz (fun i=>listed.getD i false) e (σ e) w)→(∀d,listed.getD d false=false→σ d=start ops a0 d)→
   wpAny P md ops Q n listed (bP ops σ (List.range ops.size) a0) w:=by
 have fin:∀(listed:Array Bool) (σ:Nat→Value) (w:World),listed.size=ops.size→C w→(∀e,listed.getD e false=true→uz (fun i=>listed.getD i false) e (σ e) w)→Region.ready md ops listed= []→Q .normal (bP ops σ (List.range ops.size) a0) w:=by
  intro listed σ w hs hc hp hr;have hall:∀e,e<ops.size→listed.getD e false=true:=fun e he=>by
   have:=Db hb hr e he;simpa [Array.getD,hs,he]using this
  exact hend (fun i=>listed.getD i false) σ w hc hall fun e he=>hp e (hall e he)
 intro n
 induction n with
 | zero=>
  intro U listed σ w hn hs hnd hu hd hc hp _;have hU:U= []:=List.eq_nil_of_length_eq_zero hn;subst hU;have hr:Region.ready md ops listed= []:=by
   rcases hr:Region.ready md ops listed with _ | ⟨j,t⟩
   ·rfl
   have hj:j∈Region.ready md ops listed:=by rw [hr];exact List.mem_cons_self
   have:=hu j (mem_ready.1 hj).1;cases this
  exact⟨hr,fin listed σ w hs hc hp hr⟩
 | succ n ih=>
  intro U listed σ w hn hs hnd hu hd hc hp hin;refine⟨fun hr=>fin listed σ w hs hc hp hr,fun i hi=> ?_⟩;obtain⟨hun,o,ho,hall⟩:=mem_ready.1 hi;have hiU:=hu i hun;have hlt:i<ops.size:=(Array.getElem?_eq_some_iff.1 ho).1;have hself:listed.getD i false=false:=by
   have h':i<listed.size:=om;simpa [Array.getD,h']using hun
  have hup:∀d,iO md ops ops.size i d=true→listed.getD d false=true:=fun d hw=>rT hd _ i d o ho hall hw;refine wpOp_mono (fun a' w' h=> ?_) (hop i o ho (fun i=>listed.getD i false) σ w hc ⟨hself,hin,hup,fun d hw=>jO hd hself _ d hw,fun d hw=>hp d (hup d hw)⟩);obtain⟨hC,hst,v,rfl,hPv⟩:=h;have hdst:jF ops i=o.dst:=by unfold jF;rw [ho];rfl
  have hS:(fun j=>(listed.setIfInBounds i true).getD j false)=mark (fun j=>listed.getD j false) i:=by
   funext j;unfold mark;by_cases hj:j=i
   ·subst hj;have h':j<listed.size:=om;simp [Array.getD,h']
   rw [if_neg hj,getD_set_ne false (Ne.symm hj)]
  rw [← xu (v:=v) ho (List.range ops.size) a0 List.nodup_range (List.mem_range.2 hlt) (fun j hj hji x hx=>Az ha (List.mem_range.1 hj) hlt hji (by rw [hdst];exact hx))];refine ih (U.erase i) _ _ w' (by rw [List.length_erase_of_mem hiU,hn];rfl) (by simpa using hs) (hnd.erase i) (fun e he=> ?_) (hd.set hi) hC (fun e he=> ?_) (fun e he=> ?_)
  ·by_cases Bo:e=i
   ·subst Bo;have:listed.size>e:=om;simp [Array.getD,this]at he
   rw [getD_set_ne true (Ne.symm Bo)]at he;exact(List.mem_erase_of_ne Bo).2 (hu e he)
  ·rw [hS];by_cases Bo:e=i
   ·subst Bo;have:upd σ e v e=v:=by simp [upd]
    rw [this];exact hPv
   rw [getD_set_ne false (Ne.symm Bo)]at he;have:upd σ i v e=σ e:=by simp [upd,Bo]
   rw [this];exact hst e Bo he (hp e he)
  by_cases Bo:e=i
  ·subst Bo;have:listed.size>e:=om;simp [Array.getD,this]at he
  rw [getD_set_ne false (Ne.symm Bo)]at he;have:upd σ i v e=σ e:=by simp [upd,Bo]
  rw [this];exact hin e he
theorem jo {id:Nat}{l:List Oper}{a:Act}{w:World}{Q:Exit→Act→World→Prop}(C:World→Prop)(uz:(Nat→Bool)→Nat→Value→World→Prop)(hm:P.follows .mixedOrders=true)
  (hB1:Region.noSelect l.toArray=true) (hB2:Ke .any l.toArray=true) (hB3:Da l.toArray=true) (h0:C w.drew)
  (A:(Nat→Value)→Act) (hA:∀σ,bP l.toArray σ (List.range l.length) a=A σ)
  (hop:∀S σ w',C w'→∀e,e<l.length→Known .any l.toArray a uz S σ w' e→wpOp P l.toArray (NoPanic Q) e (fun a' w''=>C w''∧(∀d,d≠e→S d=true→uz S d (σ d) w'→uz (mark S e) d (σ d) w'')∧∃v,a'=(A σ).put (jF l.toArray e) v∧uz (mark S e) e v w'') (A σ) w')
  (hend:∀S σ w',C w'→(∀e,e<l.length→S e=true)→(∀e,e<l.length→uz S e (σ e) w')→NoPanic Q .normal (A σ) w'):(Code.region id l.toArray true).wp P Q a w:=by
 refine wp_region_noPanic (wp_region_any hm ?_);have:=NN (md:= .any) (P:=P) (Q:=NoPanic Q) (ops:=l.toArray) (a0:=a) (C:=C) (uz:=uz) hB2 hB3
  (fun e o ho S σ w hc hk=>by
   have ho':l[e]? =some o:=by simpa using ho
   have hlt:e<l.length:=(List.getElem?_eq_some_iff.1 ho').1;have hd:o.dst=jF l.toArray e:=by unfold jF;rw [ho];rfl
   have:=hop S σ w hc e hlt hk;rw [← hA σ]at this;rw [hd];simpa using this)
  (fun S σ w hc hs he=>by
   have:=hend S σ w hc (fun e hl=>hs e (by simpa using hl)) (fun e hl=>he e (by simpa using hl));rw [← hA σ]at this;simpa using this) l.toArray.size (List.range l.length) (Array.replicate l.toArray.size false) (start l.toArray a) w.drew sm sm List.nodup_range
  (fun e he=>by
   rcases Nat.lt_or_ge e l.length with h | h
   ·exact List.mem_range.2 h
   simp [Array.getD,Nat.not_lt.2 h]at he)
  (fun k ok e _ hl=>by simp [Array.getD]at hl) h0 (fun e he=>by simp [Array.getD]at he) (fun _ _=>rfl)
 rw [mF]at this;exact this
end
section
variable {P:Program} {ops:Array Oper} {Q:Exit→Act→World→Prop} {md:Region.Mode}
theorem NP (hb:Ke md ops=true)(ha:Da ops=true){C:(Nat→Bool)→(Nat→Value)→World→Prop}{uz:(Nat→Bool)→Nat→Value→World→Prop}{a0:Act}
  (hop:∀e o,ops[e]? =some o→∀S σ w,C S σ w→Known md ops a0 uz S σ w e→(∀d,S d=true→uz S d (σ d) w)→wpOp P ops Q e (fun a' w'=>∃v,C (mark S e) (upd σ e v) w'∧(∀d,d≠e→S d=true→uz S d (σ d) w→uz (mark S e) d (σ d) w')∧a'=(bP ops σ (List.range ops.size) a0).put o.dst v∧uz (mark S e) e v w') (bP ops σ (List.range ops.size) a0) w)
  (hend:∀S σ w,C S σ w→(∀e,e<ops.size→S e=true)→(∀e,e<ops.size→uz S e (σ e) w)→Q .normal (bP ops σ (List.range ops.size) a0) w):
  ∀(n:Nat) (U:List Nat) (listed:Array Bool) (σ:Nat→Value) (w:World),U.length=n→listed.size=ops.size→U.Nodup→(∀e,listed.getD e true=false→e∈U)→DC md ops listed→C (fun i=>listed.getD i false) σ w→(∀e,listed.getD e false=true→uz (fun i=>listed.getD i false) e (σ e) w)→(∀d,listed.getD d false=false→σ d=start ops a0 d)→
   wpAny P md ops Q n listed (bP ops σ (List.range ops.size) a0) w:=by
 have fin:∀(listed:Array Bool) (σ:Nat→Value) (w:World),listed.size=ops.size→C (fun i=>listed.getD i false) σ w→(∀e,listed.getD e false=true→uz (fun i=>listed.getD i false) e (σ e) w)→Region.ready md ops listed= []→Q .normal (bP ops σ (List.range ops.size) a0) w:=by
  intro listed σ w hs hc hp hr;have hall:∀e,e<ops.size→listed.getD e false=true:=fun e he=>by
   have:=Db hb hr e he;simpa [Array.getD,hs,he]using this
  exact hend (fun i=>listed.getD i false) σ w hc hall fun e he=>hp e (hall e he)
 intro n
 induction n with
 | zero=>
  intro U listed σ w hn hs hnd hu hd hc hp _;have hU:U= []:=List.eq_nil_of_length_eq_zero hn;subst hU;have hr:Region.ready md ops listed= []:=by
   rcases hr:Region.ready md ops listed with _ | ⟨j,t⟩
   ·rfl
   have hj:j∈Region.ready md ops listed:=by rw [hr];exact List.mem_cons_self
   have:=hu j (mem_ready.1 hj).1;cases this
  exact⟨hr,fin listed σ w hs hc hp hr⟩
 | succ n ih=>
  intro U listed σ w hn hs hnd hu hd hc hp hin;refine⟨fun hr=>fin listed σ w hs hc hp hr,fun i hi=> ?_⟩;obtain⟨hun,o,ho,hall⟩:=mem_ready.1 hi;have hiU:=hu i hun;have hlt:i<ops.size:=(Array.getElem?_eq_some_iff.1 ho).1;have hself:listed.getD i false=false:=by
   have h':i<listed.size:=om;simpa [Array.getD,h']using hun
  have hup:∀d,iO md ops ops.size i d=true→listed.getD d false=true:=fun d hw=>rT hd _ i d o ho hall hw;refine wpOp_mono (fun a' w' h=> ?_) (hop i o ho (fun i=>listed.getD i false) σ w hc ⟨hself,hin,hup,fun d hw=>jO hd hself _ d hw,fun d hw=>hp d (hup d hw)⟩ hp);obtain⟨v,hC,hst,rfl,hPv⟩:=h;have hdst:jF ops i=o.dst:=by unfold jF;rw [ho];rfl
  have hS:(fun j=>(listed.setIfInBounds i true).getD j false)=mark (fun j=>listed.getD j false) i:=by
   funext j;unfold mark;by_cases hj:j=i
   ·subst hj;have h':j<listed.size:=om;simp [Array.getD,h']
   rw [if_neg hj,getD_set_ne false (Ne.symm hj)]
  rw [← xu (v:=v) ho (List.range ops.size) a0 List.nodup_range (List.mem_range.2 hlt) (fun j hj hji x hx=>Az ha (List.mem_range.1 hj) hlt hji (by rw [hdst];exact hx))];refine ih (U.erase i) _ _ w' (by rw [List.length_erase_of_mem hiU,hn];rfl) (by simpa using hs) (hnd.erase i) (fun e he=> ?_) (hd.set hi) (by rw [hS];exact hC) (fun e he=> ?_) (fun e he=> ?_)
  ·by_cases Bo:e=i
   ·subst Bo;have:listed.size>e:=om;simp [Array.getD,this]at he
   rw [getD_set_ne true (Ne.symm Bo)]at he;exact(List.mem_erase_of_ne Bo).2 (hu e he)
  ·rw [hS];by_cases Bo:e=i
   ·subst Bo;have:upd σ e v e=v:=by simp [upd]
    rw [this];exact hPv
   rw [getD_set_ne false (Ne.symm Bo)]at he;have:upd σ i v e=σ e:=by simp [upd,Bo]
   rw [this];exact hst e Bo he (hp e he)
  by_cases Bo:e=i
  ·subst Bo;have:listed.size>e:=om;simp [Array.getD,this]at he
  rw [getD_set_ne false (Ne.symm Bo)]at he;have:upd σ i v e=σ e:=by simp [upd,Bo]
  rw [this];exact hin e he
theorem kY {id:Nat}{l:List Oper}{a:Act}{w:World}{Q:Exit→Act→World→Prop}(C:(Nat→Bool)→(Nat→Value)→World→Prop)(uz:(Nat→Bool)→Nat→Value→World→Prop)(hm:P.follows .mixedOrders=true)
  (hB1:Region.noSelect l.toArray=true) (hB2:Ke .any l.toArray=true) (hB3:Da l.toArray=true) (h0:∀S σ,(∀i,S i=false)→C S σ w.drew)
  (A:(Nat→Value)→Act) (hA:∀σ,bP l.toArray σ (List.range l.length) a=A σ)
  (hop:∀S σ w',C S σ w'→(∀d,S d=true→uz S d (σ d) w')→∀e,e<l.length→Known .any l.toArray a uz S σ w' e→wpOp P l.toArray (NoPanic Q) e (fun a' w''=>∃v,C (mark S e) (upd σ e v) w''∧(∀d,d≠e→S d=true→uz S d (σ d) w'→uz (mark S e) d (σ d) w'')∧a'=(A σ).put (jF l.toArray e) v∧uz (mark S e) e v w'') (A σ) w')
  (hend:∀S σ w',C S σ w'→(∀e,e<l.length→S e=true)→(∀e,e<l.length→uz S e (σ e) w')→NoPanic Q .normal (A σ) w'):(Code.region id l.toArray true).wp P Q a w:=by
 refine wp_region_noPanic (wp_region_any hm ?_);have:=NP (md:= .any) (P:=P) (Q:=NoPanic Q) (ops:=l.toArray) (a0:=a) (C:=C) (uz:=uz) hB2 hB3
  (fun e o ho S σ w hc hk hall=>by
   have ho':l[e]? =some o:=by simpa using ho
   have hlt:e<l.length:=(List.getElem?_eq_some_iff.1 ho').1;have hd:o.dst=jF l.toArray e:=by unfold jF;rw [ho];rfl
   have:=hop S σ w hc hall e hlt hk;rw [← hA σ]at this;rw [hd];simpa using this)
  (fun S σ w hc hs he=>by
   have:=hend S σ w hc (fun e hl=>hs e (by simpa using hl)) (fun e hl=>he e (by simpa using hl));rw [← hA σ]at this;simpa using this) l.toArray.size (List.range l.length) (Array.replicate l.toArray.size false) (start l.toArray a) w.drew sm sm List.nodup_range
  (fun e he=>by
   rcases Nat.lt_or_ge e l.length with h | h
   ·exact List.mem_range.2 h
   simp [Array.getD,Nat.not_lt.2 h]at he)
  (fun k ok e _ hl=>by simp [Array.getD]at hl) (h0 _ _ fun i=>by simp [Array.getD]) (fun e he=>by simp [Array.getD]at he) (fun _ _=>rfl)
 rw [mF]at this;exact this
end
open Go.ChangeShapes Go.WideShapes Go.RowKit
section
variable {P:Program} {ops:Array Oper} {Q:Exit→Act→World→Prop} {C:World→Prop}
variable {md:Region.Mode} {late:Nat→Bool}
def isPure:Op→Bool
 | .move _=>true
 | .extract _ _=>true
 | _=>false
theorem VX {C:World→Prop}{o:Oper}{a:Act}{v:Value}(h:isPure o.op=true){w₀:World}(h₀:C w₀)(hy:YieldsIn P ops C o v a):YieldsIn P ops (fun _=>True) o v a:=by
 rcases hy with⟨hw,hv⟩ | h'
 ·refine .inl ⟨hw,fun w _=> ?_⟩;have h1:=hv w₀ h₀;unfold isPure at h;split at h
  ·rename_i x heq;unfold Oper.quietAt at *;have e:∀w,(execOp a.eval o).run P w= .ok (.value (a.eval x)) w:=fun w=>by unfold execOp;simp only [heq];rfl
   rw [e]at h1 ⊢;exact⟨rfl,h1.2⟩
  ·rename_i x i heq;unfold Oper.quietAt at *;unfold execOp at h1 ⊢;simp only [heq]at h1 ⊢;unfold Instr.extract at h1 ⊢;split at h1
   ·rename_i vs hvs;split at h1
    ·rename_i u hu;exact⟨rfl,h1.2⟩
    exact h1.elim
   exact h1.elim
  cases h
 exact .inr h'
def Kg (md:Region.Mode)(ops:Array Oper)(late:Nat→Bool)(bare:Bool):List Nat→Array Bool→Bool
 | [],_=>true
 | i::is,listed=>(Region.ready md ops listed).contains i&&Region.free md ops listed i&&((ops[i]?).map (looks ·.op)).getD false&&(if bare then late i else(late i&&((ops[i]?).map (isPure ·.op)).getD false) || (!late i&&mO md ops late listed i))&&
   Kg md ops late bare is (listed.setIfInBounds i true)
def FH (md:Region.Mode)(ops:Array Oper)(late:Nat→Bool)(fin:List Nat):Bool→List (List Nat × Nat)→Array Bool→Bool
 | bare,[],listed=>Kg md ops late bare fin listed&&(Region.ready md ops (aZ listed fin)).isEmpty
 | bare,(qs,e)::rest,listed=>Kg md ops late bare qs listed&&(Region.ready md ops (aZ listed qs)== [e])&&(!bare || late e)&&
   FH md ops late fin (late e) rest ((aZ listed qs).setIfInBounds e true)
theorem rV (hs:Region.noSelect ops=true)(hQ:∀c (a:Act) w,¬Q (.panic c) a w){w:World}{R:Act→Prop}(bare:Bool)(fuel:Nat):∀(qs:List Nat) (listed:Array Bool) (a:Act),DC md ops listed→
  Kg md ops late bare qs listed=true→(bare=false→C w)→(DC md ops (aZ listed qs)→∀a',R a'→wpAnyL P md ops Q C late fuel (aZ listed qs) a' w)→wpQuiet P ops (aX C bare) R (aJ ops qs) a→wpAnyL P md ops Q C late (fuel+qs.length) listed a w
 | [],_,_,hd,_,_,hR,h=>hR hd _ h
 | i::is,listed,a,hd,hB,hC,hR,h=>by
  simp only [Kg,Bool.and_eq_true]at hB;obtain⟨⟨⟨⟨hr,hf⟩,hl⟩,hn⟩,hrest⟩:=hB;rcases hi:ops[i]? with _ | oi
  ·rw [hi]at hl;simp at hl
  rw [hi]at hl;simp only [aJ,hi]at h;have hst:qOp P ops (aX C bare) i (wpQuiet P ops (aX C bare) R (aJ ops is)) a:=by unfold qOp;simp only [hi];exact h
  obtain⟨v,hy,hK⟩:=yieldsIn_of_qOp hi hst;have next:=rV hs hQ bare fuel is _ _ (hd.set (by simpa using hr)) hrest hC hR hK
  cases bare with
  | true=>
   exact wpAnyL_first (D:=aX C true) hi (by simpa using hl) (Region.noSelect_spec hs) hQ (fun _ _=>trivial) (fuel+is.length) listed a w hd
    (fun j oj hoj hji hun hno=>Region.free_spec hi hf j oj hoj hji hun hno) (.inl ⟨by simpa using hn,fun _=>trivial⟩) (fun h=>by simp [h]at hn) (by simpa using hr) hy trivial next
  | false=>
   simp only [Bool.false_eq_true,if_false,Bool.or_eq_true,Bool.and_eq_true]at hn;rcases hn with⟨hn,hmv⟩ | hn
   ·rw [hi]at hmv;exact wpAnyL_first (D:=fun _=>True) hi (by simpa using hl) (Region.noSelect_spec hs) hQ (fun _ _=>trivial) (fuel+is.length) listed a w hd
     (fun j oj hoj hji hun hno=>Region.free_spec hi hf j oj hoj hji hun hno) (.inl ⟨hn,fun _=>trivial⟩) (fun h=>by simp [h]at hn) (by simpa using hr) (VX (by simpa using hmv) (hC rfl) hy) trivial next
   refine wpAnyL_first (D:=aX C false) hi (by simpa using hl) (Region.noSelect_spec hs) hQ (fun _ h=>h) (fuel+is.length) listed a w hd
    (fun j oj hoj hji hun hno=>Region.free_spec hi hf j oj hoj hji hun hno) (.inr fun j hlj=> ?_) (fun _=>hC rfl) (by simpa using hr) hy (hC rfl) next
   have hw:=hn.2;unfold mO at hw;rcases Nat.lt_or_ge j listed.size with hj | hj
   ·have:=List.all_eq_true.1 hw j (List.mem_range.2 hj);simp only [hlj,Bool.not_true,Bool.false_or,Bool.or_eq_true]at this;exact this.imp id fun h=>⟨_,h⟩
   exact .inl (by simp [Array.getD,Nat.not_lt.2 hj])
theorem yF (hs:Region.noSelect ops=true)(hQ:∀c (a:Act) w,¬Q (.panic c) a w)(fin:List Nat):∀(plan:List (List Nat × Nat)) (bare:Bool) (listed:Array Bool) (a:Act) (w:World),DC md ops listed→
  FH md ops late fin bare plan listed=true→(bare=false→C w)→aW P ops Q C late fin bare plan a w→wpAnyL P md ops Q C late (iU fin plan) listed a w
 | [],bare,listed,a,w,hd,hB,hC,h=>by
  simp only [FH,Bool.and_eq_true]at hB;have:=rV (md:=md) (late:=late) (C:=C) hs hQ (w:=w) (R:=fun a'=>Q .normal a' w) bare 0 fin listed a hd hB.1 hC (fun _ a' ha=>⟨by simpa using hB.2,ha⟩) h;simpa [iU]using this
 | (qs,e)::rest,bare,listed,a,w,hd,hB,hC,h=>by
  simp only [FH,Bool.and_eq_true]at hB;obtain⟨⟨⟨h1,h2⟩,h3⟩,h4⟩:=hB;refine rV hs hQ bare (iU fin rest+1) qs listed a hd h1 hC (fun hd' a' ha=> ?_) h;have hre:Region.ready md ops (aZ listed qs)= [e]:=by simpa using h2
  refine⟨fun h0=>(by rw [hre]at h0;cases h0),fun j hj=> ?_⟩;rw [hre]at hj;obtain rfl:j=e:=by simpa using hj
  exact wpOp_mono (fun a'' w'' ⟨g1,g2⟩=>⟨g1,yF hs hQ fin rest _ _ a'' w'' (hd'.set (by rw [hre];exact List.mem_singleton.2 rfl)) h4 g1 g2⟩) ha
theorem Br {id:Nat}{l:List Oper}{a:Act}{w:World}{Q:Exit→Act→World→Prop}(C:World→Prop)(jP:List Nat)(plan:List (List Nat × Nat))(fin:List Nat)(hm:P.follows .mixedOrders=true)
  (hB:(Region.noSelect l.toArray&&FH .any l.toArray (fun i=>jP.contains i) fin false plan (Array.replicate l.toArray.size false)&&(iU fin plan==l.toArray.size))=true) (hC:C w.drew)
  (h:aW P l.toArray (NoPanic Q) C (fun i=>jP.contains i) fin false plan a w.drew):(Code.region id l.toArray true).wp P Q a w:=by
 simp only [Bool.and_eq_true]at hB;refine wp_region_noPanic (wp_region_any hm (jr _ _ _ _ (C:=C) (late:=fun i=>jP.contains i) ?_));have:=yF hB.1.1 (fun _ _ _ h=>h) fin plan false _ a w.drew (fun k ok e _ hl=>by simp [Array.getD]at hl) hB.1.2 (fun _=>hC) h;rw [show iU fin plan=l.toArray.size from by simpa using hB.2]at this;exact this
theorem wN {id:Nat}{l:List Oper}{a:Act}{w:World}{Q:Exit→Act→World→Prop}(F:World→Prop)(jP:List Nat)(plan:List (List Nat × Nat))(fin:List Nat)(hm:P.follows .mixedOrders=true)
  (hB:(Region.noSelect l.toArray&&FH .any l.toArray (fun i=>jP.contains i) fin false plan (Array.replicate l.toArray.size false)&&(iU fin plan==l.toArray.size))=true) (hF:F w.drew)
  (h:∀(X:Type) (W:X→World),Nonempty X→(∀x,F (W x))→(∀w',F w'→∃x,w'=W x)→aW P l.toArray (NoPanic Q) (fun w'=>∃x,w'=W x) (fun i=>jP.contains i) fin false plan a w.drew):(Code.region id l.toArray true).wp P Q a w:=
 Br (fun w'=>∃x: {w':World // F w'},w'=x.1) jP plan fin hm hB ⟨⟨_,hF⟩,rfl⟩ (h _ _ ⟨⟨_,hF⟩⟩ (fun x=>x.2) fun w' hw=>⟨⟨w',hw⟩,rfl⟩)
end
end Go.Proofs.YtmepglhdcphffaaGreat
