/- Units and a search that learns, plain: it is right and ends. Classes of terms, plain. Judge and solver, plain. Equalities that are told outright, plain. -/
import Derived.Test.YtmepglhdcphffaaGreatOwGG
namespace Go.Proofs.YtmepglhdcphffaaGreat
set_option linter.unusedSimpArgs false
set_option linter.unusedVariables false
namespace Cd
def stG (T:List Int):List Int→Int→Bool × Int
 | [],o=>(decide (o=0),o)
 | l::c,o=>if -l∈T then stG T c o else if l∈T∨o≠0 then(false,0)else stG T c l
def stF (T c:List Int):Bool × Int:=stG T c 0
def scanG (T:List Int):List (List Int)→Nat→Option Nat→Sum Nat (Option Nat)
 | [],_,f=> .inr f
 | c::l,i,f=>if(stF T c).1 then .inl i else scanG T l (i+1) (if(stF T c).2≠0∧f=none then some i else f)
structure Tr where
 lits:List Int
 why:List Int
def runF:Nat→List (List Int)→Tr→Tr × Int
 | 0,_,t=>(t,-1)
 | n+1,cls,t=>match scanG t.lits cls 0 none with
  | .inl i=>(t,i)
  | .inr none=>(t,-1)
  | .inr (some i)=>runF n cls ⟨t.lits++ [(stF t.lits (cls.getD i [])).2],t.why++ [(i:Int)]⟩
theorem Xp {T:List Int}{c:List Int}{o x:Int}(h:stG T c o=(false,x))(hx:x≠0)(ho:o≠0∨(∀l∈c,l≠0)):(x=o∨x∈c∧x∉T∧ -x∉T)∧∀l∈c,l=x∨ -l∈T:=by
 induction c generalizing o with
 | nil=>simp [stG]at h;exact⟨.inl h.2.symm,sm⟩
 | cons l c ih=>
  unfold stG at h;split at h
  ·rename_i hl;obtain⟨h1,h2⟩:=ih h (ho.imp_right fun k a ha=>k a (List.mem_cons_of_mem _ ha));refine⟨h1.imp_right fun k=>⟨List.mem_cons_of_mem _ k.1,k.2⟩,fun a ha=> ?_⟩;rcases List.mem_cons.1 ha with rfl | ha
   ·exact .inr hl
   exact h2 a ha
  rename_i hl;split at h
  ·cases h;exact absurd rfl hx
  rename_i hk;have hk1:l∉T:=fun k=>hk (.inl k);have hk2:o=0:=Classical.byContradiction fun k=>hk (.inr k);have hl0:l≠0:=by
   rcases ho with k | k
   ·exact absurd hk2 k
   exact k l (List.mem_cons_self ..)
  obtain⟨h1,h2⟩:=ih h (.inl hl0);refine⟨.inr ?_,fun a ha=> ?_⟩
  ·rcases h1 with rfl | k
   ·exact ⟨List.mem_cons_self ..,hk1,hl⟩
   exact⟨List.mem_cons_of_mem _ k.1,k.2⟩
  rcases List.mem_cons.1 ha with rfl | ha
  ·-- the open literal is kept
   left;have key:∀(c:List Int) (o x:Int),o≠0→stG T c o=(false,x)→x≠0→x=o:=by
    intro c
    induction c with
    | nil=>intro o x _ h _;simp [stG]at h;exact h.2.symm
    | cons b c ih=> 
     intro o x h0 h hx;unfold stG at h;split at h
     ·exact ih o x h0 h hx
     split at h
     ·cases h;exact absurd rfl hx
     rename_i q;exact absurd (.inr h0) q
   exact(key c a x hl0 h hx).symm
  exact h2 a ha
theorem Te {T:List Int}{c:List Int}{o x:Int}(h:stG T c o=(true,x))(ho:o≠0∨∀l∈c,l≠0):o=0∧∀l∈c,-l∈T:=by
 induction c generalizing o with
 | nil=>simp [stG]at h;exact⟨h.1,sm⟩
 | cons l c ih=>
  unfold stG at h;split at h
  ·rename_i hl;obtain⟨h1,h2⟩:=ih h (ho.imp_right fun k a ha=>k a (List.mem_cons_of_mem _ ha));refine⟨h1,fun a ha=> ?_⟩;rcases List.mem_cons.1 ha with rfl | ha
   ·exact hl
   exact h2 a ha
  split at h
  ·cases h
  rename_i hk;have hk2:o=0:=Classical.byContradiction fun k=>hk (.inr k);have hl0:l≠0:=by
   rcases ho with k | k
   ·exact absurd hk2 k
   exact k l (List.mem_cons_self ..)
  exact absurd (ih h (.inl hl0)).1 hl0
theorem OG {T:List Int}{c:List Int}(h:∀l∈c,-l∈T)(o:Int):stG T c o=(decide (o=0),o):=by
 induction c with
 | nil=>rfl
 | cons l c ih=>unfold stG;rw [if_pos (h l (List.mem_cons_self ..))];exact ih fun a ha=>h a (List.mem_cons_of_mem _ ha)
theorem zau {T:List Int}{c:List Int}{x:Int}(h:∀l∈c,l=x∨ -l∈T)(hx:x∉T)(hx': -x∉T)(h0:x≠0)(hn:c.Nodup)(hm:x∈c):stG T c 0=(false,x):=by
 induction c with
 | nil=>cases hm
 | cons l c ih=>
  unfold stG;rcases h l (List.mem_cons_self ..)with rfl | hl
  ·rw [if_neg hx',if_neg (by simp [hx])];rw [List.nodup_cons]at hn;rw [OG fun a ha=>(h a (List.mem_cons_of_mem _ ha)).resolve_left (by rintro rfl;exact hn.1 ha)];simp [h0]
  have hxl:x≠l:=by rintro rfl;exact hx' hl
  rw [if_pos hl];rw [List.nodup_cons]at hn;exact ih (fun a ha=>h a (List.mem_cons_of_mem _ ha)) hn.2 ((List.mem_cons.1 hm).resolve_left hxl)
theorem Tf {T:List Int}{cls:List (List Int)}{i:Nat}{f:Option Nat}{k:Nat}(h:scanG T cls i f= .inl k):i≤k∧∃c,cls[k-i]? =some c∧(stF T c).1=true:=by
 induction cls generalizing i f with
 | nil=>cases h
 | cons c l ih=>
  unfold scanG at h;split at h
  ·rename_i hc;cases h;exact⟨Nat.le_refl _,c,sm,hc⟩
  obtain⟨h1,d,h2,h3⟩:=ih h;refine⟨om,d,?_,h3⟩;rw [show k-i=(k-(i+1))+1 from om,zl2];exact h2
theorem scanG_inr {T:List Int}{cls:List (List Int)}{i:Nat}{f g:Option Nat}(h:scanG T cls i f= .inr g):(∀c∈cls,(stF T c).1=false)∧(g=none→f=none∧∀c∈cls,(stF T c).2=0)∧∀k,g=some k→f=some k∨(i≤k∧∃c,cls[k-i]? =some c∧(stF T c).2≠0):=by
 induction cls generalizing i f with
 | nil=>cases h;exact⟨sm,fun h=>⟨h,sm⟩,fun k h=> .inl h⟩
 | cons c l ih=>
  unfold scanG at h;split at h
  ·cases h
  rename_i hc;obtain⟨h1,h2,h3⟩:=ih h;refine⟨fun d hd=> ?_,fun hg=> ?_,fun k hk=> ?_⟩
  ·rcases List.mem_cons.1 hd with rfl | hd
   ·simpa using hc
   exact h1 d hd
  ·obtain ⟨e,h4⟩:=h2 hg;split at e
   ·cases e
   rename_i hq;subst e;refine⟨rfl,fun d hd=> ?_⟩;rcases List.mem_cons.1 hd with rfl | hd
   ·exact Classical.byContradiction fun q=>hq ⟨q,rfl⟩
   exact h4 d hd
  rcases h3 k hk with e | ⟨h4,d,h5,h6⟩
  ·split at e
   ·rename_i hq;cases e;exact .inr ⟨Nat.le_refl _,c,sm,hq.1⟩
   exact .inl e
  refine .inr ⟨om,d,?_,h6⟩;rw [show k-i=(k-(i+1))+1 from om,zl2];exact h5
def GoodT (vars:Nat)(T:List Int):Prop:=(T.map Int.natAbs).Nodup∧∀l∈T,l≠0∧l.natAbs≤vars
def ClsOK (vars:Nat)(cls:List (List Int)):Prop:=∀c∈cls,(c.map Int.natAbs).Nodup∧∀l∈c,l≠0∧l.natAbs≤vars
theorem Ll {n:Nat}{l:List Nat}(h:l.Nodup)(hl:∀x∈l,1≤x∧x≤n):l.length≤n:=by
 induction n generalizing l with
 | zero=>cases l with
  | nil=>simp
  | cons a l=>have:=hl a (List.mem_cons_self ..);omega
 | succ n ih=>
  by_cases hm:(n+1)∈l
  ·have h2:=ih (l:=l.erase (n+1)) (h.erase _) fun x hx=>by
    have h3:=hl x (List.mem_of_mem_erase hx);have h4:x≠n+1:=by rintro rfl;exact(List.Nodup.mem_erase_iff h).1 hx |>.1 rfl
    omega
   rw [List.length_erase_of_mem hm]at h2;omega
  exact Nat.le_succ_of_le (ih h fun x hx=>by
   have h3:=hl x hx;have h4:x≠n+1:=by rintro rfl;exact hm hx
   omega)
theorem GoodT.le {vars:Nat}{T:List Int}(h:GoodT vars T):T.length≤vars:=by
 have:=Ll h.1 (n:=vars) fun x hx=>by
  obtain⟨l,hl,rfl⟩:=List.mem_map.1 hx;have:=h.2 l hl;omega
 simpa using this
theorem GoodT.push {vars:Nat}{T:List Int}(h:GoodT vars T){x:Int}(h0:x≠0)(hv:x.natAbs≤vars)(hx:x∉T)(hx': -x∉T):GoodT vars (T++ [x]):=by
 refine⟨?_,fun l hl=> ?_⟩
 ·rw [List.map_append,List.nodup_append];refine⟨h.1,sm,fun a ha b hb=> ?_⟩;obtain⟨l,hl,rfl⟩:=List.mem_map.1 ha;simp at hb;subst hb;intro e;have:l=x∨l= -x:=om;rcases this with rfl | rfl
  ·exact hx hl
  exact hx' hl
 rcases List.mem_append.1 hl with hl | hl
 ·exact h.2 l hl
 simp at hl;subst hl;exact⟨h0,hv⟩
theorem stF_unit {vars:Nat}{T c:List Int}(hc:∀l∈c,l≠0∧l.natAbs≤vars)(h1:(stF T c).1=false)(h2:(stF T c).2≠0):(stF T c).2∈c∧(stF T c).2∉T∧ -(stF T c).2∉T∧∀l∈c,l=(stF T c).2∨ -l∈T:=by
 have e:stG T c 0=(false,(stF T c).2):=by rw [← h1];rfl
 obtain⟨h3,h4⟩:=Xp e h2 (.inr fun l hl=>(hc l hl).1);rcases h3 with h3 | h3
 ·exact absurd h3 h2
 exact⟨h3.1,h3.2.1,h3.2.2,h4⟩
theorem Xq {cls:List (List Int)}{k:Nat}{c:List Int}(h:cls[k]? =some c):cls.getD k []=c∧c∈cls:=by
 rw [dV,h];exact⟨rfl,List.mem_of_getElem? h⟩
def Tg (cls:List (List Int))(t:Tr):Prop:=t.why.length=t.lits.length∧∀(i:Nat) (l:Int),t.lits[i]? =some l→∃y:Int,t.why[i]? =some y∧(y= -1∨∃k:Nat,y=k∧∃c,cls[k]? =some c∧l∈c∧∀a∈c,a=l∨ -a∈t.lits.take i)
structure zdr (vars:Nat)(cls:List (List Int))(t:Tr)(r:Tr × Int):Prop where
 good:GoodT vars r.1.lits
 why:Tg cls r.1
 pre:∃L W:List Int,r.1.lits=t.lits++L∧r.1.why=t.why++W∧L.length=W.length∧∀y∈W,y≠ -1
 bad:r.2≠ -1→∃k:Nat,r.2=k∧∃c,cls[k]? =some c∧∀l∈c,-l∈r.1.lits
 done:r.2= -1→∀c∈cls,stF r.1.lits c=(false,0)
theorem Xr {cls:List (List Int)}{t:Tr}(h:Tg cls t){k:Nat}{c:List Int}(hk:cls[k]? =some c){x:Int}(hx:x∈c)(ho:∀l∈c,l=x∨ -l∈t.lits):Tg cls ⟨t.lits++ [x],t.why++ [(k:Int)]⟩:=by
 refine⟨by simp [h.1],fun i l hl=> ?_⟩;rcases Nat.lt_or_ge i t.lits.length with hi | hi
 ·rw [List.getElem?_append_left hi]at hl;obtain⟨y,hy,hq⟩:=h.2 i l hl;refine⟨y,by rw [List.getElem?_append_left (by rw [h.1];exact hi)];exact hy,hq.imp_right ?_⟩;rintro⟨k',e,c',h1,h2,h3⟩;exact⟨k',e,c',h1,h2,fun a ha=>(h3 a ha).imp_right fun q=>by rw [List.take_append_of_le_length (Nat.le_of_lt hi)];exact q⟩
 have hi':i<t.lits.length+1:=by
  rcases Nat.lt_or_ge i (t.lits.length+1)with q | q
  ·exact q
  rw [List.getElem?_eq_none (by simpa using q)]at hl;cases hl
 obtain rfl:i=t.lits.length:=om;rw [List.getElem?_append_right (Nat.le_refl _)]at hl;simp at hl;subst hl;refine⟨k,by rw [← h.1];simp,.inr ⟨k,rfl,c,hk,hx,fun a ha=>(ho a ha).imp_right fun q=>by simpa using q⟩⟩
theorem run_told {vars:Nat}{cls:List (List Int)}(hc:ClsOK vars cls):∀(n:Nat) (t:Tr),GoodT vars t.lits→Tg cls t→vars<n+t.lits.length→zdr vars cls t (runF n cls t):=by
 intro n
 induction n with
 | zero=>intro t hg hw hn;have:=hg.le;omega
 | succ n ih=>
  intro t hg hw hn;have self:∃L W:List Int,t.lits=t.lits++L∧t.why=t.why++W∧L.length=W.length∧∀y∈W,y≠ -1:=⟨[],[],sm,sm,rfl,sm⟩;unfold runF;rcases hs:scanG t.lits cls 0 none with i | g
  ·obtain ⟨-,c,h1,h2⟩:=Tf hs;have e:stG t.lits c 0=(true,(stF t.lits c).2):=by rw [← h2];rfl
   refine⟨hg,hw,self,fun _=>⟨i,rfl,c,by simpa using h1,(Te e (.inr fun l hl=>((hc c (List.mem_of_getElem? h1)).2 l hl).1)).2⟩,fun h=> ?_⟩;simp only at h;omega
  obtain⟨h1,h2,h3⟩:=scanG_inr hs;rcases g with _ | i
  ·refine ⟨hg,hw,self,fun h=>absurd rfl h,fun _ c hcc=> ?_⟩;exact Prod.ext (h1 c hcc) ((h2 rfl).2 c hcc)
  rcases h3 i rfl with q | ⟨-,c,h4,h5⟩
  ·cases q
  rw [Nat.sub_zero]at h4;obtain⟨e,hm⟩:=Xq h4;obtain⟨u1,u2,u3,u4⟩:=stF_unit (vars:=vars) (hc c hm).2 (h1 c hm) h5;simp only;rw [e];have r:=ih ⟨t.lits++ [(stF t.lits c).2],t.why++ [(i:Int)]⟩ (hg.push h5 ((hc c hm).2 _ u1).2 u2 u3) (Xr hw h4 u1 u4) (by simp;omega);refine⟨r.good,r.why,?_,r.bad,r.done⟩;obtain⟨L,W,h6,h7,h8,h9⟩:=r.pre;refine⟨(stF t.lits c).2::L,(i:Int)::W,by rw [h6];simp,by rw [h7];simp,by simp [h8],fun y hy=> ?_⟩;rcases List.mem_cons.1 hy with rfl | hy
  ·omega
  exact h9 y hy
def yX (cls:List (List Int))(T:List Int):Prop:=∀c∈cls,stF T c=(false,0)
def Rup (cls:List (List Int))(c:List Int):Prop:=∀T:List Int,yX cls T→(∀l∈c,-l∈T)→False
theorem OH {cls:List (List Int)}{T c:List Int}(h:yX cls T)(hc:c∈cls)(hf:∀l∈c,-l∈T):False:=by
 have:=h c hc;unfold stF at this;rw [OG hf]at this;cases this
theorem OI {cls:List (List Int)}{T c:List Int}{x:Int}(h:yX cls T)(hc:c∈cls)(hn:c.Nodup)(hx:x∈c)(h0:x≠0)(hf:∀l∈c,l=x∨ -l∈T):x∈T:=by
 apply Classical.byContradiction;intro hxT;by_cases hx': -x∈T
 ·exact OH h hc fun l hl=>by rcases hf l hl with rfl | q;exact hx';exact q
 have:=h c hc;unfold stF at this;rw [zau hf hxT hx' h0 hn hx]at this;cases this;exact h0 rfl
structure SS where
 t:Tr
 cls:List (List Int)
 levels:List Nat
 level:Nat
 learned:List (List Int)
def zba (vars:Nat)(s:SS):SS × Int:=
 let r:=runF (vars+1) s.cls s.t
 ({s with t:=r.1,levels:=s.levels++List.replicate (r.1.lits.length-s.levels.length) s.level},r.2)
def G9 (s:SS)(l:Int):Nat:=s.t.lits.idxOf (-l)
def lvF (s:SS)(l:Int):Nat:=s.levels.getD (G9 s l) 0
def Xt (s:SS):List Int→Int→Nat→Int × Nat
 | [],la,n=>(la,n)
 | l::c,la,n=>if lvF s l=s.level then Xt s c (if la=0∨G9 s la<G9 s l then l else la) (n+1)else Xt s c la n
def zds (x:Int):List Int→List Int→List Int
 | [],c=>c
 | l::r,c=>zds x r (if l≠x∧l∉c then c++ [l]else c)
def zdu (s:SS):Nat→List Int→List Int
 | 0,c=>c
 | n+1,c=>let p:=Xt s c 0 0
  if p.2<2 then c else zdu s n (zds (-p.1) (s.cls.getD (s.t.why.getD (G9 s p.1) 0).toNat []) (c.filter (· ≠p.1)))
def zdv (s:SS):List Int→Nat→Nat
 | [],b=>b
 | l::c,b=>zdv s c (if lvF s l<s.level then max b (lvF s l)else b)
def anF (s:SS)(bad:Nat):List Int × Nat:=
 let c:=(zdu s (s.t.lits.length+1) (s.cls.getD bad [])).filter (lvF s · ≠0)
 (c,zdv s c 0)
def Gc (l:List Nat)(b:Nat):Nat:=(l.takeWhile (· ≤b)).length
def zdw (s:SS)(b:Nat):SS:=
 let k:=Gc s.levels b
 {s with t:=⟨s.t.lits.take k,s.t.why.take k⟩,levels:=s.levels.take k,level:=b}
def zb4 (s:SS)(c:List Int):SS:= {s with learned:=s.learned++ [c],cls:=s.cls++ [c]}
def Gd (T:List Int)(vars:Nat):Nat→Option Nat
 | 0=>none
 | n+1=>if((vars-n:Nat):Int)∉T∧ -((vars-n:Nat):Int)∉T then some (vars-n)else Gd T vars n
def ze4 (s:SS)(x:Int):SS:= {s with t:=⟨s.t.lits++ [x],s.t.why++ [-1]⟩,levels:=s.levels++ [s.level+1],level:=s.level+1}
inductive Ans where
 | yes (T:List Int) (used:Nat)
 | no (steps:List (List Int)) (used:Nat)
 | hungry (used:Nat)
def doF (vars:Nat)(ph:Bool)(fuel:Nat):Nat→SS→Nat→Ans
 | 0,_,used=> .hungry used
 | n+1,s,used=>
  let r:=zba vars s
  if r.2≠ -1 then
   if used=fuel then .hungry used
   else if s.level=0 then .no (s.learned++ [[]]) (used+1)
   else let a:=anF r.1 r.2.toNat
    doF vars ph fuel n (zdw (zb4 r.1 a.1) a.2) (used+1)
  else match Gd r.1.t.lits vars vars with
   | none=> .yes r.1.t.lits used
   | some v=>doF vars ph fuel n (ze4 r.1 (if ph then(v:Int)else -(v:Int))) used
structure zav (vars:Nat)(s:SS):Prop where
 ok:ClsOK vars s.cls
 good:GoodT vars s.t.lits
 why:Tg s.cls s.t
 len:s.levels.length=s.t.lits.length
 mono:∀(i j a b:Nat),i≤j→s.levels[i]? =some a→s.levels[j]? =some b→a≤b
 top:∀a∈s.levels,a≤s.level
 dec:∀j:Nat,s.t.why[j]? =some (-1)→∃b:Nat,s.levels[j]? =some b∧1≤b∧(∀ (i a:Nat),i<j→s.levels[i]? =some a→a<b)∧yX s.cls (s.t.lits.take j)
 all:∀k:Nat,1≤k→k≤s.level→∃j:Nat,s.t.why[j]? =some (-1)∧s.levels[j]? =some k
theorem OJ {l:List Int}{x:Int}(h:x∈l):l[l.idxOf x]? =some x:=by
 have h1:l.idxOf x<l.length:=List.idxOf_lt_length_of_mem h;rw [eD h1,List.getElem_idxOf h1]
theorem GoodT.inj {vars:Nat}{T:List Int}(h:GoodT vars T){i j:Nat}{a b:Int}(ha:T[i]? =some a)(hb:T[j]? =some b)(hab:a.natAbs=b.natAbs):i=j:=by
 have h1:=h.1;have hi:=(List.getElem?_eq_some_iff.1 ha).1;have hj:=(List.getElem?_eq_some_iff.1 hb).1;refine(List.getElem?_inj (l:=T.map Int.natAbs) (by simpa using hi) h1).1 ?_;rw [List.getElem?_map,List.getElem?_map,ha,hb,Option.map_some,Option.map_some,hab]
theorem GoodT.cons {vars:Nat}{T:List Int}(h:GoodT vars T){a:Int}(h1:a∈T)(h2: -a∈T):False:=by
 obtain⟨i,hi⟩:=List.getElem?_of_mem h1;obtain⟨j,hj⟩:=List.getElem?_of_mem h2;have:=h.inj hi hj om;subst this;rw [hi]at hj;have h0:=(h.2 a h1).1;injection hj with hj;omega
theorem zav.lv {vars:Nat}{s:SS}(h:zav vars s){l:Int}(hl: -l∈s.t.lits):s.levels[G9 s l]? =some (lvF s l):=by
 have h1:s.t.lits.idxOf (-l)<s.levels.length:=by rw [h.len];exact List.idxOf_lt_length_of_mem hl
 unfold lvF G9;rw [dV,eD h1];rfl
theorem IX {α β:Type}{f:α→β}{l:List α}(h:(l.map f).Nodup):l.Nodup:=by
 unfold List.Nodup at h ⊢;rw [List.pairwise_map]at h;exact h.imp fun q (e:_=_)=>q (congrArg f e)
theorem zav.zero {vars:Nat}{s:SS}(h:zav vars s){T:List Int}(hT:yX s.cls T):∀i:Nat,s.levels[i]? =some 0→∀l:Int,s.t.lits[i]? =some l→l∈T:=by
 intro i
 induction i using Nat.strongRecOn with
 | ind i ih=>
  intro hi l hl;obtain⟨y,hy,hq⟩:=h.why.2 i l hl;rcases hq with rfl | ⟨k,rfl,c,hc,hlc,ha⟩
  ·obtain ⟨b,hb,hb1,_⟩:=h.dec i hy;rw [hi]at hb;cases hb;omega
  have hcm:=List.mem_of_getElem? hc;refine OI hT hcm (IX (h.ok c hcm).1) hlc ((h.ok c hcm).2 l hlc).1 fun a ham=>(ha a ham).imp_right fun q=> ?_;obtain⟨j,hj⟩:=List.getElem?_of_mem q;rw [List.getElem?_take]at hj;split at hj
  ·rename_i hji;have hjl:j<s.levels.length:=by rw [h.len];exact(List.getElem?_eq_some_iff.1 hj).1
   have e:=eD hjl;have:=h.mono j i _ _ om e hi;exact ih j hji (by rw [e,Nat.le_zero.1 this]) _ hj
  cases hj
structure CI (s:SS)(c:List Int):Prop where
 no:c.Nodup
 neg:∀l∈c,-l∈s.t.lits
 rup:Rup s.cls c
 one:∃l∈c,lvF s l=s.level
theorem aQ {l:List Nat}{b i a:Nat}(h:(l.take (Gc l b))[i]? =some a):l[i]? =some a∧a≤b∧i<Gc l b:=by
 have hi:i<Gc l b:=by
  have:=(List.getElem?_eq_some_iff.1 h).1;rw [List.length_take]at this;omega
 have h2:l[i]? =some a:=by rw [List.getElem?_take,if_pos hi]at h;exact h
 refine⟨h2,?_,hi⟩;have e:l.take (Gc l b)=l.takeWhile (· ≤b):=by
  unfold Gc;have:=List.takeWhile_prefix (l:=l) (· ≤b);exact(List.prefix_iff_eq_take.1 this).symm
 rw [e]at h;have h3:=List.all_takeWhile (p:=fun x=>decide (x≤b)) (l:=l);have:=List.all_eq_true.1 h3 a (List.mem_of_getElem? h);simpa using this
def zb5 (c:List Int)(v:Nat):Nat:=if((v:Nat):Int)∈c then 1 else if -((v:Nat):Int)∈c then 2 else 0
def Gf (c:List Int):Nat→Nat
 | 0=>0
 | v+1=>Gf c v*3+zb5 c (v+1)
theorem zaw (c:List Int)(v:Nat):zb5 c v<3:=by unfold zb5;split<;>(try split)<;>omega
theorem Xu (c:List Int)(v:Nat):Gf c v<3^v:=by
 induction v with
 | zero=>simp [Gf]
 | succ v ih=>have:=zaw c (v+1);unfold Gf;rw [Nat.pow_succ];omega
structure Lrn (vars:Nat)(base:List (List Int))(s:SS):Prop where
 cls:s.cls=base++s.learned
 rup:∀i c,s.learned[i]? =some c→Rup (base++s.learned.take i) c
 diff:(s.learned.map fun c=>Gf c vars).Nodup
theorem Lrn.le {vars:Nat}{base:List (List Int)}{s:SS}(h:Lrn vars base s):s.learned.length≤3^vars:=by
 have:=Ll (n:=3^vars) (l:=s.learned.map fun c=>Gf c vars+1) (by
  have:=h.diff;unfold List.Nodup at this ⊢;rw [List.pairwise_map]at this ⊢;exact this.imp fun q e=>q om) fun x hx=>by
   obtain⟨c,_,rfl⟩:=List.mem_map.1 hx;have:=Xu c vars;omega
 simpa using this
theorem OL {T:List Int}{vars:Nat}:∀n,n≤vars→match Gd T vars n with
  | some v=>vars-n<v∧v≤vars∧(v:Int)∉T∧ -(v:Int)∉T
  | none=>∀v:Nat,vars-n<v→v≤vars→(v:Int)∈T∨ -(v:Int)∈T:=by
 intro n
 induction n with
 | zero=>intro _;unfold Gd;intro v h1 h2;omega
 | succ n ih=>
  intro hn;unfold Gd;by_cases h:((vars-n:Nat):Int)∉T∧ -((vars-n:Nat):Int)∉T
  ·rw [if_pos h];exact⟨om,om,h.1,h.2⟩
  rw [if_neg h];have:=ih om;split at this
  ·rename_i v _;exact⟨om,this.2⟩
  intro v h1 h2;rcases Nat.lt_or_ge (vars-n) v with q | q
  ·exact this v q h2
  obtain rfl:v=vars-n:=om;exact Classical.byContradiction fun k=>h ⟨fun a=>k (.inl a),fun a=>k (.inr a)⟩
end Cd
namespace Cl
def Xv (c:List Int)(a:Int):Int:=c.getD a.toNat 0
structure zax (n:Nat)(c:List Int):Prop where
 len:c.length=n
 rg:∀z∈c,0≤z∧z<(n:Int)
theorem zax.at {n:Nat}{c:List Int}(h:zax n c){a:Int}(h0:0≤a)(h1:a<(n:Int)):0≤Xv c a∧Xv c a<(n:Int)∧c[a.toNat]? =some (Xv c a):=by
 have hl:a.toNat<c.length:=by rw [h.len];omega
 have e:Xv c a=c[a.toNat]:=by unfold Xv;rw [dV,eD hl];rfl
 have:=h.rg _ (List.getElem_mem hl);rw [e];exact⟨this.1,this.2,eD hl⟩
def Xw:List Int→Int
 | []=>0
 | z::l=>z+Xw l
structure Gg (n:Nat)(r r':List Int × Bool):Prop where
 ok:zax n r'.1
 sum:Xw r'.1≤Xw r.1
 up:r.2=true→r'.2=true
 lt:r.2=false→r'.2=true→Xw r'.1<Xw r.1
theorem Gg.refl {n:Nat}{r:List Int × Bool}(h:zax n r.1):Gg n r r:=⟨h,Int.le_refl _,id,fun h h'=>by rw [h]at h';cases h'⟩
theorem Gg.trans {n:Nat}{a b c:List Int × Bool}(h:Gg n a b)(k:Gg n b c):Gg n a c:=⟨k.ok,Int.le_trans k.sum h.sum,fun q=>k.up (h.up q),fun q1 q2=>by
 have h1:=h.sum;have h2:=k.sum;rcases hb:b.2 with _ | _
 ·have:=k.lt hb q2;omega
 have:=h.lt q1 hb;omega⟩
end Cl
namespace Sv
open Cd Cl
structure At where
 kind:Int
 a:Int
 b:Int
structure Stp where
 kind:Int
 lits:List Int
def negF (l:List Int):List Int:=l.map fun x=> -x
def fallsF (vars:Nat)(cls:List (List Int))(c:List Int):Bool:=decide ((runF (vars+1) cls ⟨negF c,c.map fun _=> -1⟩).2≠ -1)
def litB (holds:List Bool)(l:Int):Bool:=holds.getD (l.natAbs-1) false==decide (0<l)
def holdsT (vars:Nat)(T:List Int):List Bool:=(List.range vars).map fun v=>decide (((v+1:Nat):Int)∈T)
def doC (vars:Nat)(ph:Bool)(fuel:Nat)(cls:List (List Int)):Ans:=doF vars ph fuel ((fuel+1)*(vars+2)+1) ⟨⟨[],[]⟩,cls,[],0,[]⟩ 0
inductive Vd where
 | yes (holds:List Bool) (things:List Int) (used:Nat)
 | no (steps:List Stp) (used:Nat)
 | hungry (used:Nat)
def Vd.st:Vd→Int
 | .yes _ _ _=>1
 | .no _ _=>2
 | .hungry _=>3
theorem neg_good {vars:Nat}{c:List Int}(h:(c.map Int.natAbs).Nodup∧∀l∈c,l≠0∧l.natAbs≤vars):GoodT vars (negF c):=by
 refine⟨?_,fun l hl=> ?_⟩
 ·unfold negF;rw [List.map_map];have:(Int.natAbs ∘ fun x:Int=> -x)=Int.natAbs:=by funext x;simp
  rw [this];exact h.1
 obtain⟨x,hx,rfl⟩:=List.mem_map.1 hl;have:=h.2 x hx;omega
theorem why_neg (cls:List (List Int))(c:List Int):Tg cls ⟨negF c,c.map fun _=> -1⟩:=by
 refine⟨by simp [negF],fun i l hl=>⟨-1,?_,.inl rfl⟩⟩;have hi:i<c.length:=by simpa [negF]using (List.getElem?_eq_some_iff.1 hl).1
 show(c.map fun _=>(-1:Int))[i]? =some (-1);rw [List.getElem?_map,eD hi];rfl
structure En where
 a:Int
 b:Int
 s:Bool
def en0:En:=⟨0,0,false⟩
def litE (e:En)(i:Nat):Int:=if e.s then((i+1:Nat):Int)else -((i+1:Nat):Int)
def placesE (E:List En):List Int:=(List.range E.length).map fun i=>litE (E.getD i en0) i
def clsE (E:List En):List (List Int):=(placesE E).map fun l=> [l]
theorem uV (e:En)(i:Nat):(litE e i).natAbs=i+1:=by unfold litE;split<;>omega
theorem nO {E:List En}{l:Int}(h:l∈placesE E):∃i,i<E.length∧l=litE (E.getD i en0) i:=by
 obtain⟨i,hi,rfl⟩:=List.mem_map.1 h;exact⟨i,List.mem_range.1 hi,rfl⟩
theorem places_of {E:List En}{i:Nat}(h:i<E.length):litE (E.getD i en0) i∈placesE E:=List.mem_map.2 ⟨i,List.mem_range.2 h,rfl⟩
theorem places_len (E:List En):(placesE E).length=E.length:=by simp [placesE]
theorem clsE_ok (E:List En):ClsOK E.length (clsE E):=by
 intro c hc;obtain⟨l,hl,rfl⟩:=List.mem_map.1 hc;obtain⟨i,hi,rfl⟩:=nO hl;refine⟨sm,fun x hx=> ?_⟩;obtain rfl:=List.mem_singleton.1 hx;have:=uV (E.getD i en0) i;omega
theorem Lm {n:Nat}{A X:List (List Int)}(h:ClsOK n A)(hX:ClsOK n X):ClsOK n (A++X):=fun c hc=>(List.mem_append.1 hc).elim (h c) (hX c)
theorem run_start {vars:Nat}{cls:List (List Int)}(h:ClsOK vars cls):zdr vars cls ⟨[],[]⟩ (runF (vars+1) cls ⟨[],[]⟩):=
 run_told h (vars+1) ⟨[],[]⟩ ⟨sm,sm⟩ ⟨rfl,fun i l hl=>by simp at hl⟩ sm
theorem zay {T:List Int}{l:Int}(h0:l≠0)(h:stF T [l]=(false,0)):l∈T:=by
 unfold stF stG at h;split at h
 ·simp [stG]at h
 split at h
 ·rename_i q;simpa using q
 exact absurd (congrArg Prod.snd h) h0
theorem runs_in {E:List En}{X:List (List Int)}(hX:ClsOK E.length X)(h:(runF (E.length+1) (clsE E++X) ⟨[],[]⟩).2= -1):∀l∈placesE E,l∈(runF (E.length+1) (clsE E++X) ⟨[],[]⟩).1.lits:=by
 have R:=run_start (Lm (clsE_ok E) hX);intro l hl;obtain⟨i,hi,e⟩:=nO hl;have ha:=uV (E.getD i en0) i;rw [← e]at ha;exact zay om (R.done h [l] (List.mem_append.2 (.inl (List.mem_map.2 ⟨l,hl,rfl⟩))))
theorem zaz {E:List En}{X:List (List Int)}(hX:ClsOK E.length X){c:List Int}(hc:c∈X)(hn:∀l∈c,-l∈placesE E):(runF (E.length+1) (clsE E++X) ⟨[],[]⟩).2≠ -1:=by
 intro h;have R:=run_start (Lm (clsE_ok E) hX);have h1:=R.done h c (List.mem_append.2 (.inr hc));have h2:stF (runF (E.length+1) (clsE E++X) ⟨[],[]⟩).1.lits c=(true,0):=OG (fun l hl=>runs_in hX h _ (hn l hl)) 0;rw [h2]at h1;cases h1
theorem Xx (E:List En):(runF (E.length+1) (clsE E) ⟨[],[]⟩).2= -1∧∀x,x∈(runF (E.length+1) (clsE E) ⟨[],[]⟩).1.lits↔x∈placesE E:=by
 have R:=run_start (clsE_ok E);have hsub:∀x,x∈(runF (E.length+1) (clsE E) ⟨[],[]⟩).1.lits→x∈placesE E:=by
  intro x hx;obtain⟨i,hi⟩:=List.getElem?_of_mem hx;obtain⟨y,hy,hq⟩:=R.why.2 i x hi;obtain⟨L,W,_,h2,_,h4⟩:=R.pre;have hy':y∈W:=by
   have:=List.mem_of_getElem? hy;rw [h2]at this;simpa using this
  rcases hq with e | ⟨k,_,c,hc,hxc,_⟩
  ·exact absurd e (h4 y hy')
  obtain⟨l,hl,rfl⟩:=List.mem_map.1 (List.mem_of_getElem? hc);obtain rfl:=List.mem_singleton.1 hxc;exact hl
 have h1:(runF (E.length+1) (clsE E) ⟨[],[]⟩).2= -1:=by
  refine Classical.byContradiction fun hne=> ?_;obtain⟨k,_,c,hc,hn⟩:=R.bad hne;obtain⟨l,hl,rfl⟩:=List.mem_map.1 (List.mem_of_getElem? hc);have h2:=hsub _ (hn l (List.mem_singleton.2 rfl));obtain⟨i,hi,e1⟩:=nO hl;obtain⟨j,hj,e2⟩:=nO h2;have a1:=uV (E.getD i en0) i;have a2:=uV (E.getD j en0) j;rw [← e1]at a1;rw [← e2]at a2;obtain rfl:i=j:=om;omega
 refine⟨h1,fun x=>⟨hsub x,fun h=> ?_⟩⟩;have:=runs_in (E:=E) (X:= []) (fun c hc=>by cases hc) (by rw [List.append_nil];exact h1) x h;rwa [List.append_nil]at this
theorem doC_unit {vars:Nat}{ph:Bool}{fuel:Nat}{cls:List (List Int)}(hf:0<fuel){t:Tr}{r:Int}(h:runF (vars+1) cls ⟨[],[]⟩=(t,r))(hall:r= -1→∀v:Nat,1≤v→v≤vars→(v:Int)∈t.lits∨ -(v:Int)∈t.lits):doC vars ph fuel cls=if r≠ -1 then .no [[]] 1 else .yes t.lits 0:=by
 unfold doC doF zba;simp only [h];by_cases hr:r= -1
 ·rw [if_neg (by simpa using hr),if_neg (by simpa using hr)];have hx:=OL (T:=t.lits) (vars:=vars) vars (Nat.le_refl _);rcases hn:Gd t.lits vars vars with _ | v
  ·rfl
  rw [hn]at hx;simp only at hx;rcases hall hr v om om with q | q
  ·exact absurd q hx.2.2.1
  exact absurd q hx.2.2.2
 rw [if_pos hr,if_pos hr,if_neg om];rfl
theorem zaA (E:List En){T:List Int}(h:∀x,x∈T↔x∈placesE E):holdsT E.length T=E.map fun e=>e.s:=by
 unfold holdsT;apply List.ext_getElem
 ·simp
 intro i h1 h2;have hi:i<E.length:=by simpa using h1
 simp only [List.getElem_map,List.getElem_range];have e:E.getD i en0=E[i]:=by rw [dV,eD hi];rfl
 cases hs:E[i].s
 ·refine decide_eq_false fun q=> ?_;obtain⟨j,hj,e2⟩:=nO ((h _).1 q);have a:=uV (E.getD j en0) j;rw [← e2]at a;obtain rfl:i=j:=om;rw [e]at e2;unfold litE at e2;rw [hs]at e2;simp at e2;omega
 refine decide_eq_true ((h _).2 ?_);have:=places_of hi;rw [e]at this;unfold litE at this;rwa [if_pos hs]at this
theorem units_all {E:List En}{T:List Int}(h:∀l∈placesE E,l∈T):∀v:Nat,1≤v→v≤E.length→(v:Int)∈T∨ -(v:Int)∈T:=by
 intro v h1 h2;have:=h _ (places_of (show v-1<E.length from om));unfold litE at this;rw [show v-1+1=v from om]at this;split at this
 ·exact .inl this
 exact .inr this
theorem doC_E1 (E:List En)(ph:Bool)(n:Nat)(hn:0<n):∃T,doC E.length ph n (clsE E)= .yes T 0∧holdsT E.length T=E.map fun e=>e.s:=by
 obtain⟨h1,h2⟩:=Xx E;refine⟨(runF (E.length+1) (clsE E) ⟨[],[]⟩).1.lits,?_,zaA E h2⟩;rw [doC_unit (t:=(runF (E.length+1) (clsE E) ⟨[],[]⟩).1) (r:=(runF (E.length+1) (clsE E) ⟨[],[]⟩).2) hn rfl fun _=>units_all fun l hl=>(h2 l).2 hl,if_neg (by simpa using h1)]
theorem doC_E2 (E:List En)(ph:Bool)(n:Nat)(hn:0<n){c:List Int}(k1:(c.map Int.natAbs).Nodup∧∀l∈c,l≠0∧l.natAbs≤E.length)(k2:∀l∈c,-l∈placesE E):doC E.length ph n (clsE E++ [c])= .no [[]] 1:=by
 have hX:ClsOK E.length [c]:=fun d hd=>by rw [List.mem_singleton.1 hd];exact k1
 have hb:=zaz hX (List.mem_singleton.2 rfl) k2;rw [doC_unit (t:=(runF (E.length+1) (clsE E++ [c]) ⟨[],[]⟩).1) (r:=(runF (E.length+1) (clsE E++ [c]) ⟨[],[]⟩).2) hn rfl fun h=>absurd h hb,if_pos hb]
end Sv
end Go.Proofs.YtmepglhdcphffaaGreat
