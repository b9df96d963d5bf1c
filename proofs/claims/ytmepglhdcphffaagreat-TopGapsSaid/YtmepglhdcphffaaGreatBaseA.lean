/- What the walks are told of arguments: integers, fractions, slices. A region whose order is drawn: quiet operations are taken first, the others come in one forced order. A region whose order is drawn, by a plan with two classes of worlds: C, until a late operation has come; D₀, all the way. A region whose order is drawn, by a plan that parts where two operations are free. At a guarded operation of a region whose order is drawn. Contracts of package frac's small functions: size, gcd, Check, Make. Plain walks over the program. What frac.Make answers: plain definitions and lemmas. Wide whole numbers in memory: what a block must hold to be one; what a call may change; plain lemmas on worlds. Contracts of the wide numbers' small methods. Contracts of the wide numbers: making them of machine numbers. Contracts of the wide numbers: reading them. Contracts of the wide numbers: copying them. Contracts of the wide numbers: sign, quotient, common divisor. Contracts of the wide numbers: common divisor, quotient; of machine size. Wide fractions in memory: what they are; making them, their numerator and denominator. Wide fractions: numerator, denominator; FracOf, FracMade. Fractions of the program: what the operations answer, and what they mean in Lean's own fractions. -/
import Derived.Test.YtmepglhdcphffaaGreatProg
import Derived.WalkKit
import Derived.ProofKit
import Derived.OpenShut
import Derived.Lib.SmallJoins
import Derived.Deep.Quiet
import Derived.OrdersHeld
import Derived.Deep.RegionHeld3
import Derived.WalkSpells
import Derived.Handy
import Derived.Deep.QuietTactic
import Derived.BigQuiet
import Derived.Lib.Hide
import Derived.WalkSmall
import Derived.Deep.AppendLies
import Derived.Deep.RegionLawGrows
namespace Go.Proofs.YtmepglhdcphffaaGreat
set_option linter.unusedSimpArgs false
set_option linter.unusedVariables false
theorem om {p:Prop}(h:p:=by omega):p:=h
theorem kr {p:Prop}(h:p:=by kernel_rfl):p:=h
theorem dc {p:Prop}(h:p:=by decide):p:=h
theorem sm {p:Prop}(h:p:=by simp):p:=h
theorem gn {p:Prop}(h:p:=by go_num):p:=h
open Go.ChangeShapes Go.WideShapes Go.ChangeAt Go.RowKit Go.Joins
def dA (x:Int):Prop:= -9223372036854775808≤x∧x≤9223372036854775807
theorem Sy {x:Int}(h:(Lit.int .i64 x).wf=true):dA x:=by
 have:=bounds_i64 h;unfold dA;omega
section
variable {H:Type} {enc:TypeId × Value→H} {W:World} {base:Nat} {d:DataW H} {p:List MemPlace} {v:Value}
end
section
variable {P:Program} {ops:Array Oper} {Q:Exit→Act→World→Prop} {C:World→Prop}
theorem Dx {j:Nat}{oi oj:Oper}{v:Value}(hj:ops[j]? =some oj)(hap:oi.apart ops oj=true)(hsj:∀cs b,oj.op≠ .select cs b)
  (hQ:∀c (a:Act) w,¬Q (.panic c) a w) {I:Act→Prop} (hI:∀a u,I a→I (a.put oj.dst u)) (hD:∀a d,I a→I {a with defers:=d::a.defers})
  {K:Act→World→Prop} {a:Act} {w:World} (hy:I a) (h:wpOp P ops Q j K (a.put oi.dst v) w):
  wpOp P ops Q j (fun a' w'=>I a'∧K (a'.put oi.dst v) w') a w:=by
 obtain⟨h1,h2,_⟩:=Oper.apart_spec hap;unfold wpOp at *;simp only [hj]at *;rw [wanted_put oj a oi.dst v h1]at h;by_cases hw:Region.wanted oj (yielded ops a.tmps)=true
 ·rw [if_pos hw]at h ⊢;rcases h with h | ⟨hasks,hlets⟩
  ·refine .inl ?_;unfold Oper.wp at *;rw [execOp_put oj hsj a oi.dst v h1]at h;rcases hr:(execOp a.eval oj).run P w with⟨n,w'⟩ | ⟨x,w'⟩<;>rw [hr]at h
   ·cases n<;>simp only [Oper.upon]at h ⊢
    case value u=>exact⟨hI _ _ hy,by rw [← Act.put_comm a v u h2];exact h⟩
    case skip=>exact⟨hI _ _ hy,by rw [← Act.put_comm a v undef h2];exact h⟩
    case defer d=>exact⟨hI _ _ (hD _ _ hy),by rw [← Act.put_comm _ v undef h2,←Act.put_defers];exact h⟩
    case enter f args=>
     exact Calls.mono h fun e w'' he=>by
      cases e with
      | returned u=>exact⟨hI _ _ hy,by rw [← Act.put_comm a v u h2];exact he⟩
      | panicked c=>exact absurd he (hQ _ _ _)
      | outgrown=>exact he
    case row row args=>exact Rows.mono h fun u w'' he=>⟨hI _ _ hy,by rw [← Act.put_comm a v u h2];exact he⟩
   cases x<;>simp only [Oper.upon]at h ⊢;exact absurd h (hQ _ _ _)
  exact .inr ⟨by unfold Oper.asks at *;rw [execOp_put oj hsj a oi.dst v h1]at hasks;exact hasks,hlets⟩
 rw [if_neg hw]at h ⊢;exact⟨hI _ _ hy,by rw [← Act.put_comm a v undef h2];exact h⟩
def looks:Op→Bool
 | .move _ | .assign _ | .pick .. | .load .. | .nilCheck _ | .binOp .. | .unOp .. | .convert .. | .slice .. | .fieldAddr .. | .field .. | .indexAddr .. | .index .. | .extract .. | .build .. =>true
 | .call {callee:= .builtin .len,..} | .call {callee:= .builtin .cap,..} | .call {callee:= .builtin .min,..} | .call {callee:= .builtin .max,..}=>true
 | _=>false
theorem Sz (s:Sem Value)(w w':World)(n:Next)(h:(do pure (Next.value (← s)):Sem Next).run P w= .ok n w'):∃v,n= .value v:=by
 rw [Sem.run_bind]at h;rcases hr:s.run P w with⟨v,w1⟩ | ⟨x,w1⟩<;>rw [hr]at h
 ·simp [Result.andThen,Sem.run,pure]at h;exact⟨v,h.1.symm⟩
 simp [Result.andThen]at h
theorem KD {o:Oper}(h:looks o.op=true)(ρ:Operand→Value)(w w':World)(n:Next)(hr:(execOp ρ o).run P w= .ok n w'):∃v,n= .value v:=by
 unfold execOp at hr;unfold looks at h;split at h<;>rename_i heq<;>first | (cases h;done) | (simp only [heq]at hr)
 case h_3=>
  rw [Sem.run_bind]at hr;rcases h1:(asBool (ρ _)).run P w with⟨v,w1⟩ | ⟨x,w1⟩<;>rw [h1]at hr
  ·simp [Result.andThen,Sem.run,pure]at hr;exact⟨_,hr.1.symm⟩
  simp [Result.andThen]at hr
 case h_5=>
  split at hr
  all_goals first
   | (simp [pure,Sem.run]at hr;exact⟨_,hr.1.symm⟩)
   | (simp [runtimePanic,goPanic,program,Sem.run,bind,Sem.bind,pure]at hr;done)
   | skip
  split at hr
  ·simp [runtimePanic,goPanic,program,Sem.run,bind,Sem.bind,pure]at hr
  ·rw [Sem.run_bind]at hr;simp only [program,Sem.run,Result.andThen]at hr;rw [Sem.run_bind]at hr;rcases h1:(nilAhead (P.types.size+Made.depth) _ _ _).run P w with⟨v,w1⟩ | ⟨x,w1⟩<;>rw [h1]at hr
   ·simp only [Result.andThen]at hr;split at hr
    ·simp [unsupported,Sem.run,bind,Sem.bind]at hr
    simp [pure,Sem.run]at hr;exact⟨_,hr.1.symm⟩
   simp [Result.andThen]at hr
  simp [pure,Sem.run]at hr;exact⟨_,hr.1.symm⟩
 all_goals first
  | exact Sz _ _ _ _ hr
  | (simp [pure,Sem.run]at hr;exact⟨_,hr.1.symm⟩)
theorem EZ {o:Oper}(h:looks o.op=true){a:Act}{w:World}{v:Value}(hq:o.quietAt P a C w v):(execOp a.eval o).run P w= .ok (.value v) w:=by
 unfold Oper.quietAt at hq;rcases hr:(execOp a.eval o).run P w with⟨n,w'⟩ | ⟨x,w'⟩<;>rw [hr]at hq
 ·obtain ⟨u,rfl⟩:=KD h _ _ _ _ hr;obtain⟨h1,h2⟩:=hq;rw [h1,h2]
 exact hq.elim
def wpAnyL (P:Program)(md:Region.Mode)(ops:Array Oper)(Q:Exit→Act→World→Prop)(C:World→Prop)(late:Nat→Bool):Nat→Array Bool→Act→World→Prop
 | 0,listed,a,w=>Region.ready md ops listed= []∧Q .normal a w
 | fuel+1,listed,a,w=>
  (Region.ready md ops listed= []→Q .normal a w)∧
  ∀i∈Region.ready md ops listed,wpOp P ops Q i (fun a' w'=>(late i=false→C w')∧wpAnyL P md ops Q C late fuel (listed.setIfInBounds i true) a' w') a w
variable {md:Region.Mode} {late:Nat→Bool}
theorem jr:∀(fuel:Nat) (listed:Array Bool) (a:Act) (w:World),wpAnyL P md ops Q C late fuel listed a w→wpAny P md ops Q fuel listed a w
 | 0,_,_,_,h=>h
 | fuel+1,_,_,_,h=>⟨h.1,fun i hi=>wpOp_mono (fun a' w' h'=>jr fuel _ a' w' h'.2) (h.2 i hi)⟩
theorem lD {i:Nat}{o:Oper}{v:Value}{a:Act}(hi:ops[i]? =some o)(hl:looks o.op=true)(hy:YieldsIn P ops C o v a){K:Act→World→Prop}{w:World}(hC:C w)(h:K (a.put o.dst v) w):wpOp P ops Q i K a w:=by
 unfold wpOp;simp only [hi];rcases hy with⟨hw,hv⟩ | ⟨hw,rfl⟩
 ·rw [if_pos hw];refine .inl ?_;unfold Oper.wp;rw [EZ hl (hv w hC)];exact h
 rw [if_neg (by simp [hw])];exact h
def DC (md:Region.Mode)(ops:Array Oper)(listed:Array Bool):Prop:=
 ∀(k:Nat) (ok:Oper) (e:Edge),ops[k]? =some ok→listed.getD k false=true→e∈ok.after→Region.binds md e=true→listed.getD e.on false=true
theorem DC.set {listed:Array Bool}{j:Nat}(h:DC md ops listed)(hj:j∈Region.ready md ops listed):DC md ops (listed.setIfInBounds j true):=by
 intro k ok e hk hl he hb;by_cases hjk:j=k
 ·subst hjk;obtain⟨_,oj,hoj,hall⟩:=mem_ready.1 hj;rw [hk]at hoj;cases hoj;exact getD_set_true (hall e he hb)
 rw [getD_set_ne false hjk]at hl;exact getD_set_true (h k ok e hk hl he hb)
def iO (md:Region.Mode)(ops:Array Oper):Nat→Nat→Nat→Bool
 | 0,_,_=>false
 | n+1,j,i=>((ops[j]?).map fun o=>o.after.any fun e=>Region.binds md e&&(e.on==i || iO md ops n e.on i)).getD false
theorem pz {n j i:Nat}(h:iO md ops (n+1) j i=true):∃oj,ops[j]? =some oj∧∃e∈oj.after,Region.binds md e=true∧(e.on=i∨iO md ops n e.on i=true):=by
 unfold iO at h;rcases hj:ops[j]? with _ | oj
 ·rw [hj]at h;simp at h
 rw [hj]at h;simp only [Option.map_some,Option.getD_some,Array.any_eq_true',Bool.and_eq_true,Bool.or_eq_true,beq_iff_eq]at h;obtain⟨e,he,hb,h⟩:=h;exact⟨oj,rfl,e,he,hb,h⟩
theorem jO {listed:Array Bool}(h:DC md ops listed){i:Nat}(hi:listed.getD i false=false):∀(n j:Nat),iO md ops n j i=true→listed.getD j false=false
 | 0,_,h0=>by cases h0
 | n+1,j,h0=>by
  obtain⟨oj,hoj,e,he,hb,h1⟩:=pz h0;rcases hl:listed.getD j false with _ | _
  ·rfl
  have h2:=h j oj e hoj hl he hb;rcases h1 with h1 | h1
  ·rw [h1,hi]at h2;cases h2
  rw [jO h hi n _ h1]at h2;cases h2
theorem tJ {listed:Array Bool}(h:DC md ops listed){i n j:Nat}(hi:listed.getD i false=false)(hw:iO md ops n j i=true):j∉Region.ready md ops listed:=by
 intro hj;obtain⟨_,oj,hoj,hall⟩:=mem_ready.1 hj;cases n with
 | zero=>cases hw
 | succ n=>
  obtain⟨oj',zdb,e,he,hb,h1⟩:=pz hw;rw [hoj]at zdb;cases zdb;have h2:=hall e he hb;rcases h1 with h1 | h1
  ·rw [h1,hi]at h2;cases h2
  rw [jO h hi n _ h1]at h2;cases h2
theorem wpAnyL_first {D:World→Prop}{i:Nat}{oi:Oper}{v:Value}(hi:ops[i]? =some oi)(hlk:looks oi.op=true)(hsel:∀(j:Nat) (o:Oper) cs b,ops[j]? =some o→o.op≠ .select cs b)
  (hQ:∀c (a:Act) w,¬Q (.panic c) a w) (Uz:∀w,C w→D w):
  ∀(fuel:Nat) (listed:Array Bool) (a:Act) (w:World),DC md ops listed→
   (∀j oj,ops[j]? =some oj→j≠i→listed.getD j true=false→(∀e∈oj.after,Region.binds md e=true→e.on≠i)→oi.apart ops oj=true)→
   ((late i=true∧∀w,D w)∨∀j,late j=true→listed.getD j true=true∨∃n,iO md ops n j i=true)→
   (late i=false→C w)→i∈Region.ready md ops listed→YieldsIn P ops D oi v a→D w→
   wpAnyL P md ops Q C late fuel (listed.setIfInBounds i true) (a.put oi.dst v) w→wpAnyL P md ops Q C late (fuel+1) listed a w:=by
 intro fuel
 induction fuel with
 | zero=>
  intro listed a w _ _ _ KG hr hy hC H;refine⟨fun h=>(by rw [h]at hr;cases hr),fun j hj=> ?_⟩;by_cases hji:j=i
  ·subst hji;exact lD hi hlk hy hC ⟨KG,H⟩
  have:=ready_mono hj hji;rw [H.1]at this;cases this
 | succ fuel ih=>
  intro listed a w hdc hfree KH KG hr hy hC H;refine⟨fun h=>(by rw [h]at hr;cases hr),fun j hj=> ?_⟩;by_cases hji:j=i
  ·subst hji;exact lD hi hlk hy hC ⟨KG,H⟩
  have h1:=H.2 j (ready_mono hj hji);obtain⟨hjun,oj,hoj,hall⟩:=mem_ready.1 hj;have hun:listed.getD i false=false:=by
   have h0:=(mem_ready.1 hr).1;rcases Nat.lt_or_ge i listed.size with h' | h'
   ·simpa [Array.getD,h']using h0
   simp [Array.getD,Nat.not_lt.2 h']
  have hnot:∀e∈oj.after,Region.binds md e=true→e.on≠i:=fun e he hb heq=>by
   have h2:=hall e he hb;rw [heq,hun]at h2;cases h2
  have hap:=hfree j oj hoj hji hjun hnot;have hlj:late j=false∨(late i=true∧∀w,D w):=by
   rcases KH with h | h
   ·exact .inr h
   rcases hl:late j with _ | _
   ·exact .inl rfl
   rcases h j hl with h | ⟨n,h⟩
   ·rw [hjun]at h;cases h
   exact absurd hj (tJ hdc hun h)
  have Oz:(late i=true∧∀w,D w)∨∀k,late k=true→(listed.setIfInBounds j true).getD k true=true∨∃n,iO md ops n k i=true:=by
   refine KH.imp id fun h k hk=>(h k hk).imp (fun h'=> ?_) id;by_cases hjk:j=k
   ·subst hjk;rw [hjun]at h';cases h'
   rw [getD_set_ne true hjk];exact h'
  have hap3:=(Oper.apart_spec hap).2.2;have h2:=Dx (I:=YieldsIn P ops D oi v) hoj hap (fun cs b=>hsel j oj cs b hoj) hQ
   (fun a u h=>h.of_same (execOp_put oi (fun cs b=>hsel i oi cs b hi) a oj.dst u hap3) (wanted_put oi a oj.dst u hap3)) (fun a d h=>h.of_same rfl rfl) hy h1
  refine wpOp_mono (fun a' w' h3=>⟨h3.2.1,ih (listed.setIfInBounds j true) a' w' (hdc.set hj) (fun k ok hk hki KO hno=> ?_) Oz (fun hl=> ?_) (ready_mono hr (Ne.symm hji)) h3.1 ?_ ?_⟩) h2
  ·refine hfree k ok hk hki ?_ hno;by_cases hjk:j=k
   ·subst hjk;exact hjun
   rw [getD_set_ne true hjk]at KO;exact KO
  ·rcases hlj with h | ⟨h,_⟩
   ·exact h3.2.1 h
   rw [hl]at h;cases h
  ·rcases hlj with h | ⟨_,h⟩
   ·exact Uz _ (h3.2.1 h)
   exact h _
  rw [Array.setIfInBounds_comm _ _ hji];exact h3.2.2
def mO (md:Region.Mode)(ops:Array Oper)(late:Nat→Bool)(listed:Array Bool)(i:Nat):Bool:=
 (List.range listed.size).all fun j=> !late j || listed.getD j true || iO md ops ops.size j i
def OA:Op→Bool
 | .move _=>true
 | _=>false
theorem WW {C:World→Prop}{o:Oper}{a:Act}{v:Value}(h:OA o.op=true){w₀:World}(h₀:C w₀)(hy:YieldsIn P ops C o v a):YieldsIn P ops (fun _=>True) o v a:=by
 rcases hy with⟨hw,hv⟩ | h'
 ·refine .inl ⟨hw,fun w _=> ?_⟩;have h1:=hv w₀ h₀;unfold OA at h;split at h
  ·rename_i x heq;unfold Oper.quietAt at *;have e:∀w,(execOp a.eval o).run P w= .ok (.value (a.eval x)) w:=fun w=>by unfold execOp;simp only [heq];rfl
   rw [e]at h1 ⊢;exact⟨rfl,h1.2⟩
  cases h
 exact .inr h'
def takeB (md:Region.Mode)(ops:Array Oper)(late:Nat→Bool)(bare:Bool):List Nat→Array Bool→Bool
 | [],_=>true
 | i::is,listed=>(Region.ready md ops listed).contains i&&Region.free md ops listed i&&((ops[i]?).map (looks ·.op)).getD false&&(if bare then late i else(late i&&((ops[i]?).map (OA ·.op)).getD false) || (!late i&&mO md ops late listed i))&&
   takeB md ops late bare is (listed.setIfInBounds i true)
def aZ (listed:Array Bool):List Nat→Array Bool
 | []=>listed
 | i::is=>aZ (listed.setIfInBounds i true) is
def aJ (ops:Array Oper):List Nat→List Oper
 | []=> []
 | i::is=>match ops[i]? with
  | some o=>o::aJ ops is
  | none=>aJ ops is
def FW (md:Region.Mode)(ops:Array Oper)(late:Nat→Bool)(fin:List Nat):Bool→List (List Nat × Nat)→Array Bool→Bool
 | bare,[],listed=>takeB md ops late bare fin listed&&(Region.ready md ops (aZ listed fin)).isEmpty
 | bare,(qs,e)::rest,listed=>takeB md ops late bare qs listed&&(Region.ready md ops (aZ listed qs)== [e])&&(!bare || late e)&&
   FW md ops late fin (late e) rest ((aZ listed qs).setIfInBounds e true)
def iU (fin:List Nat):List (List Nat × Nat)→Nat
 | []=>fin.length
 | (qs,_)::rest=>(iU fin rest+1)+qs.length
def aX (C:World→Prop)(bare:Bool):World→Prop:=if bare then fun _=>True else C
def aW (P:Program)(ops:Array Oper)(Q:Exit→Act→World→Prop)(C:World→Prop)(late:Nat→Bool)(fin:List Nat):Bool→List (List Nat × Nat)→Act→World→Prop
 | bare,[],a,w=>wpQuiet P ops (aX C bare) (fun a'=>Q .normal a' w) (aJ ops fin) a
 | bare,(qs,e)::rest,a,w=>wpQuiet P ops (aX C bare) (fun a'=>wpOp P ops Q e (fun a'' w''=>(late e=false→C w'')∧aW P ops Q C late fin (late e) rest a'' w'') a' w) (aJ ops qs) a
theorem fD (hs:Region.noSelect ops=true)(hQ:∀c (a:Act) w,¬Q (.panic c) a w){w:World}{R:Act→Prop}(bare:Bool)(fuel:Nat):∀(qs:List Nat) (listed:Array Bool) (a:Act),DC md ops listed→
  takeB md ops late bare qs listed=true→(bare=false→C w)→(DC md ops (aZ listed qs)→∀a',R a'→wpAnyL P md ops Q C late fuel (aZ listed qs) a' w)→wpQuiet P ops (aX C bare) R (aJ ops qs) a→wpAnyL P md ops Q C late (fuel+qs.length) listed a w
 | [],_,_,hd,_,_,hR,h=>hR hd _ h
 | i::is,listed,a,hd,hB,hC,hR,h=>by
  simp only [takeB,Bool.and_eq_true]at hB;obtain⟨⟨⟨⟨hr,hf⟩,hl⟩,hn⟩,hrest⟩:=hB;rcases hi:ops[i]? with _ | oi
  ·rw [hi]at hl;simp at hl
  rw [hi]at hl;simp only [aJ,hi]at h;have hst:qOp P ops (aX C bare) i (wpQuiet P ops (aX C bare) R (aJ ops is)) a:=by unfold qOp;simp only [hi];exact h
  obtain⟨v,hy,hK⟩:=yieldsIn_of_qOp hi hst;have next:=fD hs hQ bare fuel is _ _ (hd.set (by simpa using hr)) hrest hC hR hK
  cases bare with
  | true=>
   exact wpAnyL_first (D:=aX C true) hi (by simpa using hl) (Region.noSelect_spec hs) hQ (fun _ _=>trivial) (fuel+is.length) listed a w hd
    (fun j oj hoj hji hun hno=>Region.free_spec hi hf j oj hoj hji hun hno) (.inl ⟨by simpa using hn,fun _=>trivial⟩) (fun h=>by simp [h]at hn) (by simpa using hr) hy trivial next
  | false=>
   simp only [Bool.false_eq_true,if_false,Bool.or_eq_true,Bool.and_eq_true]at hn;rcases hn with⟨hn,hmv⟩ | hn
   ·rw [hi]at hmv;exact wpAnyL_first (D:=fun _=>True) hi (by simpa using hl) (Region.noSelect_spec hs) hQ (fun _ _=>trivial) (fuel+is.length) listed a w hd
     (fun j oj hoj hji hun hno=>Region.free_spec hi hf j oj hoj hji hun hno) (.inl ⟨hn,fun _=>trivial⟩) (fun h=>by simp [h]at hn) (by simpa using hr) (WW (by simpa using hmv) (hC rfl) hy) trivial next
   refine wpAnyL_first (D:=aX C false) hi (by simpa using hl) (Region.noSelect_spec hs) hQ (fun _ h=>h) (fuel+is.length) listed a w hd
    (fun j oj hoj hji hun hno=>Region.free_spec hi hf j oj hoj hji hun hno) (.inr fun j hlj=> ?_) (fun _=>hC rfl) (by simpa using hr) hy (hC rfl) next
   have hw:=hn.2;unfold mO at hw;rcases Nat.lt_or_ge j listed.size with hj | hj
   ·have:=List.all_eq_true.1 hw j (List.mem_range.2 hj);simp only [hlj,Bool.not_true,Bool.false_or,Bool.or_eq_true]at this;exact this.imp id fun h=>⟨_,h⟩
   exact .inl (by simp [Array.getD,Nat.not_lt.2 hj])
theorem AQ (hs:Region.noSelect ops=true)(hQ:∀c (a:Act) w,¬Q (.panic c) a w)(fin:List Nat):∀(plan:List (List Nat × Nat)) (bare:Bool) (listed:Array Bool) (a:Act) (w:World),DC md ops listed→
  FW md ops late fin bare plan listed=true→(bare=false→C w)→aW P ops Q C late fin bare plan a w→wpAnyL P md ops Q C late (iU fin plan) listed a w
 | [],bare,listed,a,w,hd,hB,hC,h=>by
  simp only [FW,Bool.and_eq_true]at hB;have:=fD (md:=md) (late:=late) (C:=C) hs hQ (w:=w) (R:=fun a'=>Q .normal a' w) bare 0 fin listed a hd hB.1 hC (fun _ a' ha=>⟨by simpa using hB.2,ha⟩) h;simpa [iU]using this
 | (qs,e)::rest,bare,listed,a,w,hd,hB,hC,h=>by
  simp only [FW,Bool.and_eq_true]at hB;obtain⟨⟨⟨h1,h2⟩,h3⟩,h4⟩:=hB;refine fD hs hQ bare (iU fin rest+1) qs listed a hd h1 hC (fun hd' a' ha=> ?_) h;have hre:Region.ready md ops (aZ listed qs)= [e]:=by simpa using h2
  refine⟨fun h0=>(by rw [hre]at h0;cases h0),fun j hj=> ?_⟩;rw [hre]at hj;obtain rfl:j=e:=by simpa using hj
  exact wpOp_mono (fun a'' w'' ⟨g1,g2⟩=>⟨g1,AQ hs hQ fin rest _ _ a'' w'' (hd'.set (by rw [hre];exact List.mem_singleton.2 rfl)) h4 g1 g2⟩) ha
theorem Dy {id:Nat}{l:List Oper}{a:Act}{w:World}{Q:Exit→Act→World→Prop}(C:World→Prop)(jP:List Nat)(plan:List (List Nat × Nat))(fin:List Nat)(hm:P.follows .mixedOrders=true)
  (hB:(Region.noSelect l.toArray&&FW .any l.toArray (fun i=>jP.contains i) fin false plan (Array.replicate l.toArray.size false)&&(iU fin plan==l.toArray.size))=true) (hC:C w.drew)
  (h:aW P l.toArray (NoPanic Q) C (fun i=>jP.contains i) fin false plan a w.drew):(Code.region id l.toArray true).wp P Q a w:=by
 simp only [Bool.and_eq_true]at hB;refine wp_region_noPanic (wp_region_any hm (jr _ _ _ _ (C:=C) (late:=fun i=>jP.contains i) ?_));have:=AQ hB.1.1 (fun _ _ _ h=>h) fin plan false _ a w.drew (fun k ok e _ hl=>by simp [Array.getD]at hl) hB.1.2 (fun _=>hC) h;rw [show iU fin plan=l.toArray.size from by simpa using hB.2]at this;exact this
theorem aD {id:Nat}{l:List Oper}{a:Act}{w:World}{Q:Exit→Act→World→Prop}(F:World→Prop)(jP:List Nat)(plan:List (List Nat × Nat))(fin:List Nat)(hm:P.follows .mixedOrders=true)
  (hB:(Region.noSelect l.toArray&&FW .any l.toArray (fun i=>jP.contains i) fin false plan (Array.replicate l.toArray.size false)&&(iU fin plan==l.toArray.size))=true) (hF:F w.drew)
  (h:∀(X:Type) (W:X→World),Nonempty X→(∀x,F (W x))→(∀w',F w'→∃x,w'=W x)→aW P l.toArray (NoPanic Q) (fun w'=>∃x,w'=W x) (fun i=>jP.contains i) fin false plan a w.drew):(Code.region id l.toArray true).wp P Q a w:=
 Dy (fun w'=>∃x: {w':World // F w'},w'=x.1) jP plan fin hm hB ⟨⟨_,hF⟩,rfl⟩ (h _ _ ⟨⟨_,hF⟩⟩ (fun x=>x.2) fun w' hw=>⟨⟨w',hw⟩,rfl⟩)
theorem zae {e:Nat}{o:Oper}{K₀:Act→World→Prop}{a:Act}{w:World}(ho:ops[e]? =some o)(hg:o.guard=none)(h:∀K:Act→World→Prop,(∀a w,K₀ a w→K a w)→o.wp P a w K Q):wpOp P ops Q e K₀ a w:=by
 unfold wpOp;simp only [ho,Region.wanted,hg,if_true];exact .inl (h _ fun _ _ h=>h)
theorem ay {l:List Oper}{e:Nat}{o:Oper}{K₀:Act→World→Prop}{a:Act}{w:World}(ho:l[e]? =some o)(hg:o.guard=none)(h:∀K:Act→World→Prop,(∀a w,K₀ a w→K a w)→o.wp P a w K Q):wpOp P l.toArray Q e K₀ a w:=zae (by simpa using ho) hg h
end
section
variable {P:Program} {ops:Array Oper} {Q:Exit→Act→World→Prop} {C D₀:World→Prop}
def xK (P:Program)(md:Region.Mode)(ops:Array Oper)(Q:Exit→Act→World→Prop)(C D₀:World→Prop)(late:Nat→Bool):Nat→Array Bool→Act→World→Prop
 | 0,listed,a,w=>Region.ready md ops listed= []∧Q .normal a w
 | fuel+1,listed,a,w=>
  (Region.ready md ops listed= []→Q .normal a w)∧
  ∀i∈Region.ready md ops listed,wpOp P ops Q i (fun a' w'=>((late i=false→C w')∧D₀ w')∧xK P md ops Q C D₀ late fuel (listed.setIfInBounds i true) a' w') a w
variable {md:Region.Mode} {late:Nat→Bool}
theorem Dz:∀(fuel:Nat) (listed:Array Bool) (a:Act) (w:World),xK P md ops Q C D₀ late fuel listed a w→wpAny P md ops Q fuel listed a w
 | 0,_,_,_,h=>h
 | fuel+1,_,_,_,h=>⟨h.1,fun i hi=>wpOp_mono (fun a' w' h'=>Dz fuel _ a' w' h'.2) (h.2 i hi)⟩
theorem yM {D:World→Prop}{i:Nat}{oi:Oper}{v:Value}(hi:ops[i]? =some oi)(hlk:looks oi.op=true)(hsel:∀(j:Nat) (o:Oper) cs b,ops[j]? =some o→o.op≠ .select cs b)
  (hQ:∀c (a:Act) w,¬Q (.panic c) a w) (Uz:∀w,C w→D w):
  ∀(fuel:Nat) (listed:Array Bool) (a:Act) (w:World),DC md ops listed→
   (∀j oj,ops[j]? =some oj→j≠i→listed.getD j true=false→(∀e∈oj.after,Region.binds md e=true→e.on≠i)→oi.apart ops oj=true)→
   ((late i=true∧∀w,D₀ w→D w)∨∀j,late j=true→listed.getD j true=true∨∃n,iO md ops n j i=true)→
   (late i=false→C w)→D₀ w→i∈Region.ready md ops listed→YieldsIn P ops D oi v a→D w→
   xK P md ops Q C D₀ late fuel (listed.setIfInBounds i true) (a.put oi.dst v) w→xK P md ops Q C D₀ late (fuel+1) listed a w:=by
 intro fuel
 induction fuel with
 | zero=>
  intro listed a w _ _ _ KG h0D hr hy hC H;refine⟨fun h=>(by rw [h]at hr;cases hr),fun j hj=> ?_⟩;by_cases hji:j=i
  ·subst hji;exact lD hi hlk hy hC ⟨⟨KG,h0D⟩,H⟩
  have:=ready_mono hj hji;rw [H.1]at this;cases this
 | succ fuel ih=>
  intro listed a w hdc hfree KH KG h0D hr hy hC H;refine⟨fun h=>(by rw [h]at hr;cases hr),fun j hj=> ?_⟩;by_cases hji:j=i
  ·subst hji;exact lD hi hlk hy hC ⟨⟨KG,h0D⟩,H⟩
  have h1:=H.2 j (ready_mono hj hji);obtain⟨hjun,oj,hoj,hall⟩:=mem_ready.1 hj;have hun:listed.getD i false=false:=by
   have h0:=(mem_ready.1 hr).1;rcases Nat.lt_or_ge i listed.size with h' | h'
   ·simpa [Array.getD,h']using h0
   simp [Array.getD,Nat.not_lt.2 h']
  have hnot:∀e∈oj.after,Region.binds md e=true→e.on≠i:=fun e he hb heq=>by
   have h2:=hall e he hb;rw [heq,hun]at h2;cases h2
  have hap:=hfree j oj hoj hji hjun hnot;have hlj:late j=false∨(late i=true∧∀w,D₀ w→D w):=by
   rcases KH with h | h
   ·exact .inr h
   rcases hl:late j with _ | _
   ·exact .inl rfl
   rcases h j hl with h | ⟨n,h⟩
   ·rw [hjun]at h;cases h
   exact absurd hj (tJ hdc hun h)
  have Oz:(late i=true∧∀w,D₀ w→D w)∨∀k,late k=true→(listed.setIfInBounds j true).getD k true=true∨∃n,iO md ops n k i=true:=by
   refine KH.imp id fun h k hk=>(h k hk).imp (fun h'=> ?_) id;by_cases hjk:j=k
   ·subst hjk;rw [hjun]at h';cases h'
   rw [getD_set_ne true hjk];exact h'
  have hap3:=(Oper.apart_spec hap).2.2;have h2:=Dx (I:=YieldsIn P ops D oi v) hoj hap (fun cs b=>hsel j oj cs b hoj) hQ
   (fun a u h=>h.of_same (execOp_put oi (fun cs b=>hsel i oi cs b hi) a oj.dst u hap3) (wanted_put oi a oj.dst u hap3)) (fun a d h=>h.of_same rfl rfl) hy h1
  refine wpOp_mono (fun a' w' h3=>⟨h3.2.1,ih (listed.setIfInBounds j true) a' w' (hdc.set hj) (fun k ok hk hki KO hno=> ?_) Oz (fun hl=> ?_) h3.2.1.2 (ready_mono hr (Ne.symm hji)) h3.1 ?_ ?_⟩) h2
  ·refine hfree k ok hk hki ?_ hno;by_cases hjk:j=k
   ·subst hjk;exact hjun
   rw [getD_set_ne true hjk]at KO;exact KO
  ·rcases hlj with h | ⟨h,_⟩
   ·exact h3.2.1.1 h
   rw [hl]at h;cases h
  ·rcases hlj with h | ⟨_,h⟩
   ·exact Uz _ (h3.2.1.1 h)
   exact h _ h3.2.1.2
  rw [Array.setIfInBounds_comm _ _ hji];exact h3.2.2
def takeD (md:Region.Mode)(ops:Array Oper)(late:Nat→Bool)(d:Bool):List Nat→Array Bool→Bool
 | [],_=>true
 | i::is,listed=>(Region.ready md ops listed).contains i&&Region.free md ops listed i&&((ops[i]?).map (looks ·.op)).getD false&&(if d then late i else(!late i&&mO md ops late listed i))&&
   takeD md ops late d is (listed.setIfInBounds i true)
def KP (md:Region.Mode)(ops:Array Oper)(late:Nat→Bool)(fin:List Nat × List Nat):Bool→List (List Nat × List Nat × Nat)→Array Bool→Bool
 | bare,[],listed=>takeD md ops late true fin.1 listed&&takeD md ops late false fin.2 (aZ listed fin.1)&&(!bare || fin.2.isEmpty)&&(Region.ready md ops (aZ (aZ listed fin.1) fin.2)).isEmpty
 | bare,(ds,qs,e)::rest,listed=>takeD md ops late true ds listed&&takeD md ops late false qs (aZ listed ds)&&(!bare || qs.isEmpty)&&(Region.ready md ops (aZ (aZ listed ds) qs)== [e])&&(!bare || late e)&&
   KP md ops late fin (late e) rest ((aZ (aZ listed ds) qs).setIfInBounds e true)
def qQ (fin:List Nat × List Nat):List (List Nat × List Nat × Nat)→Nat
 | []=>0+fin.2.length+fin.1.length
 | (ds,qs,_)::rest=>qQ fin rest+1+qs.length+ds.length
def yO (P:Program)(ops:Array Oper)(Q:Exit→Act→World→Prop)(C D₀:World→Prop)(late:Nat→Bool)(fin:List Nat × List Nat):List (List Nat × List Nat × Nat)→Act→World→Prop
 | [],a,w=>wpQuiet P ops D₀ (fun a1=>wpQuiet P ops C (fun a'=>Q .normal a' w) (aJ ops fin.2) a1) (aJ ops fin.1) a
 | (ds,qs,e)::rest,a,w=>wpQuiet P ops D₀ (fun a1=>wpQuiet P ops C (fun a'=>wpOp P ops Q e (fun a'' w''=>((late e=false→C w'')∧D₀ w'')∧yO P ops Q C D₀ late fin rest a'' w'') a' w) (aJ ops qs) a1) (aJ ops ds) a
theorem lU (hs:Region.noSelect ops=true)(hQ:∀c (a:Act) w,¬Q (.panic c) a w)(Uz:∀w,C w→D₀ w){w:World}{R:Act→Prop}(d:Bool)(fuel:Nat):∀(qs:List Nat) (listed:Array Bool) (a:Act),DC md ops listed→
  takeD md ops late d qs listed=true→(d=false→qs≠ []→C w)→D₀ w→(DC md ops (aZ listed qs)→∀a',R a'→xK P md ops Q C D₀ late fuel (aZ listed qs) a' w)→wpQuiet P ops (if d then D₀ else C) R (aJ ops qs) a→xK P md ops Q C D₀ late (fuel+qs.length) listed a w
 | [],_,_,hd,_,_,_,hR,h=>hR hd _ h
 | i::is,listed,a,hd,hB,hC,h0,hR,h=>by
  simp only [takeD,Bool.and_eq_true]at hB;obtain⟨⟨⟨⟨hr,hf⟩,hl⟩,hn⟩,hrest⟩:=hB;rcases hi:ops[i]? with _ | oi
  ·rw [hi]at hl;simp at hl
  rw [hi]at hl;simp only [aJ,hi]at h;have hst:qOp P ops (if d then D₀ else C) i (wpQuiet P ops (if d then D₀ else C) R (aJ ops is)) a:=by unfold qOp;simp only [hi];exact h
  obtain⟨v,hy,hK⟩:=yieldsIn_of_qOp hi hst;have next:=lU hs hQ Uz d fuel is _ _ (hd.set (by simpa using hr)) hrest (fun h1 _=>hC h1 sm) h0 hR hK
  cases d with
  | true=>
   exact yM (D:=D₀) hi (by simpa using hl) (Region.noSelect_spec hs) hQ Uz (fuel+is.length) listed a w hd
    (fun j oj hoj hji hun hno=>Region.free_spec hi hf j oj hoj hji hun hno) (.inl ⟨by simpa using hn,fun _ h=>h⟩) (fun h=>by simp [h]at hn) h0 (by simpa using hr) (by simpa using hy) h0 next
  | false=>
   simp only [Bool.false_eq_true,if_false,Bool.and_eq_true]at hn;refine yM (D:=C) hi (by simpa using hl) (Region.noSelect_spec hs) hQ (fun _ h=>h) (fuel+is.length) listed a w hd
    (fun j oj hoj hji hun hno=>Region.free_spec hi hf j oj hoj hji hun hno) (.inr fun j hlj=> ?_) (fun _=>hC rfl sm) h0 (by simpa using hr) (by simpa using hy) (hC rfl sm) next
   have hw:=hn.2;unfold mO at hw;rcases Nat.lt_or_ge j listed.size with hj | hj
   ·have:=List.all_eq_true.1 hw j (List.mem_range.2 hj);simp only [hlj,Bool.not_true,Bool.false_or,Bool.or_eq_true]at this;exact this.imp id fun h=>⟨_,h⟩
   exact .inl (by simp [Array.getD,Nat.not_lt.2 hj])
theorem AR (hs:Region.noSelect ops=true)(hQ:∀c (a:Act) w,¬Q (.panic c) a w)(Uz:∀w,C w→D₀ w)(fin:List Nat × List Nat):∀(plan:List (List Nat × List Nat × Nat)) (bare:Bool) (listed:Array Bool) (a:Act) (w:World),DC md ops listed→
  KP md ops late fin bare plan listed=true→(bare=false→C w)→D₀ w→yO P ops Q C D₀ late fin plan a w→xK P md ops Q C D₀ late (qQ fin plan) listed a w
 | [],bare,listed,a,w,hd,hB,hC,h0,h=>by
  simp only [KP,Bool.and_eq_true]at hB;obtain⟨⟨⟨h1,h2⟩,h3⟩,h4⟩:=hB;refine lU hs hQ Uz true (0+fin.2.length) fin.1 listed a hd h1 (fun h=>by cases h) h0 (fun hd' a1 ha1=> ?_) h;refine lU hs hQ Uz false 0 fin.2 _ a1 hd' h2 (fun _ hne=> ?_) h0 (fun _ a' ha=>⟨by simpa using h4,ha⟩) ha1;cases bare with
  | true=>simp at h3;exact absurd h3 hne
  | false=>exact hC rfl
 | (ds,qs,e)::rest,bare,listed,a,w,hd,hB,hC,h0,h=>by
  simp only [KP,Bool.and_eq_true]at hB;obtain⟨⟨⟨⟨⟨h1,h2⟩,h3⟩,h4⟩,h5⟩,h6⟩:=hB;refine lU hs hQ Uz true (qQ fin rest+1+qs.length) ds listed a hd h1 (fun h=>by cases h) h0 (fun hd' a1 ha1=> ?_) h;refine lU hs hQ Uz false (qQ fin rest+1) qs _ a1 hd' h2 (fun _ hne=> ?_) h0 (fun hd'' a' ha=> ?_) ha1
  ·cases bare with
   | true=>simp at h3;exact absurd h3 hne
   | false=>exact hC rfl
  have hre:Region.ready md ops (aZ (aZ listed ds) qs)= [e]:=by simpa using h4
  refine⟨fun h0=>(by rw [hre]at h0;cases h0),fun j hj=> ?_⟩;rw [hre]at hj;obtain rfl:j=e:=by simpa using hj
  exact wpOp_mono (fun a'' w'' ⟨g1,g2⟩=>⟨g1,AR hs hQ Uz fin rest _ _ a'' w'' (hd''.set (by rw [hre];exact List.mem_singleton.2 rfl)) h6 g1.1 g1.2 g2⟩) ha
theorem wQ {id:Nat}{l:List Oper}{a:Act}{w:World}{Q:Exit→Act→World→Prop}(F G:World→Prop)(jP:List Nat)(plan:List (List Nat × List Nat × Nat))(fin:List Nat × List Nat)(hm:P.follows .mixedOrders=true)
  (hB:(Region.noSelect l.toArray&&KP .any l.toArray (fun i=>jP.contains i) fin false plan (Array.replicate l.toArray.size false)&&(qQ fin plan==l.toArray.size))=true) (hFG:∀w,F w→G w) (hF:F w.drew)
  (h:∀(X Y:Type) (W:X→World) (V:Y→World),Nonempty X→Nonempty Y→(∀x,F (W x))→(∀w',F w'→∃x,w'=W x)→(∀x,G (V x))→(∀w',G w'→∃x,w'=V x)→
   yO P l.toArray (NoPanic Q) (fun w'=>∃x,w'=W x) (fun w'=>∃x,w'=V x) (fun i=>jP.contains i) fin plan a w.drew):(Code.region id l.toArray true).wp P Q a w:=by
 have h':=h {w':World // F w'} {w':World // G w'} (·.1) (·.1) ⟨⟨_,hF⟩⟩ ⟨⟨_,hFG _ hF⟩⟩ (fun x=>x.2) (fun w' hw=>⟨⟨w',hw⟩,rfl⟩) (fun x=>x.2) (fun w' hw=>⟨⟨w',hw⟩,rfl⟩);simp only [Bool.and_eq_true]at hB;refine wp_region_noPanic (wp_region_any hm (Dz _ _ _ _ (C:=fun w'=>∃x: {w':World // F w'},w'=x.1) (D₀:=fun w'=>∃x: {w':World // G w'},w'=x.1) (late:=fun i=>jP.contains i) ?_));have:=AR hB.1.1 (fun _ _ _ h=>h) (fun w' ⟨x,hx⟩=>⟨⟨x.1,hFG _ x.2⟩,hx⟩) fin plan false _ a w.drew (fun k ok e _ hl=>by simp [Array.getD]at hl) hB.1.2 (fun _=>⟨⟨_,hF⟩,rfl⟩) ⟨⟨_,hFG _ hF⟩,rfl⟩ h';rw [show qQ fin plan=l.toArray.size from by simpa using hB.2]at this;exact this
end
inductive PT where
 | fin (qs:List Nat)
 | one (qs:List Nat) (e:Nat) (p:PT)
 | two (qs:List Nat) (e1:Nat) (p1:PT) (e2:Nat) (p2:PT)
section
variable {P:Program} {ops:Array Oper} {Q:Exit→Act→World→Prop} {C:World→Prop} {md:Region.Mode}
def AU (md:Region.Mode)(ops:Array Oper):PT→Array Bool→Bool
 | .fin qs,listed=>takeB md ops (fun _=>false) false qs listed&&(Region.ready md ops (aZ listed qs)).isEmpty
 | .one qs e p,listed=>takeB md ops (fun _=>false) false qs listed&&(Region.ready md ops (aZ listed qs)== [e])&&AU md ops p ((aZ listed qs).setIfInBounds e true)
 | .two qs e1 p1 e2 p2,listed=>takeB md ops (fun _=>false) false qs listed&&(Region.ready md ops (aZ listed qs)== [e1,e2])&&(AU md ops p1 ((aZ listed qs).setIfInBounds e1 true)&&AU md ops p2 ((aZ listed qs).setIfInBounds e2 true))
def E8:PT→Nat
 | .fin qs=>qs.length
 | .one qs _ p=>E8 p+1+qs.length
 | .two qs _ p1 _ _=>E8 p1+1+qs.length
def FX:PT→Bool
 | .fin _=>true
 | .one _ _ p=>FX p
 | .two _ _ p1 _ p2=>FX p1&&FX p2&&E8 p1==E8 p2
def vM (P:Program)(ops:Array Oper)(Q:Exit→Act→World→Prop)(C:World→Prop):PT→Act→World→Prop
 | .fin qs,a,w=>wpQuiet P ops (aX C false) (fun a'=>Q .normal a' w) (aJ ops qs) a
 | .one qs e p,a,w=>wpQuiet P ops (aX C false) (fun a'=>wpOp P ops Q e (fun a'' w''=>C w''∧vM P ops Q C p a'' w'') a' w) (aJ ops qs) a
 | .two qs e1 p1 e2 p2,a,w=>wpQuiet P ops (aX C false) (fun a'=>wpOp P ops Q e1 (fun a'' w''=>C w''∧vM P ops Q C p1 a'' w'') a' w∧wpOp P ops Q e2 (fun a'' w''=>C w''∧vM P ops Q C p2 a'' w'') a' w) (aJ ops qs) a
theorem mH (hs:Region.noSelect ops=true)(hQ:∀c (a:Act) w,¬Q (.panic c) a w):∀(p:PT) (listed:Array Bool) (a:Act) (w:World),DC md ops listed→
  AU md ops p listed=true→FX p=true→C w→vM P ops Q C p a w→wpAnyL P md ops Q C (fun _=>false) (E8 p) listed a w
 | .fin qs,listed,a,w,hd,hB,_,hC,h=>by
  simp only [AU,Bool.and_eq_true]at hB;have:=fD (md:=md) (late:=fun _=>false) (C:=C) hs hQ (w:=w) (R:=fun a'=>Q .normal a' w) false 0 qs listed a hd hB.1 (fun _=>hC) (fun _ a' ha=>⟨by simpa using hB.2,ha⟩) h;simpa [E8]using this
 | .one qs e p,listed,a,w,hd,hB,hE,hC,h=>by
  simp only [AU,Bool.and_eq_true]at hB;obtain⟨⟨h1,h2⟩,h4⟩:=hB;refine fD hs hQ false (E8 p+1) qs listed a hd h1 (fun _=>hC) (fun hd' a' ha=> ?_) h;have hre:Region.ready md ops (aZ listed qs)= [e]:=by simpa using h2
  refine⟨fun h0=>(by rw [hre]at h0;cases h0),fun j hj=> ?_⟩;rw [hre]at hj;obtain rfl:j=e:=by simpa using hj
  exact wpOp_mono (fun a'' w'' ⟨g1,g2⟩=>⟨fun _=>g1,mH hs hQ p _ a'' w'' (hd'.set (by rw [hre];exact List.mem_singleton.2 rfl)) h4 hE g1 g2⟩) ha
 | .two qs e1 p1 e2 p2,listed,a,w,hd,hB,hE,hC,h=>by
  simp only [AU,Bool.and_eq_true]at hB;simp only [FX,Bool.and_eq_true,beq_iff_eq]at hE;obtain⟨⟨h1,h2⟩,h4,h5⟩:=hB;obtain⟨⟨he1,he2⟩,hl⟩:=hE;refine fD hs hQ false (E8 p1+1) qs listed a hd h1 (fun _=>hC) (fun hd' a' ha=> ?_) h;have hre:Region.ready md ops (aZ listed qs)= [e1,e2]:=by simpa using h2
  refine⟨fun h0=>(by rw [hre]at h0;cases h0),fun j hj=> ?_⟩;have hj':=hj;rw [hre]at hj;have hj2:j=e1∨j=e2:=by simpa using hj
  rcases hj2 with e | e
  ·rw [e]at hj' ⊢;exact wpOp_mono (fun a'' w'' ⟨g1,g2⟩=>⟨fun _=>g1,mH hs hQ p1 _ a'' w'' (hd'.set hj') h4 he1 g1 g2⟩) ha.1
  rw [e]at hj' ⊢;exact wpOp_mono (fun a'' w'' ⟨g1,g2⟩=>⟨fun _=>g1,by rw [hl];exact mH hs hQ p2 _ a'' w'' (hd'.set hj') h5 he2 g1 g2⟩) ha.2
theorem DJ {id:Nat}{l:List Oper}{a:Act}{w:World}{Q:Exit→Act→World→Prop}(F:World→Prop)(p:PT)(hm:P.follows .mixedOrders=true)
  (hB:(Region.noSelect l.toArray&&AU .any l.toArray p (Array.replicate l.toArray.size false)&&FX p&&(E8 p==l.toArray.size))=true) (hF:F w.drew)
  (h:∀(X:Type) (W:X→World),Nonempty X→(∀x,F (W x))→(∀w',F w'→∃x,w'=W x)→vM P l.toArray (NoPanic Q) (fun w'=>∃x,w'=W x) p a w.drew):(Code.region id l.toArray true).wp P Q a w:=by
 have h':=h {w':World // F w'} (fun x=>x.1) ⟨⟨_,hF⟩⟩ (fun x=>x.2) fun w' hw=>⟨⟨w',hw⟩,rfl⟩;simp only [Bool.and_eq_true]at hB;refine wp_region_noPanic (wp_region_any hm (jr _ _ _ _ (C:=fun w'=>∃x: {w':World // F w'},w'=x.1) (late:=fun _=>false) ?_));have:=mH hB.1.1.1 (fun _ _ _ h=>h) p _ a w.drew (fun k ok e _ hl=>by simp [Array.getD]at hl) hB.1.1.2 hB.1.2 ⟨⟨_,hF⟩,rfl⟩ h';rw [show E8 p=l.toArray.size from by simpa using hB.2]at this;exact this
end
section
variable {P:Program} {ops:Array Oper} {Q:Exit→Act→World→Prop}
theorem KS {e:Nat}{o:Oper}{K₀:Act→World→Prop}{a:Act}{w:World}(ho:ops[e]? =some o)(hw:Region.wanted o (yielded ops a.tmps)=true)(h:∀K:Act→World→Prop,(∀a w,K₀ a w→K a w)→o.wp P a w K Q):wpOp P ops Q e K₀ a w:=by
 unfold wpOp;simp only [ho,hw,if_true];exact .inl (h _ fun _ _ h=>h)
theorem E9 {l:List Oper}{e:Nat}{o:Oper}{K₀:Act→World→Prop}{a:Act}{w:World}(ho:l[e]? =some o)(hw:Region.wanted o (yielded l.toArray a.tmps)=true)(h:∀K:Act→World→Prop,(∀a w,K₀ a w→K a w)→o.wp P a w K Q):wpOp P l.toArray Q e K₀ a w:=KS (by simpa using ho) hw h
theorem fE {e:Nat}{o:Oper}{K₀:Act→World→Prop}{a:Act}{w:World}(ho:ops[e]? =some o)(hw:Region.wanted o (yielded ops a.tmps)=false)(h:K₀ (a.put o.dst undef) w):wpOp P ops Q e K₀ a w:=by
 unfold wpOp;simp only [ho,hw,Bool.false_eq_true,if_false];exact h
end
open Go.ChangeShapes Go.WideShapes Go.RowKit
theorem zh {p:Prop}(h:p):Hid p:=Lib.hid h
theorem kp {p:Prop}(h:p:=by (repeat' (with_reducible first | assumption | exact HK.out | exact keR | refine keA ?_ | refine keS ?_ fun h=>absurd h om | refine keN ?_ | refine keD ?_))):p:=h
theorem kb {p:Prop}(h:p:=by (repeat(first | (with_reducible assumption) | (refine aN _ _ ?_;simp;done) | (refine aL.old ?_ _)))):p:=h
theorem kc {p:Prop}(h:p:=by (repeat(first | (refine aN _ _ ?_;simp;done) | (refine aL.old ?_ _)))):p:=h
theorem zl0 {α:Type _}{l:List α}{i:Nat}:l.toArray[i]? =l[i]?:=List.getElem?_toArray
theorem zl1 {α:Type _}{a:α}{l:List α}:(a::l)[0]? =some a:=List.getElem?_cons_zero
theorem zl2 {α:Type _}{a:α}{l:List α}{i:Nat}:(a::l)[i+1]? =l[i]?:=List.getElem?_cons_succ
theorem dV {α:Type _}{l:List α}{i:Nat}{a:α}:l.getD i a=l[i]?.getD a:=List.getD_eq_getElem?_getD
theorem eD {α:Type _}{l:List α}{i:Nat}(h:i<l.length):l[i]? =some l[i]:=List.getElem?_eq_getElem h
theorem bJ {a b c:Nat}(h:a<b)(k:b≤c):a<c:=Nat.lt_of_lt_of_le h k
theorem jB {k:IntKind}{a b:Int}(h:a=b):Ending.returned (.int k a)= .returned (.int k b):=by rw [h]
theorem AB (x:Int)(h1:x<0)(h2: -9223372036854775808≤x):IntKind.u64.wrap (-IntKind.u64.wrap x)=(x.natAbs:Nat):=by
 simp only [IntKind.wrap,IntKind.bits,IntKind.signed];simp;omega
theorem Cy (x:Int)(w:World)(h2: -9223372036854775808≤x)(h3:x≤9223372036854775807):
  Calls Tryz.prog 151 #[.int .i64 x] w fun e w'=>e= .returned (.int .u64 (x.natAbs:Nat))∧w=w':=by
 by_cases h1:x<0
 ·go_enter Tryz.func151,Tryz.ntmps151;go_wp2;go_ret;exact⟨jB (AB x h1 h2),rfl⟩
 go_enter Tryz.func151,Tryz.ntmps151;go_wp2;go_ret;exact⟨jB om,rfl⟩
theorem Ih (a b:Nat)(w:World)(ha:a<18446744073709551616)(hb:b<18446744073709551616):
  Calls Tryz.prog 150 #[.int .u64 a,.int .u64 b] w fun e w'=>e= .returned (.int .u64 (Nat.gcd a b:Nat))∧∃n,w'=w.drewN n:=by
 go_enter Tryz.func150,Tryz.ntmps150;go_wp2;go_loopw [0,1] (fun x y wr=>∃p q:Nat,x= .int .u64 p∧y= .int .u64 q∧p<18446744073709551616∧q<18446744073709551616∧Nat.gcd p q=Nat.gcd a b∧∃n,wr=w.drewN n) (fun _ y _=>(intOf y).toNat)
 case atStart=>exact⟨a,b,rfl,rfl,ha,hb,rfl,0,rfl⟩
 obtain⟨p,q,rfl,rfl,hp,hq,hg,n,rfl⟩:=hrel;have Hg:=zh hg;clear hg;by_cases h0:q=0
 ·subst h0;go_wp2;go_ret;refine⟨jB ?_,n,rfl⟩;have:=Hg.out;simp at this;rw [this]
 have hq0:((q:Int) != 0)=true:=by simp;omega
 have hm:p%q<q:=Nat.mod_lt _ om;go_wp2;go_quiet (fail);go_wp2;go_roundw
 case rel=>exact⟨q,p%q,rfl,sm,hq,om,by rw [← Hg.out,Nat.gcd_comm p q,Nat.gcd_rec q p,Nat.gcd_comm],n+nq,sm⟩
 simp [intOf];omega
def bF (n d:Int):Prop:=1≤d∧d≤1073741824∧ -1073741824≤n∧n≤1073741824∧Nat.gcd n.natAbs d.natAbs=1
instance (n d:Int):Decidable (bF n d):=by unfold bF;infer_instance
theorem bQ {p:Prop} [Decidable p] (h:¬p):decide p=false:=by simp [h]
theorem cZ {p:Prop} [Decidable p] (h:p):decide p=true:=by simp [h]
theorem mR (n d:Int)(w:World)(h:bF n d):
  Calls Tryz.prog 85 #[.agg #[.int .i64 n,.int .i64 d]] w fun e w'=>e= .returned (.agg #[.int .i64 0,.int .i64 0])∧Below w.heap.size w w':=by
 obtain⟨h1,h2,h3,h4,h5⟩:=h;have H5:=zh h5;clear h5;have e1:decide (d<1)=false:=bQ om;have e2:decide (1073741824<d)=false:=bQ om;have e3:decide (n< -1073741824)=false:=bQ om;have e4:decide (1073741824<n)=false:=bQ om;go_enter Tryz.func85,Tryz.ntmps85;go_wp2;go_quiet (first | (go_at_call 151;exact Calls.quiet_of_same ((Cy _ _ om om).mono fun _ _ ⟨he,hw⟩=>⟨he,hw.symm⟩)) | (go_at_call 150;exact Calls.quiet_of (Ih _ _ _ om om)));rw [H5.out];go_wp2;go_returns;exact⟨rfl,by(repeat' (first | (with_reducible exact Below.refl _ _) | (with_reducible assumption) | (with_reducible refine Below.alloc ?_ ?_ _) | (with_reducible refine Below.setCell ?_ ?_ _) | (with_reducible refine below_drewN ?_ _) | (with_reducible refine Below.drew ?_) | go_size))⟩
theorem xZ (n d:Int)(w:World)(h:¬bF n d):
  Calls Tryz.prog 85 #[.agg #[.int .i64 n,.int .i64 d]] w fun e w'=>e= .returned (.agg #[.int .i64 3,.int .i64 0])∧Below w.heap.size w w':=by
 by_cases h1:d<1
 ·have e1:decide (d<1)=true:=cZ h1;clear h;go_enter Tryz.func85,Tryz.ntmps85;go_wp2;go_quiet (fail);go_wp2;go_returns;exact⟨rfl,by(repeat' (first | (with_reducible exact Below.refl _ _) | (with_reducible assumption) | (with_reducible refine Below.alloc ?_ ?_ _) | (with_reducible refine Below.setCell ?_ ?_ _) | (with_reducible refine below_drewN ?_ _) | (with_reducible refine Below.drew ?_) | go_size))⟩
 have e1:decide (d<1)=false:=bQ h1;by_cases h2:1073741824<d
 ·have e2:decide (1073741824<d)=true:=cZ h2;clear h;go_enter Tryz.func85,Tryz.ntmps85;go_wp2;go_quiet (fail);go_wp2;go_returns;exact⟨rfl,by(repeat' (first | (with_reducible exact Below.refl _ _) | (with_reducible assumption) | (with_reducible refine Below.alloc ?_ ?_ _) | (with_reducible refine Below.setCell ?_ ?_ _) | (with_reducible refine below_drewN ?_ _) | (with_reducible refine Below.drew ?_) | go_size))⟩
 have e2:decide (1073741824<d)=false:=bQ h2;by_cases h3:n< -1073741824
 ·have e3:decide (n< -1073741824)=true:=cZ h3;clear h;go_enter Tryz.func85,Tryz.ntmps85;go_wp2;go_quiet (fail);go_wp2;go_returns;exact⟨rfl,by(repeat' (first | (with_reducible exact Below.refl _ _) | (with_reducible assumption) | (with_reducible refine Below.alloc ?_ ?_ _) | (with_reducible refine Below.setCell ?_ ?_ _) | (with_reducible refine below_drewN ?_ _) | (with_reducible refine Below.drew ?_) | go_size))⟩
 have e3:decide (n< -1073741824)=false:=bQ h3;by_cases h4:1073741824<n
 ·have e4:decide (1073741824<n)=true:=cZ h4;clear h;go_enter Tryz.func85,Tryz.ntmps85;go_wp2;go_quiet (fail);go_wp2;go_returns;exact⟨rfl,by(repeat' (first | (with_reducible exact Below.refl _ _) | (with_reducible assumption) | (with_reducible refine Below.alloc ?_ ?_ _) | (with_reducible refine Below.setCell ?_ ?_ _) | (with_reducible refine below_drewN ?_ _) | (with_reducible refine Below.drew ?_) | go_size))⟩
 have e4:decide (1073741824<n)=false:=bQ h4;have h5:((Nat.gcd n.natAbs d.natAbs:Nat):Int)≠1:=fun h5=>h ⟨om,om,om,om,om⟩;clear h;generalize hg:Nat.gcd n.natAbs d.natAbs=g at h5;have e5:((g:Int) != 1)=true:=by simpa using h5
 have Hg:=zh hg;clear hg h5;go_enter Tryz.func85,Tryz.ntmps85;go_wp2;go_quiet (first | (go_at_call 151;exact Calls.quiet_of_same ((Cy _ _ om om).mono fun _ _ ⟨he,hw⟩=>⟨he,hw.symm⟩)) | (go_at_call 150;exact Calls.quiet_of (Ih _ _ _ om om)));rw [Hg.out];go_wp2;go_returns;exact⟨rfl,by(repeat' (first | (with_reducible exact Below.refl _ _) | (with_reducible assumption) | (with_reducible refine Below.alloc ?_ ?_ _) | (with_reducible refine Below.setCell ?_ ?_ _) | (with_reducible refine below_drewN ?_ _) | (with_reducible refine Below.drew ?_) | go_size))⟩
def mA (num den:Int):Nat:=num.natAbs/Nat.gcd num.natAbs den.natAbs
def mB (num den:Int):Nat:=den.natAbs/Nat.gcd num.natAbs den.natAbs
def PY (num den:Int):Prop:=mA num den≤1073741824∧mB num den≤1073741824
instance (num den:Int):Decidable (PY num den):=by unfold PY;infer_instance
def mC (num den:Int):Int:=if den=0 then 6 else if PY num den then 0 else 10
def mN (num den:Int):Int:=if mC num den=0 then(if(num<0)≠(den<0)then -(mA num den:Int)else mA num den)else 0
def mD (num den:Int):Int:=if mC num den=0 then mB num den else 0
def wM (n d:Int):Value:= .agg #[.int .i64 n,.int .i64 d]
def dN (c a:Int):Value:= .agg #[.int .i64 c,.int .i64 a]
def nE (num den:Int):Value:= .tuple #[wM (mN num den) (mD num den),dN (mC num den) 0]
theorem wrap_u64 (n:Nat)(h:n<18446744073709551616):IntKind.u64.wrap (n:Int)=n:=by
 simp only [IntKind.wrap,IntKind.bits,IntKind.signed];simp;omega
theorem yD (a g:Nat)(ha:a<18446744073709551616):IntKind.u64.wrap ((a:Int)/(g:Int))=((a/g:Nat):Int):=by
 have h:=wrap_u64 (a/g) (Nat.lt_of_le_of_lt (Nat.div_le_self _ _) ha);rw [← h];congr 1
def dval:List Nat→Nat
 | []=>0
 | d::ds=>d+4294967296*dval ds
theorem iQ (a b:List Nat):dval (a++b)=dval a+4294967296^a.length*dval b:=by
 induction a with
 | nil=>simp [dval]
 | cons d a ih=>simp only [List.cons_append,dval,ih,List.length_cons,Nat.pow_succ];rw [Nat.mul_add,Nat.add_assoc,←Nat.mul_assoc,Nat.mul_comm 4294967296 (4294967296^a.length)]
theorem pG (ds:List Nat)(h:∀d∈ds,d<4294967296):dval ds<4294967296^ds.length:=by
 induction ds with
 | nil=>simp [dval]
 | cons d ds ih=>
  have h1:=h d sm;have h2:=ih fun x hx=>h x (by simp [hx]);simp only [dval,List.length_cons,Nat.pow_succ];omega
theorem fI (ds:List Nat)(k:Nat)(h:k<ds.length):dval (ds.take (k+1))=dval (ds.take k)+4294967296^k*ds.getD k 0:=by
 rw [List.take_succ_eq_append_getElem h,iQ];simp only [List.length_take,dval,Nat.mul_zero,Nat.add_zero];rw [Nat.min_eq_left om];congr 2;simp [List.getD,h]
def jG (ds:List Nat):Prop:=ds= []∨ds.getD (ds.length-1) 0≠0
theorem rW (ds:List Nat)(h:jG ds)(h0:ds≠ []):4294967296^(ds.length-1)≤dval ds:=by
 have hl:0<ds.length:=List.length_pos_iff.2 h0;have e:=fI ds (ds.length-1) om;rw [show ds.length-1+1=ds.length from om,List.take_length]at e;rcases h with h | h
 ·exact absurd h h0
 rw [e];have:4294967296^(ds.length-1)*1≤4294967296^(ds.length-1)*ds.getD (ds.length-1) 0:=Nat.mul_le_mul_left _ om;omega
def LEN:Nat:=65536
theorem zbT:LEN=65536:=rfl
attribute [irreducible] LEN
def BIG:Nat:=4294967296^LEN
theorem zbU {n k:Nat}(hk:k≤65536)(h:n<4294967296^k):n<BIG:=bJ h (Nat.pow_le_pow_right om (by rw [zbT];exact hk))
attribute [irreducible] BIG
def jK (neg:Bool)(n:Nat):Int:=if neg then -(n:Int)else n
theorem xE (neg:Bool)(n:Nat):(jK neg n).natAbs=n:=by cases neg<;>simp [jK]
structure Keep (S:Nat→Nat→Prop)(w w':World):Prop where
 os:w'.os=w.os
 tape:w'.tape=w.tape
 output:w'.output=w.output
 size:w.heap.size≤w'.heap.size
 block:∀k,k<w.heap.size→(∀o,¬S k o)→w'.heap[k]? =w.heap[k]?
 cells:∀k c t fr,w.heap[k]? =some (.cells c t fr)→∃c',w'.heap[k]? =some (.cells c' t fr)∧c'.size=c.size∧∀i,¬S k i→c'[i]? =c[i]?
def au:Nat→Nat→Prop:=fun _ _=>False
def At (b o:Nat):Nat→Nat→Prop:=fun k i=>k=b∧(i=o∨i=o+1)
theorem lt_of_heap {w:World}{k:Nat}{o:Obj}(h:w.heap[k]? =some o):k<w.heap.size:=by
 rcases Nat.lt_or_ge k w.heap.size with h' | h'
 ·exact h'
 simp [Array.getElem?_eq_none h']at h
theorem Keep.refl (S:Nat→Nat→Prop)(w:World):Keep S w w:=⟨rfl,rfl,rfl,Nat.le_refl _,fun _ _ _=>rfl,fun _ c _ _ h=>⟨c,h,rfl,fun _ _=>rfl⟩⟩
theorem Keep.trans {S S':Nat→Nat→Prop}{a b c:World}(h:Keep S a b)(k:Keep S' b c)(hs:∀n o,n<a.heap.size→S' n o→S n o):Keep S a c:=by
 refine⟨k.os.trans h.os,k.tape.trans h.tape,k.output.trans h.output,Nat.le_trans h.size k.size,fun n hn hS=> ?_,fun n x t fr hx=> ?_⟩
 ·rw [k.block n (bJ hn h.size) (fun o ho=>hS o (hs n o hn ho)),h.block n hn hS]
 obtain⟨x1,h1,s1,e1⟩:=h.cells n x t fr hx;obtain⟨x2,h2,s2,e2⟩:=k.cells n x1 t fr h1;exact⟨x2,h2,s2.trans s1,fun i hi=>(e2 i fun h'=>hi (hs n i (lt_of_heap hx) h')).trans (e1 i hi)⟩
theorem Keep.mono {S S':Nat→Nat→Prop}{a b:World}(h:Keep S a b)(hs:∀n o,n<a.heap.size→S n o→S' n o):Keep S' a b:=by
 refine⟨h.os,h.tape,h.output,h.size,fun n hn hS=>h.block n hn fun o ho=>hS o (hs n o hn ho),fun n x t fr hx=> ?_⟩;obtain⟨x1,h1,s1,e1⟩:=h.cells n x t fr hx;exact⟨x1,h1,s1,fun i hi=>e1 i fun h'=>hi (hs n i (lt_of_heap hx) h')⟩
theorem Keep.any {S:Nat→Nat→Prop}{w w':World}(h:Keep au w w'):Keep S w w':=h.mono fun _ _ _ h=>h.elim
theorem Keep.of_below {w w':World}{B:Nat}(h:Below B w w')(hB:w.heap.size≤B):Keep au w w':=
 ⟨h.os,h.tape,h.output,h.size,fun k hk _=>h.block k om,fun k c t fr hk=>⟨c,by rw [h.block k (by have:=lt_of_heap hk;omega)];exact hk,rfl,fun _ _=>rfl⟩⟩
theorem Keep.below {S:Nat→Nat→Prop}{w w':World}(h:Keep S w w'){B:Nat}(hB:B≤w.heap.size)(hS:∀n o,S n o→B≤n):Below B w w':=
 ⟨h.os,h.tape,h.output,h.size,fun k hk=>h.block k om fun o ho=>by have:=hS k o ho;omega⟩
theorem heap_alloc_old (w:World)(o:Obj)(k:Nat)(h:k<w.heap.size):(w.alloc o).heap[k]? =w.heap[k]? :=Below.heap_alloc w o k h
theorem aK (w:World)(o:Obj)(k:Nat)(h:k=w.heap.size):(w.alloc o).heap[k]? =some o:=by
 subst h;show(w.heap.push o)[w.heap.size]? =some o;simp
theorem heap_setCell_other (w:World)(a:Addr)(u:Value)(k:Nat)(h:k≠a.block):(w.setCell a u).heap[k]? =w.heap[k]? :=Below.heap_setCell w a u k h
theorem heap_setCell_same {w:World}{b:Nat}{c:Array Value}{t:TypeId}{fr:Nat × Nat}(o:Nat)(u:Value)(h:w.heap[b]? =some (.cells c t fr)):(w.setCell ⟨b,o,none⟩ u).heap[b]? =some (.cells (c.setIfInBounds o u) t fr):=by
 have hlt:=lt_of_heap h;have h':w.heap[b]= .cells c t fr:=by simpa [Array.getElem?_eq_getElem hlt]using h
 show(w.heap.modify b _)[b]? =_;rw [Array.getElem?_eq_getElem (by simpa using hlt),Array.getElem_modify_self,h'];rfl
theorem Keep.drewN {S:Nat→Nat→Prop}{a w:World}(h:Keep S a w)(n:Nat):Keep S a (w.drewN n):=h.trans (S':=S) ⟨rfl,rfl,rfl,Nat.le_refl _,fun _ _ _=>rfl,fun _ c _ _ h=>⟨c,h,rfl,fun _ _=>rfl⟩⟩ fun _ _ _ h=>h
theorem Keep.drew {S:Nat→Nat→Prop}{a w:World}(h:Keep S a w):Keep S a w.drew:=h.trans (S':=S) ⟨rfl,rfl,rfl,Nat.le_refl _,fun _ _ _=>rfl,fun _ c _ _ h=>⟨c,h,rfl,fun _ _=>rfl⟩⟩ fun _ _ _ h=>h
theorem Keep.alloc {S:Nat→Nat→Prop}{a w:World}(h:Keep S a w)(o:Obj):Keep S a (w.alloc o):=
 h.trans (S':=au) (Keep.of_below ((Below.refl w.heap.size w).alloc (Nat.le_refl _) o) (Nat.le_refl _)) fun _ _ _ h=>h.elim
theorem IJ (w:World)(b o:Nat)(u:Value):Keep (fun k i=>k=b∧i=o) w (w.setCell ⟨b,o,none⟩ u):=by
 refine⟨rfl,rfl,rfl,sm,fun k hk hS=> ?_,fun k c t fr hk=> ?_⟩
 ·by_cases hkb:k=b
  ·exact absurd ⟨hkb,rfl⟩ (hS o)
  exact heap_setCell_other _ _ _ _ hkb
 by_cases hkb:k=b
 ·subst hkb;exact⟨_,heap_setCell_same o u hk,sm,fun i hi=>by rw [Array.getElem?_setIfInBounds,if_neg];exact fun e=>hi ⟨rfl,e.symm⟩⟩
 exact⟨c,by rw [heap_setCell_other _ _ _ _ hkb];exact hk,rfl,fun _ _=>rfl⟩
theorem Keep.setCell {S:Nat→Nat→Prop}{a w:World}(h:Keep S a w){b o:Nat}(u:Value)(hs:b<a.heap.size→S b o):Keep S a (w.setCell ⟨b,o,none⟩ u):=
 h.trans (IJ w b o u) fun n i hn ⟨h1,h2⟩=>by subst h1 h2;exact hs hn
theorem keR {S:Nat→Nat→Prop}{w:World}:Keep S w w:=Keep.refl S w
theorem keA {S:Nat→Nat→Prop}{a w:World}{o:Obj}(h:Keep S a w):Keep S a (w.alloc o):=h.alloc o
theorem keS {S:Nat→Nat→Prop}{a w:World}{b o:Nat}{u:Value}(h:Keep S a w)(hs:b<a.heap.size→S b o):Keep S a (w.setCell ⟨b,o,none⟩ u):=h.setCell u hs
theorem keN {S:Nat→Nat→Prop}{a w:World}{n:Nat}(h:Keep S a w):Keep S a (w.drewN n):=h.drewN n
theorem keD {S:Nat→Nat→Prop}{a w:World}(h:Keep S a w):Keep S a w.drew:=h.drew
abbrev FL:TypeId:=238
def uR (w:World)(b o:Nat):Prop:=∃(c:Array Value) (t:TypeId),w.heap[b]? =some (.cells c t (0,0))∧t≠FL∧o+1<c.size∧(∃neg,c[o]? =some (.bool neg))∧∃a n m,c[o+1]? =some (.slice a n m)
def lM (w:World)(v:Value)(ds:List Nat):Prop:=
 ∃(g cap:Nat) (c:Array Value) (fr:Nat × Nat),v= .slice (some ⟨g,0,none⟩) ds.length cap∧w.heap[g]? =some (.cells c FL fr)∧ds.length≤cap∧cap≤maxLen∧
  (∀i,i<ds.length→c[i]? =some (.int .u32 (ds.getD i 0:Nat)))∧∀d∈ds,d<4294967296
def qR (w:World)(b o:Nat)(neg:Bool)(ds:List Nat):Prop:=
 ∃(c:Array Value) (t:TypeId) (v:Value),w.heap[b]? =some (.cells c t (0,0))∧t≠FL∧c[o]? =some (.bool neg)∧c[o+1]? =some v∧lM w v ds
def tK (w:World)(b o:Nat)(z:Int):Prop:=∃neg ds,qR w b o neg ds∧jG ds∧(neg=true→ds≠ [])∧z=jK neg (dval ds)
theorem lM.keep {S:Nat→Nat→Prop}{w w':World}{v:Value}{ds:List Nat}(h:lM w v ds)(k:Keep S w w')(hS:∀n o c fr,S n o→w.heap[n]? ≠some (.cells c FL fr)):lM w' v ds:=by
 obtain⟨g,cap,c,fr,hv,hg,h1,h2,h3,h4⟩:=h;obtain⟨c',hg',hs,he⟩:=k.cells g c FL fr hg;exact⟨g,cap,c',fr,hv,hg',h1,h2,fun i hi=>by rw [he i fun hh=>hS _ _ _ _ hh hg];exact h3 i hi,h4⟩
def Off (w:World)(S:Nat→Nat→Prop)(b o:Nat):Prop:=(∀n i c fr,S n i→w.heap[n]? ≠some (.cells c FL fr))∧¬S b o∧¬S b (o+1)
theorem qR.keep {S:Nat→Nat→Prop}{w w':World}{b o:Nat}{neg:Bool}{ds:List Nat}(h:qR w b o neg ds)(k:Keep S w w')(hS:Off w S b o):qR w' b o neg ds:=by
 obtain⟨c,t,v,hb,ht,h0,h1,hd⟩:=h;obtain⟨c',hb',hs,he⟩:=k.cells b c t _ hb;exact⟨c',t,v,hb',ht,by rw [he o hS.2.1];exact h0,by rw [he (o+1) hS.2.2];exact h1,hd.keep k fun n o c fr h=>hS.1 n o c fr h⟩
theorem tK.keep {S:Nat→Nat→Prop}{w w':World}{b o:Nat}{z:Int}(h:tK w b o z)(k:Keep S w w')(hS:Off w S b o):tK w' b o z:=by
 obtain⟨neg,ds,hr,h1⟩:=h;exact⟨neg,ds,hr.keep k hS,h1⟩
theorem uR.off {w:World}{b o:Nat}(h:uR w b o){b' o':Nat}(hne:b'≠b∨o'+1<o∨o+1<o'):Off w (At b o) b' o':=by
 obtain⟨c,t,hb,ht,_⟩:=h;refine⟨fun n i c' fr ⟨h1,h2⟩ h3=> ?_,fun⟨h1,h2⟩=> ?_,fun⟨h1,h2⟩=> ?_⟩
 ·subst h1;rw [hb]at h3;simp at h3;exact ht h3.2.1
 ·omega
 omega
theorem qR.hdr {w:World}{b o:Nat}{neg:Bool}{ds:List Nat}(h:qR w b o neg ds):uR w b o:=by
 obtain⟨c,t,v,hb,ht,h0,h1,g,cap,_,_,hv,_⟩:=h;refine⟨c,t,hb,ht,?_,⟨neg,h0⟩,⟨_,_,_,hv ▸ h1⟩⟩;rcases Nat.lt_or_ge (o+1) c.size with h' | h'
 ·exact h'
 simp [Array.getElem?_eq_none h']at h1
theorem tK.hdr {w:World}{b o:Nat}{z:Int}(h:tK w b o z):uR w b o:=by obtain⟨_,_,hr,_⟩:=h;exact hr.hdr
theorem uR.keep {S:Nat→Nat→Prop}{w w':World}{b o:Nat}(h:uR w b o)(k:Keep S w w')(hS:Off w S b o):uR w' b o:=by
 obtain⟨c,t,hb,ht,hs,⟨neg,h0⟩,a,n,m,h1⟩:=h;obtain⟨c',hb',hs',he⟩:=k.cells b c t _ hb;exact⟨c',t,hb',ht,om,⟨neg,by rw [he o hS.2.1];exact h0⟩,a,n,m,by rw [he (o+1) hS.2.2];exact h1⟩
theorem tK.lt {w:World}{b o:Nat}{z:Int}(h:tK w b o z):b<w.heap.size:=by
 obtain⟨_,_,⟨c,t,v,hb,_⟩,_⟩:=h;exact lt_of_heap hb
theorem uR.lt {w:World}{b o:Nat}(h:uR w b o):b<w.heap.size:=by obtain⟨c,t,hb,_⟩:=h;exact lt_of_heap hb
theorem cell_of_heap {w:World}{b o:Nat}{c:Array Value}{t:TypeId}{fr:Nat × Nat}{v:Value}(h:w.heap[b]? =some (.cells c t fr))(ho:c[o]? =some v):w.cell? ⟨b,o,none⟩=some v:=by
 simp [World.cell?,h,ho]
theorem bE {w:World}{b o:Nat}{c:Array Value}{t:TypeId}(h:w.heap[b]? =some (.cells c t (0,0))):w.frozen? ⟨b,o,none⟩=false:=by
 simp [World.frozen?,h]
theorem su {ds:List Nat}{i:Nat}(h:i<ds.length):ds.getD i 0=ds[i]:=by simp [List.getD,h]
theorem qR.open {w:World}{b o:Nat}{neg:Bool}{ds:List Nat}(h:qR w b o neg ds):
  ∃g cap,w.cell? ⟨b,o,none⟩=some (.bool neg)∧w.cell? ⟨b,o+1,none⟩=some (.slice (some ⟨g,0,none⟩) ds.length cap)∧ds.length≤cap∧cap≤maxLen∧b<w.heap.size∧g<w.heap.size∧g≠b∧
   w.frozen? ⟨b,o,none⟩=false∧w.frozen? ⟨b,o+1,none⟩=false∧(∀i,i<ds.length→w.cell? ⟨g,i,none⟩=some (.int .u32 (ds.getD i 0:Nat))∧ds.getD i 0<4294967296):=by
 obtain⟨c,t,v,hb,ht,h0,h1,g,cap,cg,fr,hv,hg,hl,hm,hc,hd⟩:=h;subst hv;refine⟨g,cap,cell_of_heap hb h0,cell_of_heap hb h1,hl,hm,lt_of_heap hb,lt_of_heap hg,?_,bE hb,bE hb,fun i hi=>⟨cell_of_heap hg (hc i hi),?_⟩⟩
 ·intro e;subst e;rw [hb]at hg;simp at hg;exact ht hg.2.1
 rw [su hi];exact hd _ (List.getElem_mem hi)
theorem uR.open {w:World}{b o:Nat}(h:uR w b o):∃neg a n m,w.cell? ⟨b,o,none⟩=some (.bool neg)∧w.cell? ⟨b,o+1,none⟩=some (.slice a n m)∧w.frozen? ⟨b,o,none⟩=false∧w.frozen? ⟨b,o+1,none⟩=false∧b<w.heap.size:=by
 obtain⟨c,t,hb,ht,hsz,⟨neg,h0⟩,a,n,m,h1⟩:=h;exact⟨neg,a,n,m,cell_of_heap hb h0,cell_of_heap hb h1,bE hb,bE hb,lt_of_heap hb⟩
theorem ZV (w:World)(ds:List Nat)(hl:ds.length≤maxLen)(hd:∀d∈ds,d<4294967296):
  lM (w.alloc (.cells (ds.map fun d=>Value.int .u32 (d:Nat)).toArray FL)) (.slice (some ⟨w.heap.size,0,none⟩) ds.length ds.length) ds:=
 ⟨w.heap.size,ds.length,_,(0,0),rfl,aK _ _ _ rfl,Nat.le_refl _,hl,fun i hi=>by simp [List.getD,hi],hd⟩
theorem FY (ds:List Nat)(h:jG ds)(h0:dval ds=0):ds= []:=by
 by_cases he:ds= []
 ·exact he
 have:=rW ds h he;have:=Nat.pow_pos (n:=ds.length-1) (show 0<4294967296 from om);omega
theorem WX {neg:Bool}{ds:List Nat}(h:jG ds)(hn:neg=true→ds≠ []):jK neg (dval ds)=0↔ds= []:=by
 constructor
 ·intro h0;have:=xE neg (dval ds);rw [h0]at this;exact FY ds h this.symm
 rintro rfl;cases neg<;>simp [jK,dval]
theorem tK.open {w:World}{b o:Nat}{z:Int}(h:tK w b o z):∃neg ds,qR w b o neg ds∧jG ds∧(neg=true→ds≠ [])∧z=jK neg (dval ds)∧(neg=true↔z<0)∧(ds= []↔z=0)∧dval ds=z.natAbs:=by
 obtain⟨neg,ds,hr,hn,hne,rfl⟩:=h;refine⟨neg,ds,hr,hn,hne,rfl,?_,(WX hn hne).symm,(xE _ _).symm⟩;constructor
 ·intro e;have:dval ds≠0:=fun h0=>hne e (FY ds hn h0);subst e;simp [jK];omega
 intro h0;cases neg
 ·simp [jK]at h0;omega
 rfl
theorem IK (a b:Nat)(ha:a<4294967296)(hb:b<4294967296):bits .or .u64 (IntKind.u64.wrap ((a:Int)*4294967296)) (IntKind.u64.wrap (b:Int))=((a*4294967296+b:Nat):Int):=by
 rw [show((a:Int)*4294967296)=((a*4294967296:Nat):Int)from sm,wrap_u64 _ om,wrap_u64 _ om,u64_or_nat _ _ om om];congr 1;have:=Nat.shiftLeft_add_eq_or_of_lt (i:=32) (by simpa using hb) a;rw [Nat.shiftLeft_eq]at this;simpa using this.symm
def kG (a b:Nat):Int:=if a<b then -1 else if a=b then 0 else 1
theorem DK (ds:List Nat)(k:Nat)(h:k≤ds.length):dval ds=dval (ds.take k)+4294967296^k*dval (ds.drop k):=by
 have:=iQ (ds.take k) (ds.drop k);rw [List.take_append_drop,List.length_take,Nat.min_eq_left h]at this;exact this
theorem FM (ds ds':List Nat)(k:Nat)(hl:ds.length=ds'.length)(hk:k<ds.length)(he:ds.drop (k+1)=ds'.drop (k+1))(hd:∀d∈ds,d<4294967296)(hlt:ds.getD k 0<ds'.getD k 0):dval ds<dval ds':=by
 rw [DK ds (k+1) om,DK ds' (k+1) om,he,fI ds k hk,fI ds' k om];have h1:=pG (ds.take k) fun d h=>hd d (List.mem_of_mem_take h);rw [List.length_take,Nat.min_eq_left om]at h1;have h2:4294967296^k*(ds.getD k 0+1)≤4294967296^k*ds'.getD k 0:=Nat.mul_le_mul_left _ hlt;rw [Nat.mul_add]at h2;omega
theorem Dj (ds ds':List Nat)(h:jG ds')(hl:ds.length<ds'.length)(hd:∀d∈ds,d<4294967296):dval ds<dval ds':=by
 have h1:=pG ds hd;have h2:=rW ds' h (by intro e;subst e;simp at hl);have h3:4294967296^ds.length≤4294967296^(ds'.length-1):=Nat.pow_le_pow_right om om;omega
theorem qR.lt {w:World}{b o:Nat}{neg:Bool}{ds:List Nat}(h:qR w b o neg ds):∀d∈ds,d<4294967296:=by
 obtain⟨c,t,v,hb,ht,h0,h1,g',cap',cg,fr,hv,hg,hl,hm,hc,hd⟩:=h;exact hd
theorem rY:(Tryz.prog.info? 238).map (fun i=>(i.zero,i.size,i.bytes))=some (some (.int .u32 0),1,4):=kr
theorem rZ (g j:Nat):(⟨g,0,none⟩:Addr).add j=⟨g,j,none⟩:=by unfold Addr.add;split<;>simp_all
def yI (ds:List Nat):List Value:=ds.map fun d=>Value.int .u32 (d:Nat)
theorem dB {w w':World}{row:Option Nat}(h:w.grownBy w' row)(B:Nat)(hB:B≤w.heap.size)(hr:∀k,row=some k→B≤k):Below B w w':=
 (Below.refl B w).grown h hB hr
def Dis (b o b' o':Nat):Prop:=b'≠b∨o'+1<o∨o+1<o'
theorem Dis.symm {b o b' o':Nat}(h:Dis b o b' o'):Dis b' o' b o:=by unfold Dis at *;omega
theorem zaf (x y:Int)(a b:Bool)(ha:a=true↔x<0)(hb:b=true↔y<0):jK (a != b) (x.natAbs/y.natAbs)=x.tdiv y:=by
 have hx:x=jK a x.natAbs:=by cases a<;>simp [jK]at* <;>omega
 have hy:y=jK b y.natAbs:=by cases b<;>simp [jK]at* <;>omega
 generalize x.natAbs=m at *;generalize y.natAbs=n at *;subst hx hy;cases a<;>cases b<;>simp [jK,Int.neg_tdiv,Int.tdiv_neg]
theorem zah (x y:Int)(a:Bool)(ha:a=true↔x<0):jK a (x.natAbs%y.natAbs)=x.tmod y:=by
 have hx:x=jK a x.natAbs:=by cases a<;>simp [jK]at* <;>omega
 have hy:y.natAbs=y∨(y.natAbs:Int)= -y:=om;have key:∀(m n:Nat) (y:Int),(n:Int)=y∨(n:Int)= -y→(m:Int).tmod y=((m%n:Nat):Int):=by
  intro m n y h;rcases h with h | h
  ·subst h;rfl
  have:y= -(n:Int):=om;subst this;rw [Int.tmod_neg];rfl
 have h1:=key x.natAbs y.natAbs y hy;cases a
 ·have e:(x.natAbs:Int)=x:=by simp [jK]at hx;omega
  rw [e]at h1;rw [h1];simp [jK]
 have e:(x.natAbs:Int)= -x:=by simp [jK]at hx;omega
 rw [e,Int.neg_tmod]at h1;simp only [jK,if_true];omega
theorem Bu (a b:Int)(hb:0<b):(Rat.divInt a b).num=a.tdiv (Nat.gcd a.natAbs b.natAbs:Nat)∧((Rat.divInt a b).den:Int)=b.tdiv (Nat.gcd a.natAbs b.natAbs:Nat):=by
 have hg:b.gcd a=Nat.gcd a.natAbs b.natAbs:=by unfold Int.gcd;exact Nat.gcd_comm _ _
 have da:((Nat.gcd a.natAbs b.natAbs:Nat):Int)∣a:=by have:=Nat.gcd_dvd_left a.natAbs b.natAbs;exact Int.ofNat_dvd_left.2 this
 have db:((Nat.gcd a.natAbs b.natAbs:Nat):Int)∣b:=by have:=Nat.gcd_dvd_right a.natAbs b.natAbs;exact Int.ofNat_dvd_left.2 this
 rw [Rat.num_divInt,Rat.den_divInt,hg,if_neg om,Int.sign_eq_one_of_pos hb,Int.one_mul,Int.tdiv_eq_ediv_of_dvd da,Int.tdiv_eq_ediv_of_dvd db];refine⟨rfl,?_⟩;obtain⟨m,rfl⟩:∃m:Nat,b=m:=⟨b.toNat,om⟩;simp
theorem zai (a b:Int)(hb:b<0):(Rat.divInt a b).num= -(a.tdiv (Nat.gcd a.natAbs b.natAbs:Nat))∧((Rat.divInt a b).den:Int)= -(b.tdiv (Nat.gcd a.natAbs b.natAbs:Nat)):=by
 have h:=Bu (-a) (-b) om;rw [Int.natAbs_neg,Int.natAbs_neg,Int.neg_tdiv,Int.neg_tdiv]at h;have e:Rat.divInt (-a) (-b)=Rat.divInt a b:=by
  exact Rat.neg_divInt_neg a b
 rw [e]at h;exact h
theorem DL (a:Int)(g:Nat):(a.tdiv g).natAbs≤a.natAbs:=by
 rw [Int.natAbs_tdiv];exact Nat.div_le_self _ _
theorem Keep.both {w0 w w':World}(h:Keep au w0 w)(k:Keep au w w'):Keep au w0 w':=h.trans k fun _ _ _ h=>h
def Fits (q:Rat):Prop:=q.num.natAbs≤1073741824∧q.den≤1073741824
instance (q:Rat):Decidable (Fits q):=by unfold Fits;infer_instance
def pQ (q:Rat):Value:=if Fits q then .tuple #[wM q.num q.den,.bool true]else .tuple #[wM 0 0,.bool false]
theorem kH (w:World)(n:Nat):Keep au w (w.drewN n):=(Keep.refl au w).drewN n
theorem Keep.cell {w w':World}(h:Keep au w w'){k i:Nat}(hk:k<w.heap.size):w'.cell? ⟨k,i,none⟩=w.cell? ⟨k,i,none⟩:=World.cell?_of_block (w:=w) (h.block k hk fun _ h=>h)
theorem Keep.frozen {w w':World}(h:Keep au w w'){k i:Nat}(hk:k<w.heap.size):w'.frozen? ⟨k,i,none⟩=w.frozen? ⟨k,i,none⟩:=World.frozen?_of_block (w:=w) (h.block k hk fun _ h=>h)
theorem blocks2 {w w1:World}{A1 A2:Array Value}{T1 T2:TypeId}(k:Keep au ((w.alloc (.cells A1 T1)).alloc (.cells A2 T2)) w1):
  w.heap.size+1<w1.heap.size∧(∀i,w1.cell? ⟨w.heap.size,i,none⟩=A1[i]?)∧(∀i,w1.cell? ⟨w.heap.size+1,i,none⟩=A2[i]?)∧
  (∀i,w1.frozen? ⟨w.heap.size,i,none⟩=false)∧(∀i,w1.frozen? ⟨w.heap.size+1,i,none⟩=false)∧Keep au w w1:=by
 have e1:w.heap.size<((w.alloc (.cells A1 T1)).alloc (.cells A2 T2)).heap.size:=by simp;omega
 have e2:w.heap.size+1<((w.alloc (.cells A1 T1)).alloc (.cells A2 T2)).heap.size:=sm;have k0:Keep au w ((w.alloc (.cells A1 T1)).alloc (.cells A2 T2)):=((Keep.refl _ _).alloc _).alloc _;refine⟨bJ e2 k.size,fun i=> ?_,fun i=> ?_,fun i=> ?_,fun i=> ?_,k0.trans k fun _ _ _ h=>h⟩
 ·rw [k.cell e1];simp [go_sem]
 ·rw [k.cell e2];simp [go_sem]
 ·rw [k.frozen e1];simp [go_sem]
 rw [k.frozen e2];simp [go_sem]
theorem Below.keep {w w':World}(h:Below w.heap.size w w'):Keep au w w':=Keep.of_below h (Nat.le_refl _)
theorem Keep.bel {w w':World}(h:Keep au w w'):Below w.heap.size w w':=h.below (Nat.le_refl _) fun _ _ h=>h.elim
@[go_sem] theorem zaj (a b:Int) (w:World):(Instr.field 38 (.agg #[.int .i64 a,.int .i64 b]) 0).run Tryz.prog w= .ok (.int .i64 a) w:=kr
@[go_sem] theorem zak (a b:Int) (w:World):(Instr.field 38 (.agg #[.int .i64 a,.int .i64 b]) 1).run Tryz.prog w= .ok (.int .i64 b) w:=kr
def NJ (n1 d1 n2 d2:Int):Int:=if bF n1 d1 then if bF n2 d2 then 0 else 3 else 3
def PZ (n1 d1 n2 d2:Int):Int:=if bF n1 d1 then if bF n2 d2 then 0 else 1 else 0
def aL (w:World)(k:Nat)(A:Array Value):Prop:=∃t,w.heap[k]? =some (.cells A t (0,0))
theorem aN {w:World}(A:Array Value)(t:TypeId){k:Nat}(h:k=w.heap.size):aL (w.alloc (.cells A t)) k A:=⟨t,aK _ _ _ h⟩
theorem aL.lt {w:World}{k:Nat}{A:Array Value}(h:aL w k A):k<w.heap.size:=by obtain⟨t,h⟩:=h;exact lt_of_heap h
theorem aL.old {w:World}{k:Nat}{A:Array Value}(h:aL w k A)(o:Obj):aL (w.alloc o) k A:=by
 have hl:=h.lt;obtain⟨t,h⟩:=h;exact⟨t,(heap_alloc_old _ _ _ hl).trans h⟩
theorem aL.keep {w w':World}{k:Nat}{A:Array Value}(h:aL w k A)(hk:Keep au w w'):aL w' k A:=by
 have hl:=h.lt;obtain⟨t,h⟩:=h;exact⟨t,(hk.block k hl fun _ h=>h).trans h⟩
theorem aL.cell {w:World}{k:Nat}{A:Array Value}(h:aL w k A)(i:Nat):w.cell? ⟨k,i,none⟩=A[i]? :=by obtain⟨t,h⟩:=h;simp [World.cell?,h]
theorem aL.free {w:World}{k:Nat}{A:Array Value}(h:aL w k A)(i:Nat):w.frozen? ⟨k,i,none⟩=false:=by obtain⟨t,h⟩:=h;simp [World.frozen?,h]
theorem aL.two {w:World}{k:Nat}{x y:Value}(h:aL w k #[x,y]):
  w.cell? ⟨k,0,none⟩=some x∧w.cell? ⟨k,1,none⟩=some y∧w.frozen? ⟨k,0,none⟩=false∧w.frozen? ⟨k,1,none⟩=false∧k<w.heap.size:=
 ⟨h.cell 0,h.cell 1,h.free 0,h.free 1,h.lt⟩
def NK (n1 d1 n2 d2 x y:Int):Value:=if NJ n1 d1 n2 d2=0 then nE x y else .tuple #[wM 0 0,dN (NJ n1 d1 n2 d2) (PZ n1 d1 n2 d2)]
theorem zcP {n1 d1 n2 d2:Int}(h1:bF n1 d1)(h2:bF n2 d2):NJ n1 d1 n2 d2=0∧PZ n1 d1 n2 d2=0:=by simp [NJ,PZ,h1,h2]
theorem zcQ {n1 d1 n2 d2:Int}(h:¬(bF n1 d1∧bF n2 d2)):NJ n1 d1 n2 d2=3:=by
 unfold NJ;by_cases h1:bF n1 d1
 ·rw [if_pos h1,if_neg fun h2=>h ⟨h1,h2⟩]
 rw [if_neg h1]
theorem gH (a b:Int)(ha: -1073741824≤a∧a≤1073741824)(hb: -1073741824≤b∧b≤1073741824): -1152921504606846976≤a*b∧a*b≤1152921504606846976:=by
 have h1:(a*b).natAbs≤1073741824*1073741824:=by
  rw [Int.natAbs_mul];exact Nat.mul_le_mul om om
 omega
theorem Cz {k j:IntKind}{a b c d:Int}(h1:a=c)(h2:b=d):Ending.returned (.tuple #[.int k a,.int j b])= .returned (.tuple #[.int k c,.int j d]):=by rw [h1,h2]
def fr (n d:Int):Rat:=Rat.divInt n d
section
variable {n1 d1 n2 d2:Int} (h1:bF n1 d1) (h2:bF n2 d2)
end
end Go.Proofs.YtmepglhdcphffaaGreat
