/- What the walks are told of arguments: integers, fractions, slices. A region whose order is drawn: quiet operations are taken first, the others come in one forced order. A region whose order is drawn, by a plan with two classes of worlds: C, until a late operation has come; D₀, all the way. A region whose order is drawn, by a plan that parts where two operations are free. At a guarded operation of a region whose order is drawn. Contracts of package frac's small functions: size, gcd, Check, Make. Plain walks over the program. What frac.Make answers: plain definitions and lemmas. Wide whole numbers in memory: what a block must hold to be one; what a call may change; plain lemmas on worlds. Contracts of the wide numbers' small methods. Contracts of the wide numbers: making them of machine numbers. Contracts of the wide numbers: reading them. Contracts of the wide numbers: copying them. Contracts of the wide numbers: sign, quotient, common divisor. Contracts of the wide numbers: common divisor, quotient; of machine size. Wide fractions in memory: what they are; making them, their numerator and denominator. Wide fractions: numerator, denominator; FracOf, FracMade. Fractions of the program: what the operations answer, and what they mean in Lean's own fractions. -/
import Derived.Test.YtaiffmebphhdaaaGreatProg
import Derived.WalkKit
import Derived.ProofKit
import Derived.OpenShut
import Derived.Lib.SmallJoins
import Derived.Deep.Quiet
import Derived.OrdersHeld
import Derived.Deep.RegionHeld3
import Derived.WalkSpells
import Derived.Handy
import Derived.Deep.QuietTactic
import Derived.BigQuiet
import Derived.Lib.Hide
import Derived.WalkSmall
import Derived.Deep.AppendLies
import Derived.Deep.RegionLawGrows
namespace Go.Proofs.YtaiffmebphhdaaaGreat
set_option maxRecDepth 100000
set_option maxHeartbeats 8000000
set_option linter.unusedSimpArgs false
set_option linter.unusedVariables false
theorem om {p:Prop}(h:p:=by omega):p:=h
theorem kr {p:Prop}(h:p:=by kernel_rfl):p:=h
theorem dc {p:Prop}(h:p:=by decide):p:=h
theorem sm {p:Prop}(h:p:=by simp):p:=h
theorem gn {p:Prop}(h:p:=by go_num):p:=h
open Go.ChangeShapes Go.WideShapes Go.ChangeAt Go.RowKit Go.Joins
def fT (x:Int):Prop:= -9223372036854775808≤x∧x≤9223372036854775807
theorem wD {x:Int}(h:(Lit.int .i64 x).wf=true):fT x:=by
 have:=bounds_i64 h;unfold fT;omega
section
variable {H:Type} {enc:TypeId × Value→H} {W:World} {base:Nat} {d:DataW H} {p:List MemPlace} {v:Value}
theorem zaD (hv:Value.okWide Tryz.prog W .any base 3 v)(h:DataW.Trod enc Tryz.prog W 0 (fun _=>true) true 3 v d p):∃x:Int,v= .int .i64 x∧fT x:=by
 obtain⟨a,rfl,_,_,w⟩:=open_int Tryz.underlying3 hv h;exact⟨a,rfl,wD w⟩
end
section
variable {P:Program} {ops:Array Oper} {Q:Exit→Act→World→Prop} {C:World→Prop}
theorem OJ {j:Nat}{oi oj:Oper}{v:Value}(hj:ops[j]? =some oj)(hap:oi.apart ops oj=true)(hsj:∀cs b,oj.op≠ .select cs b)
  (hQ:∀c (a:Act) w,¬Q (.panic c) a w) {I:Act→Prop} (hI:∀a u,I a→I (a.put oj.dst u)) (hD:∀a d,I a→I {a with defers:=d::a.defers})
  {K:Act→World→Prop} {a:Act} {w:World} (hy:I a) (h:wpOp P ops Q j K (a.put oi.dst v) w):
  wpOp P ops Q j (fun a' w'=>I a'∧K (a'.put oi.dst v) w') a w:=by
 obtain⟨h1,h2,_⟩:=Oper.apart_spec hap;unfold wpOp at *;simp only [hj]at *;rw [wanted_put oj a oi.dst v h1]at h;by_cases hw:Region.wanted oj (yielded ops a.tmps)=true
 ·rw [if_pos hw]at h ⊢;rcases h with h | ⟨hasks,hlets⟩
  ·refine .inl ?_;unfold Oper.wp at *;rw [execOp_put oj hsj a oi.dst v h1]at h;rcases hr:(execOp a.eval oj).run P w with⟨n,w'⟩ | ⟨x,w'⟩<;>rw [hr]at h
   ·cases n<;>simp only [Oper.upon]at h ⊢
    case value u=>exact⟨hI _ _ hy,by rw [← Act.put_comm a v u h2];exact h⟩
    case skip=>exact⟨hI _ _ hy,by rw [← Act.put_comm a v undef h2];exact h⟩
    case defer d=>exact⟨hI _ _ (hD _ _ hy),by rw [← Act.put_comm _ v undef h2,←Act.put_defers];exact h⟩
    case enter f args=>
     exact Calls.mono h fun e w'' he=>by
      cases e with
      | returned u=>exact⟨hI _ _ hy,by rw [← Act.put_comm a v u h2];exact he⟩
      | panicked c=>exact absurd he (hQ _ _ _)
      | outgrown=>exact he
    case row row args=>exact Rows.mono h fun u w'' he=>⟨hI _ _ hy,by rw [← Act.put_comm a v u h2];exact he⟩
   cases x<;>simp only [Oper.upon]at h ⊢;exact absurd h (hQ _ _ _)
  exact .inr ⟨by unfold Oper.asks at *;rw [execOp_put oj hsj a oi.dst v h1]at hasks;exact hasks,hlets⟩
 rw [if_neg hw]at h ⊢;exact⟨hI _ _ hy,by rw [← Act.put_comm a v undef h2];exact h⟩
def looks:Op→Bool
 | .move _ | .assign _ | .pick .. | .load .. | .nilCheck _ | .binOp .. | .unOp .. | .convert .. | .slice .. | .fieldAddr .. | .field .. | .indexAddr .. | .index .. | .extract .. | .build .. =>true
 | .call {callee:= .builtin .len,..} | .call {callee:= .builtin .cap,..} | .call {callee:= .builtin .min,..} | .call {callee:= .builtin .max,..}=>true
 | _=>false
theorem Tc (s:Sem Value)(w w':World)(n:Next)(h:(do pure (Next.value (← s)):Sem Next).run P w= .ok n w'):∃v,n= .value v:=by
 rw [Sem.run_bind]at h;rcases hr:s.run P w with⟨v,w1⟩ | ⟨x,w1⟩<;>rw [hr]at h
 ·simp [Result.andThen,Sem.run,pure]at h;exact⟨v,h.1.symm⟩
 simp [Result.andThen]at h
theorem Mk {o:Oper}(h:looks o.op=true)(ρ:Operand→Value)(w w':World)(n:Next)(hr:(execOp ρ o).run P w= .ok n w'):∃v,n= .value v:=by
 unfold execOp at hr;unfold looks at h;split at h<;>rename_i heq<;>first | (cases h;done) | (simp only [heq]at hr)
 case h_3=>
  rw [Sem.run_bind]at hr;rcases h1:(asBool (ρ _)).run P w with⟨v,w1⟩ | ⟨x,w1⟩<;>rw [h1]at hr
  ·simp [Result.andThen,Sem.run,pure]at hr;exact⟨_,hr.1.symm⟩
  simp [Result.andThen]at hr
 case h_5=>
  split at hr
  all_goals first
   | (simp [pure,Sem.run]at hr;exact⟨_,hr.1.symm⟩)
   | (simp [runtimePanic,goPanic,program,Sem.run,bind,Sem.bind,pure]at hr;done)
   | skip
  split at hr
  ·simp [runtimePanic,goPanic,program,Sem.run,bind,Sem.bind,pure]at hr
  ·rw [Sem.run_bind]at hr;simp only [program,Sem.run,Result.andThen]at hr;rw [Sem.run_bind]at hr;rcases h1:(nilAhead (P.types.size+Made.depth) _ _ _).run P w with⟨v,w1⟩ | ⟨x,w1⟩<;>rw [h1]at hr
   ·simp only [Result.andThen]at hr;split at hr
    ·simp [unsupported,Sem.run,bind,Sem.bind]at hr
    simp [pure,Sem.run]at hr;exact⟨_,hr.1.symm⟩
   simp [Result.andThen]at hr
  simp [pure,Sem.run]at hr;exact⟨_,hr.1.symm⟩
 all_goals first
  | exact Tc _ _ _ _ hr
  | (simp [pure,Sem.run]at hr;exact⟨_,hr.1.symm⟩)
theorem Gb {o:Oper}(h:looks o.op=true){a:Act}{w:World}{v:Value}(hq:o.quietAt P a C w v):(execOp a.eval o).run P w= .ok (.value v) w:=by
 unfold Oper.quietAt at hq;rcases hr:(execOp a.eval o).run P w with⟨n,w'⟩ | ⟨x,w'⟩<;>rw [hr]at hq
 ·obtain ⟨u,rfl⟩:=Mk h _ _ _ _ hr;obtain⟨h1,h2⟩:=hq;rw [h1,h2]
 exact hq.elim
def wpAnyL (P:Program)(md:Region.Mode)(ops:Array Oper)(Q:Exit→Act→World→Prop)(C:World→Prop)(late:Nat→Bool):Nat→Array Bool→Act→World→Prop
 | 0,listed,a,w=>Region.ready md ops listed= []∧Q .normal a w
 | fuel+1,listed,a,w=>
  (Region.ready md ops listed= []→Q .normal a w)∧
  ∀i∈Region.ready md ops listed,wpOp P ops Q i (fun a' w'=>(late i=false→C w')∧wpAnyL P md ops Q C late fuel (listed.setIfInBounds i true) a' w') a w
variable {md:Region.Mode} {late:Nat→Bool}
theorem mR:∀(fuel:Nat) (listed:Array Bool) (a:Act) (w:World),wpAnyL P md ops Q C late fuel listed a w→wpAny P md ops Q fuel listed a w
 | 0,_,_,_,h=>h
 | fuel+1,_,_,_,h=>⟨h.1,fun i hi=>wpOp_mono (fun a' w' h'=>mR fuel _ a' w' h'.2) (h.2 i hi)⟩
theorem xJ {i:Nat}{o:Oper}{v:Value}{a:Act}(hi:ops[i]? =some o)(hl:looks o.op=true)(hy:YieldsIn P ops C o v a){K:Act→World→Prop}{w:World}(hC:C w)(h:K (a.put o.dst v) w):wpOp P ops Q i K a w:=by
 unfold wpOp;simp only [hi];rcases hy with⟨hw,hv⟩ | ⟨hw,rfl⟩
 ·rw [if_pos hw];refine .inl ?_;unfold Oper.wp;rw [Gb hl (hv w hC)];exact h
 rw [if_neg (by simp [hw])];exact h
def DC (md:Region.Mode)(ops:Array Oper)(listed:Array Bool):Prop:=
 ∀(k:Nat) (ok:Oper) (e:Edge),ops[k]? =some ok→listed.getD k false=true→e∈ok.after→Region.binds md e=true→listed.getD e.on false=true
theorem DC.set {listed:Array Bool}{j:Nat}(h:DC md ops listed)(hj:j∈Region.ready md ops listed):DC md ops (listed.setIfInBounds j true):=by
 intro k ok e hk hl he hb;by_cases hjk:j=k
 ·subst hjk;obtain⟨_,oj,hoj,hall⟩:=mem_ready.1 hj;rw [hk]at hoj;cases hoj;exact getD_set_true (hall e he hb)
 rw [getD_set_ne false hjk]at hl;exact getD_set_true (h k ok e hk hl he hb)
def kD (md:Region.Mode)(ops:Array Oper):Nat→Nat→Nat→Bool
 | 0,_,_=>false
 | n+1,j,i=>((ops[j]?).map fun o=>o.after.any fun e=>Region.binds md e&&(e.on==i || kD md ops n e.on i)).getD false
theorem qK {n j i:Nat}(h:kD md ops (n+1) j i=true):∃oj,ops[j]? =some oj∧∃e∈oj.after,Region.binds md e=true∧(e.on=i∨kD md ops n e.on i=true):=by
 unfold kD at h;rcases hj:ops[j]? with _ | oj
 ·rw [hj]at h;simp at h
 rw [hj]at h;simp only [Option.map_some,Option.getD_some,Array.any_eq_true',Bool.and_eq_true,Bool.or_eq_true,beq_iff_eq]at h;obtain⟨e,he,hb,h⟩:=h;exact⟨oj,rfl,e,he,hb,h⟩
theorem lF {listed:Array Bool}(h:DC md ops listed){i:Nat}(hi:listed.getD i false=false):∀(n j:Nat),kD md ops n j i=true→listed.getD j false=false
 | 0,_,h0=>by cases h0
 | n+1,j,h0=>by
  obtain⟨oj,hoj,e,he,hb,h1⟩:=qK h0;rcases hl:listed.getD j false with _ | _
  ·rfl
  have h2:=h j oj e hoj hl he hb;rcases h1 with h1 | h1
  ·rw [h1,hi]at h2;cases h2
  rw [lF h hi n _ h1]at h2;cases h2
theorem C8 {listed:Array Bool}(h:DC md ops listed){i n j:Nat}(hi:listed.getD i false=false)(hw:kD md ops n j i=true):j∉Region.ready md ops listed:=by
 intro hj;obtain⟨_,oj,hoj,hall⟩:=mem_ready.1 hj;cases n with
 | zero=>cases hw
 | succ n=>
  obtain⟨oj',zci,e,he,hb,h1⟩:=qK hw;rw [hoj]at zci;cases zci;have h2:=hall e he hb;rcases h1 with h1 | h1
  ·rw [h1,hi]at h2;cases h2
  rw [lF h hi n _ h1]at h2;cases h2
theorem wpAnyL_first {D:World→Prop}{i:Nat}{oi:Oper}{v:Value}(hi:ops[i]? =some oi)(hlk:looks oi.op=true)(hsel:∀(j:Nat) (o:Oper) cs b,ops[j]? =some o→o.op≠ .select cs b)
  (hQ:∀c (a:Act) w,¬Q (.panic c) a w) (hCD:∀w,C w→D w):
  ∀(fuel:Nat) (listed:Array Bool) (a:Act) (w:World),DC md ops listed→
   (∀j oj,ops[j]? =some oj→j≠i→listed.getD j true=false→(∀e∈oj.after,Region.binds md e=true→e.on≠i)→oi.apart ops oj=true)→
   ((late i=true∧∀w,D w)∨∀j,late j=true→listed.getD j true=true∨∃n,kD md ops n j i=true)→
   (late i=false→C w)→i∈Region.ready md ops listed→YieldsIn P ops D oi v a→D w→
   wpAnyL P md ops Q C late fuel (listed.setIfInBounds i true) (a.put oi.dst v) w→wpAnyL P md ops Q C late (fuel+1) listed a w:=by
 intro fuel
 induction fuel with
 | zero=>
  intro listed a w _ _ _ hli hr hy hC H;refine⟨fun h=>(by rw [h]at hr;cases hr),fun j hj=> ?_⟩;by_cases hji:j=i
  ·subst hji;exact xJ hi hlk hy hC ⟨hli,H⟩
  have:=ready_mono hj hji;rw [H.1]at this;cases this
 | succ fuel ih=>
  intro listed a w hdc hfree Z8 hli hr hy hC H;refine⟨fun h=>(by rw [h]at hr;cases hr),fun j hj=> ?_⟩;by_cases hji:j=i
  ·subst hji;exact xJ hi hlk hy hC ⟨hli,H⟩
  have h1:=H.2 j (ready_mono hj hji);obtain⟨hjun,oj,hoj,hall⟩:=mem_ready.1 hj;have hun:listed.getD i false=false:=by
   have h0:=(mem_ready.1 hr).1;rcases Nat.lt_or_ge i listed.size with h' | h'
   ·simpa [Array.getD,h']using h0
   simp [Array.getD,Nat.not_lt.2 h']
  have hnot:∀e∈oj.after,Region.binds md e=true→e.on≠i:=fun e he hb heq=>by
   have h2:=hall e he hb;rw [heq,hun]at h2;cases h2
  have hap:=hfree j oj hoj hji hjun hnot;have hlj:late j=false∨(late i=true∧∀w,D w):=by
   rcases Z8 with h | h
   ·exact .inr h
   rcases hl:late j with _ | _
   ·exact .inl rfl
   rcases h j hl with h | ⟨n,h⟩
   ·rw [hjun]at h;cases h
   exact absurd hj (C8 hdc hun h)
  have za9:(late i=true∧∀w,D w)∨∀k,late k=true→(listed.setIfInBounds j true).getD k true=true∨∃n,kD md ops n k i=true:=by
   refine Z8.imp id fun h k hk=>(h k hk).imp (fun h'=> ?_) id;by_cases hjk:j=k
   ·subst hjk;rw [hjun]at h';cases h'
   rw [getD_set_ne true hjk];exact h'
  have hap3:=(Oper.apart_spec hap).2.2;have h2:=OJ (I:=YieldsIn P ops D oi v) hoj hap (fun cs b=>hsel j oj cs b hoj) hQ
   (fun a u h=>h.of_same (execOp_put oi (fun cs b=>hsel i oi cs b hi) a oj.dst u hap3) (wanted_put oi a oj.dst u hap3)) (fun a d h=>h.of_same rfl rfl) hy h1
  refine wpOp_mono (fun a' w' h3=>⟨h3.2.1,ih (listed.setIfInBounds j true) a' w' (hdc.set hj) (fun k ok hk hki zcj hno=> ?_) za9 (fun hl=> ?_) (ready_mono hr (Ne.symm hji)) h3.1 ?_ ?_⟩) h2
  ·refine hfree k ok hk hki ?_ hno;by_cases hjk:j=k
   ·subst hjk;exact hjun
   rw [getD_set_ne true hjk]at zcj;exact zcj
  ·rcases hlj with h | ⟨h,_⟩
   ·exact h3.2.1 h
   rw [hl]at h;cases h
  ·rcases hlj with h | ⟨_,h⟩
   ·exact hCD _ (h3.2.1 h)
   exact h _
  rw [Array.setIfInBounds_comm _ _ hji];exact h3.2.2
def Hf (md:Region.Mode)(ops:Array Oper)(late:Nat→Bool)(listed:Array Bool)(i:Nat):Bool:=
 (List.range listed.size).all fun j=> !late j || listed.getD j true || kD md ops ops.size j i
def OL:Op→Bool
 | .move _=>true
 | _=>false
theorem WG {C:World→Prop}{o:Oper}{a:Act}{v:Value}(h:OL o.op=true){w₀:World}(h₀:C w₀)(hy:YieldsIn P ops C o v a):YieldsIn P ops (fun _=>True) o v a:=by
 rcases hy with⟨hw,hv⟩ | h'
 ·refine .inl ⟨hw,fun w _=> ?_⟩;have h1:=hv w₀ h₀;unfold OL at h;split at h
  ·rename_i x heq;unfold Oper.quietAt at *;have e:∀w,(execOp a.eval o).run P w= .ok (.value (a.eval x)) w:=fun w=>by unfold execOp;simp only [heq];rfl
   rw [e]at h1 ⊢;exact⟨rfl,h1.2⟩
  cases h
 exact .inr h'
def takeB (md:Region.Mode)(ops:Array Oper)(late:Nat→Bool)(bare:Bool):List Nat→Array Bool→Bool
 | [],_=>true
 | i::is,listed=>(Region.ready md ops listed).contains i&&Region.free md ops listed i&&((ops[i]?).map (looks ·.op)).getD false&&(if bare then late i else(late i&&((ops[i]?).map (OL ·.op)).getD false) || (!late i&&Hf md ops late listed i))&&
   takeB md ops late bare is (listed.setIfInBounds i true)
def bW (listed:Array Bool):List Nat→Array Bool
 | []=>listed
 | i::is=>bW (listed.setIfInBounds i true) is
def aJ (ops:Array Oper):List Nat→List Oper
 | []=> []
 | i::is=>match ops[i]? with
  | some o=>o::aJ ops is
  | none=>aJ ops is
def Ho (md:Region.Mode)(ops:Array Oper)(late:Nat→Bool)(fin:List Nat):Bool→List (List Nat × Nat)→Array Bool→Bool
 | bare,[],listed=>takeB md ops late bare fin listed&&(Region.ready md ops (bW listed fin)).isEmpty
 | bare,(qs,e)::rest,listed=>takeB md ops late bare qs listed&&(Region.ready md ops (bW listed qs)== [e])&&(!bare || late e)&&
   Ho md ops late fin (late e) rest ((bW listed qs).setIfInBounds e true)
def tX (fin:List Nat):List (List Nat × Nat)→Nat
 | []=>fin.length
 | (qs,_)::rest=>(tX fin rest+1)+qs.length
def aR (C:World→Prop)(bare:Bool):World→Prop:=if bare then fun _=>True else C
def aO (P:Program)(ops:Array Oper)(Q:Exit→Act→World→Prop)(C:World→Prop)(late:Nat→Bool)(fin:List Nat):Bool→List (List Nat × Nat)→Act→World→Prop
 | bare,[],a,w=>wpQuiet P ops (aR C bare) (fun a'=>Q .normal a' w) (aJ ops fin) a
 | bare,(qs,e)::rest,a,w=>wpQuiet P ops (aR C bare) (fun a'=>wpOp P ops Q e (fun a'' w''=>(late e=false→C w'')∧aO P ops Q C late fin (late e) rest a'' w'') a' w) (aJ ops qs) a
theorem gM (hs:Region.noSelect ops=true)(hQ:∀c (a:Act) w,¬Q (.panic c) a w){w:World}{R:Act→Prop}(bare:Bool)(fuel:Nat):∀(qs:List Nat) (listed:Array Bool) (a:Act),DC md ops listed→
  takeB md ops late bare qs listed=true→(bare=false→C w)→(DC md ops (bW listed qs)→∀a',R a'→wpAnyL P md ops Q C late fuel (bW listed qs) a' w)→wpQuiet P ops (aR C bare) R (aJ ops qs) a→wpAnyL P md ops Q C late (fuel+qs.length) listed a w
 | [],_,_,hd,_,_,hR,h=>hR hd _ h
 | i::is,listed,a,hd,hB,hC,hR,h=>by
  simp only [takeB,Bool.and_eq_true]at hB;obtain⟨⟨⟨⟨hr,hf⟩,hl⟩,hn⟩,hrest⟩:=hB;rcases hi:ops[i]? with _ | oi
  ·rw [hi]at hl;simp at hl
  rw [hi]at hl;simp only [aJ,hi]at h;have hst:qOp P ops (aR C bare) i (wpQuiet P ops (aR C bare) R (aJ ops is)) a:=by unfold qOp;simp only [hi];exact h
  obtain⟨v,hy,hK⟩:=yieldsIn_of_qOp hi hst;have next:=gM hs hQ bare fuel is _ _ (hd.set (by simpa using hr)) hrest hC hR hK
  cases bare with
  | true=>
   exact wpAnyL_first (D:=aR C true) hi (by simpa using hl) (Region.noSelect_spec hs) hQ (fun _ _=>trivial) (fuel+is.length) listed a w hd
    (fun j oj hoj hji hun hno=>Region.free_spec hi hf j oj hoj hji hun hno) (.inl ⟨by simpa using hn,fun _=>trivial⟩) (fun h=>by simp [h]at hn) (by simpa using hr) hy trivial next
  | false=>
   simp only [Bool.false_eq_true,if_false,Bool.or_eq_true,Bool.and_eq_true]at hn;rcases hn with⟨hn,hmv⟩ | hn
   ·rw [hi]at hmv;exact wpAnyL_first (D:=fun _=>True) hi (by simpa using hl) (Region.noSelect_spec hs) hQ (fun _ _=>trivial) (fuel+is.length) listed a w hd
     (fun j oj hoj hji hun hno=>Region.free_spec hi hf j oj hoj hji hun hno) (.inl ⟨hn,fun _=>trivial⟩) (fun h=>by simp [h]at hn) (by simpa using hr) (WG (by simpa using hmv) (hC rfl) hy) trivial next
   refine wpAnyL_first (D:=aR C false) hi (by simpa using hl) (Region.noSelect_spec hs) hQ (fun _ h=>h) (fuel+is.length) listed a w hd
    (fun j oj hoj hji hun hno=>Region.free_spec hi hf j oj hoj hji hun hno) (.inr fun j hlj=> ?_) (fun _=>hC rfl) (by simpa using hr) hy (hC rfl) next
   have hw:=hn.2;unfold Hf at hw;rcases Nat.lt_or_ge j listed.size with hj | hj
   ·have:=List.all_eq_true.1 hw j (List.mem_range.2 hj);simp only [hlj,Bool.not_true,Bool.false_or,Bool.or_eq_true]at this;exact this.imp id fun h=>⟨_,h⟩
   exact .inl (by simp [Array.getD,Nat.not_lt.2 hj])
theorem Cn (hs:Region.noSelect ops=true)(hQ:∀c (a:Act) w,¬Q (.panic c) a w)(fin:List Nat):∀(plan:List (List Nat × Nat)) (bare:Bool) (listed:Array Bool) (a:Act) (w:World),DC md ops listed→
  Ho md ops late fin bare plan listed=true→(bare=false→C w)→aO P ops Q C late fin bare plan a w→wpAnyL P md ops Q C late (tX fin plan) listed a w
 | [],bare,listed,a,w,hd,hB,hC,h=>by
  simp only [Ho,Bool.and_eq_true]at hB;have:=gM (md:=md) (late:=late) (C:=C) hs hQ (w:=w) (R:=fun a'=>Q .normal a' w) bare 0 fin listed a hd hB.1 hC (fun _ a' ha=>⟨by simpa using hB.2,ha⟩) h;simpa [tX]using this
 | (qs,e)::rest,bare,listed,a,w,hd,hB,hC,h=>by
  simp only [Ho,Bool.and_eq_true]at hB;obtain⟨⟨⟨h1,h2⟩,h3⟩,h4⟩:=hB;refine gM hs hQ bare (tX fin rest+1) qs listed a hd h1 hC (fun hd' a' ha=> ?_) h;have hre:Region.ready md ops (bW listed qs)= [e]:=by simpa using h2
  refine⟨fun h0=>(by rw [hre]at h0;cases h0),fun j hj=> ?_⟩;rw [hre]at hj;obtain rfl:j=e:=by simpa using hj
  exact wpOp_mono (fun a'' w'' ⟨g1,g2⟩=>⟨g1,Cn hs hQ fin rest _ _ a'' w'' (hd'.set (by rw [hre];exact List.mem_singleton.2 rfl)) h4 g1 g2⟩) ha
theorem EX {id:Nat}{l:List Oper}{a:Act}{w:World}{Q:Exit→Act→World→Prop}(C:World→Prop)(EY:List Nat)(plan:List (List Nat × Nat))(fin:List Nat)(hm:P.follows .mixedOrders=true)
  (hB:(Region.noSelect l.toArray&&Ho .any l.toArray (fun i=>EY.contains i) fin false plan (Array.replicate l.toArray.size false)&&(tX fin plan==l.toArray.size))=true) (hC:C w.drew)
  (h:aO P l.toArray (NoPanic Q) C (fun i=>EY.contains i) fin false plan a w.drew):(Code.region id l.toArray true).wp P Q a w:=by
 simp only [Bool.and_eq_true]at hB;refine wp_region_noPanic (wp_region_any hm (mR _ _ _ _ (C:=C) (late:=fun i=>EY.contains i) ?_));have:=Cn hB.1.1 (fun _ _ _ h=>h) fin plan false _ a w.drew (fun k ok e _ hl=>by simp [Array.getD]at hl) hB.1.2 (fun _=>hC) h;rw [show tX fin plan=l.toArray.size from by simpa using hB.2]at this;exact this
theorem aD {id:Nat}{l:List Oper}{a:Act}{w:World}{Q:Exit→Act→World→Prop}(F:World→Prop)(EY:List Nat)(plan:List (List Nat × Nat))(fin:List Nat)(hm:P.follows .mixedOrders=true)
  (hB:(Region.noSelect l.toArray&&Ho .any l.toArray (fun i=>EY.contains i) fin false plan (Array.replicate l.toArray.size false)&&(tX fin plan==l.toArray.size))=true) (hF:F w.drew)
  (h:∀(X:Type) (W:X→World),Nonempty X→(∀x,F (W x))→(∀w',F w'→∃x,w'=W x)→aO P l.toArray (NoPanic Q) (fun w'=>∃x,w'=W x) (fun i=>EY.contains i) fin false plan a w.drew):(Code.region id l.toArray true).wp P Q a w:=
 EX (fun w'=>∃x: {w':World // F w'},w'=x.1) EY plan fin hm hB ⟨⟨_,hF⟩,rfl⟩ (h _ _ ⟨⟨_,hF⟩⟩ (fun x=>x.2) fun w' hw=>⟨⟨w',hw⟩,rfl⟩)
theorem Y2 {e:Nat}{o:Oper}{K₀:Act→World→Prop}{a:Act}{w:World}(ho:ops[e]? =some o)(hg:o.guard=none)(h:∀K:Act→World→Prop,(∀a w,K₀ a w→K a w)→o.wp P a w K Q):wpOp P ops Q e K₀ a w:=by
 unfold wpOp;simp only [ho,Region.wanted,hg,if_true];exact .inl (h _ fun _ _ h=>h)
theorem ay {l:List Oper}{e:Nat}{o:Oper}{K₀:Act→World→Prop}{a:Act}{w:World}(ho:l[e]? =some o)(hg:o.guard=none)(h:∀K:Act→World→Prop,(∀a w,K₀ a w→K a w)→o.wp P a w K Q):wpOp P l.toArray Q e K₀ a w:=Y2 (by simpa using ho) hg h
end
section
variable {P:Program} {ops:Array Oper} {Q:Exit→Act→World→Prop} {C D₀:World→Prop}
variable {md:Region.Mode} {late:Nat→Bool}
end
inductive PT where
 | fin (qs:List Nat)
 | one (qs:List Nat) (e:Nat) (p:PT)
 | two (qs:List Nat) (e1:Nat) (p1:PT) (e2:Nat) (p2:PT)
section
variable {P:Program} {ops:Array Oper} {Q:Exit→Act→World→Prop} {C:World→Prop} {md:Region.Mode}
def Co (md:Region.Mode)(ops:Array Oper):PT→Array Bool→Bool
 | .fin qs,listed=>takeB md ops (fun _=>false) false qs listed&&(Region.ready md ops (bW listed qs)).isEmpty
 | .one qs e p,listed=>takeB md ops (fun _=>false) false qs listed&&(Region.ready md ops (bW listed qs)== [e])&&Co md ops p ((bW listed qs).setIfInBounds e true)
 | .two qs e1 p1 e2 p2,listed=>takeB md ops (fun _=>false) false qs listed&&(Region.ready md ops (bW listed qs)== [e1,e2])&&(Co md ops p1 ((bW listed qs).setIfInBounds e1 true)&&Co md ops p2 ((bW listed qs).setIfInBounds e2 true))
def Gc:PT→Nat
 | .fin qs=>qs.length
 | .one qs _ p=>Gc p+1+qs.length
 | .two qs _ p1 _ _=>Gc p1+1+qs.length
def Ht:PT→Bool
 | .fin _=>true
 | .one _ _ p=>Ht p
 | .two _ _ p1 _ p2=>Ht p1&&Ht p2&&Gc p1==Gc p2
def mQ (P:Program)(ops:Array Oper)(Q:Exit→Act→World→Prop)(C:World→Prop):PT→Act→World→Prop
 | .fin qs,a,w=>wpQuiet P ops (aR C false) (fun a'=>Q .normal a' w) (aJ ops qs) a
 | .one qs e p,a,w=>wpQuiet P ops (aR C false) (fun a'=>wpOp P ops Q e (fun a'' w''=>C w''∧mQ P ops Q C p a'' w'') a' w) (aJ ops qs) a
 | .two qs e1 p1 e2 p2,a,w=>wpQuiet P ops (aR C false) (fun a'=>wpOp P ops Q e1 (fun a'' w''=>C w''∧mQ P ops Q C p1 a'' w'') a' w∧wpOp P ops Q e2 (fun a'' w''=>C w''∧mQ P ops Q C p2 a'' w'') a' w) (aJ ops qs) a
theorem oJ (hs:Region.noSelect ops=true)(hQ:∀c (a:Act) w,¬Q (.panic c) a w):∀(p:PT) (listed:Array Bool) (a:Act) (w:World),DC md ops listed→
  Co md ops p listed=true→Ht p=true→C w→mQ P ops Q C p a w→wpAnyL P md ops Q C (fun _=>false) (Gc p) listed a w
 | .fin qs,listed,a,w,hd,hB,_,hC,h=>by
  simp only [Co,Bool.and_eq_true]at hB;have:=gM (md:=md) (late:=fun _=>false) (C:=C) hs hQ (w:=w) (R:=fun a'=>Q .normal a' w) false 0 qs listed a hd hB.1 (fun _=>hC) (fun _ a' ha=>⟨by simpa using hB.2,ha⟩) h;simpa [Gc]using this
 | .one qs e p,listed,a,w,hd,hB,hE,hC,h=>by
  simp only [Co,Bool.and_eq_true]at hB;obtain⟨⟨h1,h2⟩,h4⟩:=hB;refine gM hs hQ false (Gc p+1) qs listed a hd h1 (fun _=>hC) (fun hd' a' ha=> ?_) h;have hre:Region.ready md ops (bW listed qs)= [e]:=by simpa using h2
  refine⟨fun h0=>(by rw [hre]at h0;cases h0),fun j hj=> ?_⟩;rw [hre]at hj;obtain rfl:j=e:=by simpa using hj
  exact wpOp_mono (fun a'' w'' ⟨g1,g2⟩=>⟨fun _=>g1,oJ hs hQ p _ a'' w'' (hd'.set (by rw [hre];exact List.mem_singleton.2 rfl)) h4 hE g1 g2⟩) ha
 | .two qs e1 p1 e2 p2,listed,a,w,hd,hB,hE,hC,h=>by
  simp only [Co,Bool.and_eq_true]at hB;simp only [Ht,Bool.and_eq_true,beq_iff_eq]at hE;obtain⟨⟨h1,h2⟩,h4,h5⟩:=hB;obtain⟨⟨he1,he2⟩,hl⟩:=hE;refine gM hs hQ false (Gc p1+1) qs listed a hd h1 (fun _=>hC) (fun hd' a' ha=> ?_) h;have hre:Region.ready md ops (bW listed qs)= [e1,e2]:=by simpa using h2
  refine⟨fun h0=>(by rw [hre]at h0;cases h0),fun j hj=> ?_⟩;have hj':=hj;rw [hre]at hj;have hj2:j=e1∨j=e2:=by simpa using hj
  rcases hj2 with e | e
  ·rw [e]at hj' ⊢;exact wpOp_mono (fun a'' w'' ⟨g1,g2⟩=>⟨fun _=>g1,oJ hs hQ p1 _ a'' w'' (hd'.set hj') h4 he1 g1 g2⟩) ha.1
  rw [e]at hj' ⊢;exact wpOp_mono (fun a'' w'' ⟨g1,g2⟩=>⟨fun _=>g1,by rw [hl];exact oJ hs hQ p2 _ a'' w'' (hd'.set hj') h5 he2 g1 g2⟩) ha.2
theorem jB {id:Nat}{l:List Oper}{a:Act}{w:World}{Q:Exit→Act→World→Prop}(F:World→Prop)(p:PT)(hm:P.follows .mixedOrders=true)
  (hB:(Region.noSelect l.toArray&&Co .any l.toArray p (Array.replicate l.toArray.size false)&&Ht p&&(Gc p==l.toArray.size))=true) (hF:F w.drew)
  (h:∀(X:Type) (W:X→World),Nonempty X→(∀x,F (W x))→(∀w',F w'→∃x,w'=W x)→mQ P l.toArray (NoPanic Q) (fun w'=>∃x,w'=W x) p a w.drew):(Code.region id l.toArray true).wp P Q a w:=by
 have h':=h {w':World // F w'} (fun x=>x.1) ⟨⟨_,hF⟩⟩ (fun x=>x.2) fun w' hw=>⟨⟨w',hw⟩,rfl⟩;simp only [Bool.and_eq_true]at hB;refine wp_region_noPanic (wp_region_any hm (mR _ _ _ _ (C:=fun w'=>∃x: {w':World // F w'},w'=x.1) (late:=fun _=>false) ?_));have:=oJ hB.1.1.1 (fun _ _ _ h=>h) p _ a w.drew (fun k ok e _ hl=>by simp [Array.getD]at hl) hB.1.1.2 hB.1.2 ⟨⟨_,hF⟩,rfl⟩ h';rw [show Gc p=l.toArray.size from by simpa using hB.2]at this;exact this
end
section
variable {P:Program} {ops:Array Oper} {Q:Exit→Act→World→Prop}
theorem Ml {e:Nat}{o:Oper}{K₀:Act→World→Prop}{a:Act}{w:World}(ho:ops[e]? =some o)(hw:Region.wanted o (yielded ops a.tmps)=true)(h:∀K:Act→World→Prop,(∀a w,K₀ a w→K a w)→o.wp P a w K Q):wpOp P ops Q e K₀ a w:=by
 unfold wpOp;simp only [ho,hw,if_true];exact .inl (h _ fun _ _ h=>h)
theorem qw {l:List Oper}{e:Nat}{o:Oper}{K₀:Act→World→Prop}{a:Act}{w:World}(ho:l[e]? =some o)(hw:Region.wanted o (yielded l.toArray a.tmps)=true)(h:∀K:Act→World→Prop,(∀a w,K₀ a w→K a w)→o.wp P a w K Q):wpOp P l.toArray Q e K₀ a w:=Ml (by simpa using ho) hw h
theorem bR {e:Nat}{o:Oper}{K₀:Act→World→Prop}{a:Act}{w:World}(ho:ops[e]? =some o)(hw:Region.wanted o (yielded ops a.tmps)=false)(h:K₀ (a.put o.dst undef) w):wpOp P ops Q e K₀ a w:=by
 unfold wpOp;simp only [ho,hw,Bool.false_eq_true,if_false];exact h
end
open Go.ChangeShapes Go.WideShapes Go.RowKit
theorem zh {p:Prop}(h:p):Hid p:=Lib.hid h
theorem kp {p:Prop}(h:p:=by (repeat' (with_reducible first | assumption | exact HK.out | exact keR | refine keA ?_ | refine keS ?_ fun h=>absurd h om | refine keN ?_ | refine keD ?_))):p:=h
theorem kb {p:Prop}(h:p:=by (repeat(first | (with_reducible assumption) | (refine aP _ _ ?_;simp;done) | (refine aL.old ?_ _)))):p:=h
theorem kc {p:Prop}(h:p:=by (repeat(first | (refine aP _ _ ?_;simp;done) | (refine aL.old ?_ _)))):p:=h
theorem zl0 {α:Type _}{l:List α}{i:Nat}:l.toArray[i]? =l[i]?:=List.getElem?_toArray
theorem zl1 {α:Type _}{a:α}{l:List α}:(a::l)[0]? =some a:=List.getElem?_cons_zero
theorem zl2 {α:Type _}{a:α}{l:List α}{i:Nat}:(a::l)[i+1]? =l[i]?:=List.getElem?_cons_succ
theorem dX {α:Type _}{l:List α}{i:Nat}{a:α}:l.getD i a=l[i]?.getD a:=List.getD_eq_getElem?_getD
theorem fG {α:Type _}{l:List α}{i:Nat}(h:i<l.length):l[i]? =some l[i]:=List.getElem?_eq_getElem h
theorem dJ {a b c:Nat}(h:a<b)(k:b≤c):a<c:=Nat.lt_of_lt_of_le h k
theorem dQ {k:IntKind}{a b:Int}(h:a=b):Ending.returned (.int k a)= .returned (.int k b):=by rw [h]
theorem uY (x:Int)(h1:x<0)(h2: -9223372036854775808≤x):IntKind.u64.wrap (-IntKind.u64.wrap x)=(x.natAbs:Nat):=by
 simp only [IntKind.wrap,IntKind.bits,IntKind.signed];simp;omega
theorem Mq (x:Int)(w:World)(h2: -9223372036854775808≤x)(h3:x≤9223372036854775807):
  Calls Tryz.prog 123 #[.int .i64 x] w fun e w'=>e= .returned (.int .u64 (x.natAbs:Nat))∧w=w':=by
 by_cases h1:x<0
 ·go_enter Tryz.func123,Tryz.ntmps123;go_wp2;go_ret;exact⟨dQ (uY x h1 h2),rfl⟩
 go_enter Tryz.func123,Tryz.ntmps123;go_wp2;go_ret;exact⟨dQ om,rfl⟩
theorem Qo (a b:Nat)(w:World)(ha:a<18446744073709551616)(hb:b<18446744073709551616):
  Calls Tryz.prog 122 #[.int .u64 a,.int .u64 b] w fun e w'=>e= .returned (.int .u64 (Nat.gcd a b:Nat))∧∃n,w'=w.drewN n:=by
 go_enter Tryz.func122,Tryz.ntmps122;go_wp2;go_loopw [0,1] (fun x y wr=>∃p q:Nat,x= .int .u64 p∧y= .int .u64 q∧p<18446744073709551616∧q<18446744073709551616∧Nat.gcd p q=Nat.gcd a b∧∃n,wr=w.drewN n) (fun _ y _=>(intOf y).toNat)
 case atStart=>exact⟨a,b,rfl,rfl,ha,hb,rfl,0,rfl⟩
 obtain⟨p,q,rfl,rfl,hp,hq,hg,n,rfl⟩:=hrel;have Hg:=zh hg;clear hg;by_cases h0:q=0
 ·subst h0;go_wp2;go_ret;refine⟨dQ ?_,n,rfl⟩;have:=Hg.out;simp at this;rw [this]
 have hq0:((q:Int) != 0)=true:=by simp;omega
 have hm:p%q<q:=Nat.mod_lt _ om;go_wp2;go_quiet (fail);go_wp2;go_roundw
 case rel=>exact⟨q,p%q,rfl,sm,hq,om,by rw [← Hg.out,Nat.gcd_comm p q,Nat.gcd_rec q p,Nat.gcd_comm],n+nq,sm⟩
 simp [intOf];omega
def dW (n d:Int):Prop:=1≤d∧d≤1073741824∧ -1073741824≤n∧n≤1073741824∧Nat.gcd n.natAbs d.natAbs=1
instance (n d:Int):Decidable (dW n d):=by unfold dW;infer_instance
theorem aZ {p:Prop} [Decidable p] (h:¬p):decide p=false:=by simp [h]
theorem bL {p:Prop} [Decidable p] (h:p):decide p=true:=by simp [h]
theorem WH (n d:Int)(w:World)(h:dW n d):
  Calls Tryz.prog 88 #[.agg #[.int .i64 n,.int .i64 d]] w fun e w'=>e= .returned (.agg #[.int .i64 0,.int .i64 0])∧Below w.heap.size w w':=by
 obtain⟨h1,h2,h3,h4,h5⟩:=h;have H5:=zh h5;clear h5;have e1:decide (d<1)=false:=aZ om;have e2:decide (1073741824<d)=false:=aZ om;have e3:decide (n< -1073741824)=false:=aZ om;have e4:decide (1073741824<n)=false:=aZ om;go_enter Tryz.func88,Tryz.ntmps88;go_wp2;go_quiet (first | (go_at_call 123;exact Calls.quiet_of_same ((Mq _ _ om om).mono fun _ _ ⟨he,hw⟩=>⟨he,hw.symm⟩)) | (go_at_call 122;exact Calls.quiet_of (Qo _ _ _ om om)));rw [H5.out];go_wp2;go_returns;exact⟨rfl,by(repeat' (first | (with_reducible exact Below.refl _ _) | (with_reducible assumption) | (with_reducible refine Below.alloc ?_ ?_ _) | (with_reducible refine Below.setCell ?_ ?_ _) | (with_reducible refine below_drewN ?_ _) | (with_reducible refine Below.drew ?_) | go_size))⟩
theorem WI (n d:Int)(w:World)(h:¬dW n d):
  Calls Tryz.prog 88 #[.agg #[.int .i64 n,.int .i64 d]] w fun e w'=>e= .returned (.agg #[.int .i64 3,.int .i64 0])∧Below w.heap.size w w':=by
 by_cases h1:d<1
 ·have e1:decide (d<1)=true:=bL h1;clear h;go_enter Tryz.func88,Tryz.ntmps88;go_wp2;go_quiet (fail);go_wp2;go_returns;exact⟨rfl,by(repeat' (first | (with_reducible exact Below.refl _ _) | (with_reducible assumption) | (with_reducible refine Below.alloc ?_ ?_ _) | (with_reducible refine Below.setCell ?_ ?_ _) | (with_reducible refine below_drewN ?_ _) | (with_reducible refine Below.drew ?_) | go_size))⟩
 have e1:decide (d<1)=false:=aZ h1;by_cases h2:1073741824<d
 ·have e2:decide (1073741824<d)=true:=bL h2;clear h;go_enter Tryz.func88,Tryz.ntmps88;go_wp2;go_quiet (fail);go_wp2;go_returns;exact⟨rfl,by(repeat' (first | (with_reducible exact Below.refl _ _) | (with_reducible assumption) | (with_reducible refine Below.alloc ?_ ?_ _) | (with_reducible refine Below.setCell ?_ ?_ _) | (with_reducible refine below_drewN ?_ _) | (with_reducible refine Below.drew ?_) | go_size))⟩
 have e2:decide (1073741824<d)=false:=aZ h2;by_cases h3:n< -1073741824
 ·have e3:decide (n< -1073741824)=true:=bL h3;clear h;go_enter Tryz.func88,Tryz.ntmps88;go_wp2;go_quiet (fail);go_wp2;go_returns;exact⟨rfl,by(repeat' (first | (with_reducible exact Below.refl _ _) | (with_reducible assumption) | (with_reducible refine Below.alloc ?_ ?_ _) | (with_reducible refine Below.setCell ?_ ?_ _) | (with_reducible refine below_drewN ?_ _) | (with_reducible refine Below.drew ?_) | go_size))⟩
 have e3:decide (n< -1073741824)=false:=aZ h3;by_cases h4:1073741824<n
 ·have e4:decide (1073741824<n)=true:=bL h4;clear h;go_enter Tryz.func88,Tryz.ntmps88;go_wp2;go_quiet (fail);go_wp2;go_returns;exact⟨rfl,by(repeat' (first | (with_reducible exact Below.refl _ _) | (with_reducible assumption) | (with_reducible refine Below.alloc ?_ ?_ _) | (with_reducible refine Below.setCell ?_ ?_ _) | (with_reducible refine below_drewN ?_ _) | (with_reducible refine Below.drew ?_) | go_size))⟩
 have e4:decide (1073741824<n)=false:=aZ h4;have h5:((Nat.gcd n.natAbs d.natAbs:Nat):Int)≠1:=fun h5=>h ⟨om,om,om,om,om⟩;clear h;generalize hg:Nat.gcd n.natAbs d.natAbs=g at h5;have e5:((g:Int) != 1)=true:=by simpa using h5
 have Hg:=zh hg;clear hg h5;go_enter Tryz.func88,Tryz.ntmps88;go_wp2;go_quiet (first | (go_at_call 123;exact Calls.quiet_of_same ((Mq _ _ om om).mono fun _ _ ⟨he,hw⟩=>⟨he,hw.symm⟩)) | (go_at_call 122;exact Calls.quiet_of (Qo _ _ _ om om)));rw [Hg.out];go_wp2;go_returns;exact⟨rfl,by(repeat' (first | (with_reducible exact Below.refl _ _) | (with_reducible assumption) | (with_reducible refine Below.alloc ?_ ?_ _) | (with_reducible refine Below.setCell ?_ ?_ _) | (with_reducible refine below_drewN ?_ _) | (with_reducible refine Below.drew ?_) | go_size))⟩
def mA (num den:Int):Nat:=num.natAbs/Nat.gcd num.natAbs den.natAbs
def mB (num den:Int):Nat:=den.natAbs/Nat.gcd num.natAbs den.natAbs
def Z9 (num den:Int):Prop:=mA num den≤1073741824∧mB num den≤1073741824
instance (num den:Int):Decidable (Z9 num den):=by unfold Z9;infer_instance
def zaa (n d:Int):Value:= .agg #[.int .i64 n,.int .i64 d]
theorem wrap_u64 (n:Nat)(h:n<18446744073709551616):IntKind.u64.wrap (n:Int)=n:=by
 simp only [IntKind.wrap,IntKind.bits,IntKind.signed];simp;omega
theorem vM (a g:Nat)(ha:a<18446744073709551616):IntKind.u64.wrap ((a:Int)/(g:Int))=((a/g:Nat):Int):=by
 have h:=wrap_u64 (a/g) (Nat.lt_of_le_of_lt (Nat.div_le_self _ _) ha);rw [← h];congr 1
def dval:List Nat→Nat
 | []=>0
 | d::ds=>d+4294967296*dval ds
theorem jC (a b:List Nat):dval (a++b)=dval a+4294967296^a.length*dval b:=by
 induction a with
 | nil=>simp [dval]
 | cons d a ih=>simp only [List.cons_append,dval,ih,List.length_cons,Nat.pow_succ];rw [Nat.mul_add,Nat.add_assoc,←Nat.mul_assoc,Nat.mul_comm 4294967296 (4294967296^a.length)]
theorem kX (ds:List Nat)(h:∀d∈ds,d<4294967296):dval ds<4294967296^ds.length:=by
 induction ds with
 | nil=>simp [dval]
 | cons d ds ih=>
  have h1:=h d sm;have h2:=ih fun x hx=>h x (by simp [hx]);simp only [dval,List.length_cons,Nat.pow_succ];omega
theorem fI (ds:List Nat)(k:Nat)(h:k<ds.length):dval (ds.take (k+1))=dval (ds.take k)+4294967296^k*ds.getD k 0:=by
 rw [List.take_succ_eq_append_getElem h,jC];simp only [List.length_take,dval,Nat.mul_zero,Nat.add_zero];rw [Nat.min_eq_left om];congr 2;simp [List.getD,h]
def iQ (ds:List Nat):Prop:=ds= []∨ds.getD (ds.length-1) 0≠0
theorem kV (ds:List Nat)(h:iQ ds)(h0:ds≠ []):4294967296^(ds.length-1)≤dval ds:=by
 have hl:0<ds.length:=List.length_pos_iff.2 h0;have e:=fI ds (ds.length-1) om;rw [show ds.length-1+1=ds.length from om,List.take_length]at e;rcases h with h | h
 ·exact absurd h h0
 rw [e];have:4294967296^(ds.length-1)*1≤4294967296^(ds.length-1)*ds.getD (ds.length-1) 0:=Nat.mul_le_mul_left _ om;omega
def LEN:Nat:=65536
theorem WJ:LEN=65536:=rfl
attribute [irreducible] LEN
def BIG:Nat:=4294967296^LEN
theorem xV {n k:Nat}(hk:k≤65536)(h:n<4294967296^k):n<BIG:=dJ h (Nat.pow_le_pow_right om (by rw [WJ];exact hk))
theorem mE (ds:List Nat)(h:iQ ds)(hb:dval ds<BIG):ds.length≤65536:=by
 by_cases h0:ds= []
 ·subst h0;simp
 have h1:=kV ds h h0;have h2:4294967296^(ds.length-1)<4294967296^LEN:=Nat.lt_of_le_of_lt h1 hb;have h3:=(Nat.pow_lt_pow_iff_right (a:=4294967296) om).1 h2;rw [WJ]at h3;omega
attribute [irreducible] BIG
def iP (neg:Bool)(n:Nat):Int:=if neg then -(n:Int)else n
theorem xW (neg:Bool)(n:Nat):(iP neg n).natAbs=n:=by cases neg<;>simp [iP]
structure Keep (S:Nat→Nat→Prop)(w w':World):Prop where
 os:w'.os=w.os
 tape:w'.tape=w.tape
 output:w'.output=w.output
 size:w.heap.size≤w'.heap.size
 block:∀k,k<w.heap.size→(∀o,¬S k o)→w'.heap[k]? =w.heap[k]?
 cells:∀k c t fr,w.heap[k]? =some (.cells c t fr)→∃c',w'.heap[k]? =some (.cells c' t fr)∧c'.size=c.size∧∀i,¬S k i→c'[i]? =c[i]?
def au:Nat→Nat→Prop:=fun _ _=>False
def At (b o:Nat):Nat→Nat→Prop:=fun k i=>k=b∧(i=o∨i=o+1)
theorem lt_of_heap {w:World}{k:Nat}{o:Obj}(h:w.heap[k]? =some o):k<w.heap.size:=by
 rcases Nat.lt_or_ge k w.heap.size with h' | h'
 ·exact h'
 simp [Array.getElem?_eq_none h']at h
theorem Keep.refl (S:Nat→Nat→Prop)(w:World):Keep S w w:=⟨rfl,rfl,rfl,Nat.le_refl _,fun _ _ _=>rfl,fun _ c _ _ h=>⟨c,h,rfl,fun _ _=>rfl⟩⟩
theorem Keep.trans {S S':Nat→Nat→Prop}{a b c:World}(h:Keep S a b)(k:Keep S' b c)(hs:∀n o,n<a.heap.size→S' n o→S n o):Keep S a c:=by
 refine⟨k.os.trans h.os,k.tape.trans h.tape,k.output.trans h.output,Nat.le_trans h.size k.size,fun n hn hS=> ?_,fun n x t fr hx=> ?_⟩
 ·rw [k.block n (dJ hn h.size) (fun o ho=>hS o (hs n o hn ho)),h.block n hn hS]
 obtain⟨x1,h1,s1,e1⟩:=h.cells n x t fr hx;obtain⟨x2,h2,s2,e2⟩:=k.cells n x1 t fr h1;exact⟨x2,h2,s2.trans s1,fun i hi=>(e2 i fun h'=>hi (hs n i (lt_of_heap hx) h')).trans (e1 i hi)⟩
theorem Keep.mono {S S':Nat→Nat→Prop}{a b:World}(h:Keep S a b)(hs:∀n o,n<a.heap.size→S n o→S' n o):Keep S' a b:=by
 refine⟨h.os,h.tape,h.output,h.size,fun n hn hS=>h.block n hn fun o ho=>hS o (hs n o hn ho),fun n x t fr hx=> ?_⟩;obtain⟨x1,h1,s1,e1⟩:=h.cells n x t fr hx;exact⟨x1,h1,s1,fun i hi=>e1 i fun h'=>hi (hs n i (lt_of_heap hx) h')⟩
theorem Keep.any {S:Nat→Nat→Prop}{w w':World}(h:Keep au w w'):Keep S w w':=h.mono fun _ _ _ h=>h.elim
theorem Keep.of_below {w w':World}{B:Nat}(h:Below B w w')(hB:w.heap.size≤B):Keep au w w':=
 ⟨h.os,h.tape,h.output,h.size,fun k hk _=>h.block k om,fun k c t fr hk=>⟨c,by rw [h.block k (by have:=lt_of_heap hk;omega)];exact hk,rfl,fun _ _=>rfl⟩⟩
theorem Keep.below {S:Nat→Nat→Prop}{w w':World}(h:Keep S w w'){B:Nat}(hB:B≤w.heap.size)(hS:∀n o,S n o→B≤n):Below B w w':=
 ⟨h.os,h.tape,h.output,h.size,fun k hk=>h.block k om fun o ho=>by have:=hS k o ho;omega⟩
theorem heap_alloc_old (w:World)(o:Obj)(k:Nat)(h:k<w.heap.size):(w.alloc o).heap[k]? =w.heap[k]? :=Below.heap_alloc w o k h
theorem aX (w:World)(o:Obj)(k:Nat)(h:k=w.heap.size):(w.alloc o).heap[k]? =some o:=by
 subst h;show(w.heap.push o)[w.heap.size]? =some o;simp
theorem heap_setCell_other (w:World)(a:Addr)(u:Value)(k:Nat)(h:k≠a.block):(w.setCell a u).heap[k]? =w.heap[k]? :=Below.heap_setCell w a u k h
theorem heap_setCell_same {w:World}{b:Nat}{c:Array Value}{t:TypeId}{fr:Nat × Nat}(o:Nat)(u:Value)(h:w.heap[b]? =some (.cells c t fr)):(w.setCell ⟨b,o,none⟩ u).heap[b]? =some (.cells (c.setIfInBounds o u) t fr):=by
 have hlt:=lt_of_heap h;have h':w.heap[b]= .cells c t fr:=by simpa [Array.getElem?_eq_getElem hlt]using h
 show(w.heap.modify b _)[b]? =_;rw [Array.getElem?_eq_getElem (by simpa using hlt),Array.getElem_modify_self,h'];rfl
theorem Keep.drewN {S:Nat→Nat→Prop}{a w:World}(h:Keep S a w)(n:Nat):Keep S a (w.drewN n):=h.trans (S':=S) ⟨rfl,rfl,rfl,Nat.le_refl _,fun _ _ _=>rfl,fun _ c _ _ h=>⟨c,h,rfl,fun _ _=>rfl⟩⟩ fun _ _ _ h=>h
theorem Keep.drew {S:Nat→Nat→Prop}{a w:World}(h:Keep S a w):Keep S a w.drew:=h.trans (S':=S) ⟨rfl,rfl,rfl,Nat.le_refl _,fun _ _ _=>rfl,fun _ c _ _ h=>⟨c,h,rfl,fun _ _=>rfl⟩⟩ fun _ _ _ h=>h
theorem Keep.alloc {S:Nat→Nat→Prop}{a w:World}(h:Keep S a w)(o:Obj):Keep S a (w.alloc o):=
 h.trans (S':=au) (Keep.of_below ((Below.refl w.heap.size w).alloc (Nat.le_refl _) o) (Nat.le_refl _)) fun _ _ _ h=>h.elim
theorem Jp (w:World)(b o:Nat)(u:Value):Keep (fun k i=>k=b∧i=o) w (w.setCell ⟨b,o,none⟩ u):=by
 refine⟨rfl,rfl,rfl,sm,fun k hk hS=> ?_,fun k c t fr hk=> ?_⟩
 ·by_cases hkb:k=b
  ·exact absurd ⟨hkb,rfl⟩ (hS o)
  exact heap_setCell_other _ _ _ _ hkb
 by_cases hkb:k=b
 ·subst hkb;exact⟨_,heap_setCell_same o u hk,sm,fun i hi=>by rw [Array.getElem?_setIfInBounds,if_neg];exact fun e=>hi ⟨rfl,e.symm⟩⟩
 exact⟨c,by rw [heap_setCell_other _ _ _ _ hkb];exact hk,rfl,fun _ _=>rfl⟩
theorem Keep.setCell {S:Nat→Nat→Prop}{a w:World}(h:Keep S a w){b o:Nat}(u:Value)(hs:b<a.heap.size→S b o):Keep S a (w.setCell ⟨b,o,none⟩ u):=
 h.trans (Jp w b o u) fun n i hn ⟨h1,h2⟩=>by subst h1 h2;exact hs hn
theorem keR {S:Nat→Nat→Prop}{w:World}:Keep S w w:=Keep.refl S w
theorem keA {S:Nat→Nat→Prop}{a w:World}{o:Obj}(h:Keep S a w):Keep S a (w.alloc o):=h.alloc o
theorem keS {S:Nat→Nat→Prop}{a w:World}{b o:Nat}{u:Value}(h:Keep S a w)(hs:b<a.heap.size→S b o):Keep S a (w.setCell ⟨b,o,none⟩ u):=h.setCell u hs
theorem keN {S:Nat→Nat→Prop}{a w:World}{n:Nat}(h:Keep S a w):Keep S a (w.drewN n):=h.drewN n
theorem keD {S:Nat→Nat→Prop}{a w:World}(h:Keep S a w):Keep S a w.drew:=h.drew
abbrev Ec:TypeId:=166
def bQ (w:World)(b o:Nat):Prop:=∃(c:Array Value) (t:TypeId),w.heap[b]? =some (.cells c t (0,0))∧t≠Ec∧o+1<c.size∧(∃neg,c[o]? =some (.bool neg))∧∃a n m,c[o+1]? =some (.slice a n m)
def eF (w:World)(v:Value)(ds:List Nat):Prop:=
 ∃(g cap:Nat) (c:Array Value) (fr:Nat × Nat),v= .slice (some ⟨g,0,none⟩) ds.length cap∧w.heap[g]? =some (.cells c Ec fr)∧ds.length≤cap∧cap≤maxLen∧
  (∀i,i<ds.length→c[i]? =some (.int .u32 (ds.getD i 0:Nat)))∧∀d∈ds,d<4294967296
def jy (w:World)(b o:Nat)(neg:Bool)(ds:List Nat):Prop:=
 ∃(c:Array Value) (t:TypeId) (v:Value),w.heap[b]? =some (.cells c t (0,0))∧t≠Ec∧c[o]? =some (.bool neg)∧c[o+1]? =some v∧eF w v ds
def bC (w:World)(b o:Nat)(z:Int):Prop:=∃neg ds,jy w b o neg ds∧iQ ds∧(neg=true→ds≠ [])∧z=iP neg (dval ds)
theorem eF.keep {S:Nat→Nat→Prop}{w w':World}{v:Value}{ds:List Nat}(h:eF w v ds)(k:Keep S w w')(hS:∀n o c fr,S n o→w.heap[n]? ≠some (.cells c Ec fr)):eF w' v ds:=by
 obtain⟨g,cap,c,fr,hv,hg,h1,h2,h3,h4⟩:=h;obtain⟨c',hg',hs,he⟩:=k.cells g c Ec fr hg;exact⟨g,cap,c',fr,hv,hg',h1,h2,fun i hi=>by rw [he i fun hh=>hS _ _ _ _ hh hg];exact h3 i hi,h4⟩
def Off (w:World)(S:Nat→Nat→Prop)(b o:Nat):Prop:=(∀n i c fr,S n i→w.heap[n]? ≠some (.cells c Ec fr))∧¬S b o∧¬S b (o+1)
theorem jy.keep {S:Nat→Nat→Prop}{w w':World}{b o:Nat}{neg:Bool}{ds:List Nat}(h:jy w b o neg ds)(k:Keep S w w')(hS:Off w S b o):jy w' b o neg ds:=by
 obtain⟨c,t,v,hb,ht,h0,h1,hd⟩:=h;obtain⟨c',hb',hs,he⟩:=k.cells b c t _ hb;exact⟨c',t,v,hb',ht,by rw [he o hS.2.1];exact h0,by rw [he (o+1) hS.2.2];exact h1,hd.keep k fun n o c fr h=>hS.1 n o c fr h⟩
theorem bC.keep {S:Nat→Nat→Prop}{w w':World}{b o:Nat}{z:Int}(h:bC w b o z)(k:Keep S w w')(hS:Off w S b o):bC w' b o z:=by
 obtain⟨neg,ds,hr,h1⟩:=h;exact⟨neg,ds,hr.keep k hS,h1⟩
theorem Off.noS (w:World)(b o:Nat):Off w au b o:=⟨fun _ _ _ _ h=>h.elim,id,id⟩
theorem bQ.off {w:World}{b o:Nat}(h:bQ w b o){b' o':Nat}(hne:b'≠b∨o'+1<o∨o+1<o'):Off w (At b o) b' o':=by
 obtain⟨c,t,hb,ht,_⟩:=h;refine⟨fun n i c' fr ⟨h1,h2⟩ h3=> ?_,fun⟨h1,h2⟩=> ?_,fun⟨h1,h2⟩=> ?_⟩
 ·subst h1;rw [hb]at h3;simp at h3;exact ht h3.2.1
 ·omega
 omega
theorem jy.hdr {w:World}{b o:Nat}{neg:Bool}{ds:List Nat}(h:jy w b o neg ds):bQ w b o:=by
 obtain⟨c,t,v,hb,ht,h0,h1,g,cap,_,_,hv,_⟩:=h;refine⟨c,t,hb,ht,?_,⟨neg,h0⟩,⟨_,_,_,hv ▸ h1⟩⟩;rcases Nat.lt_or_ge (o+1) c.size with h' | h'
 ·exact h'
 simp [Array.getElem?_eq_none h']at h1
theorem bC.hdr {w:World}{b o:Nat}{z:Int}(h:bC w b o z):bQ w b o:=by obtain⟨_,_,hr,_⟩:=h;exact hr.hdr
theorem bQ.keep {S:Nat→Nat→Prop}{w w':World}{b o:Nat}(h:bQ w b o)(k:Keep S w w')(hS:Off w S b o):bQ w' b o:=by
 obtain⟨c,t,hb,ht,hs,⟨neg,h0⟩,a,n,m,h1⟩:=h;obtain⟨c',hb',hs',he⟩:=k.cells b c t _ hb;exact⟨c',t,hb',ht,om,⟨neg,by rw [he o hS.2.1];exact h0⟩,a,n,m,by rw [he (o+1) hS.2.2];exact h1⟩
theorem bC.lt {w:World}{b o:Nat}{z:Int}(h:bC w b o z):b<w.heap.size:=by
 obtain⟨_,_,⟨c,t,v,hb,_⟩,_⟩:=h;exact lt_of_heap hb
theorem bQ.lt {w:World}{b o:Nat}(h:bQ w b o):b<w.heap.size:=by obtain⟨c,t,hb,_⟩:=h;exact lt_of_heap hb
theorem cell_of_heap {w:World}{b o:Nat}{c:Array Value}{t:TypeId}{fr:Nat × Nat}{v:Value}(h:w.heap[b]? =some (.cells c t fr))(ho:c[o]? =some v):w.cell? ⟨b,o,none⟩=some v:=by
 simp [World.cell?,h,ho]
theorem kQ {w:World}{b o:Nat}{c:Array Value}{t:TypeId}(h:w.heap[b]? =some (.cells c t (0,0))):w.frozen? ⟨b,o,none⟩=false:=by
 simp [World.frozen?,h]
theorem mq {ds:List Nat}{i:Nat}(h:i<ds.length):ds.getD i 0=ds[i]:=by simp [List.getD,h]
theorem jy.open {w:World}{b o:Nat}{neg:Bool}{ds:List Nat}(h:jy w b o neg ds):
  ∃g cap,w.cell? ⟨b,o,none⟩=some (.bool neg)∧w.cell? ⟨b,o+1,none⟩=some (.slice (some ⟨g,0,none⟩) ds.length cap)∧ds.length≤cap∧cap≤maxLen∧b<w.heap.size∧g<w.heap.size∧g≠b∧
   w.frozen? ⟨b,o,none⟩=false∧w.frozen? ⟨b,o+1,none⟩=false∧(∀i,i<ds.length→w.cell? ⟨g,i,none⟩=some (.int .u32 (ds.getD i 0:Nat))∧ds.getD i 0<4294967296):=by
 obtain⟨c,t,v,hb,ht,h0,h1,g,cap,cg,fr,hv,hg,hl,hm,hc,hd⟩:=h;subst hv;refine⟨g,cap,cell_of_heap hb h0,cell_of_heap hb h1,hl,hm,lt_of_heap hb,lt_of_heap hg,?_,kQ hb,kQ hb,fun i hi=>⟨cell_of_heap hg (hc i hi),?_⟩⟩
 ·intro e;subst e;rw [hb]at hg;simp at hg;exact ht hg.2.1
 rw [mq hi];exact hd _ (List.getElem_mem hi)
theorem Y3 {w:World}{b o:Nat}{neg:Bool}{ds:List Nat}(h:jy w b o neg ds){g cap:Nat}(hs:w.cell? ⟨b,o+1,none⟩=some (.slice (some ⟨g,0,none⟩) ds.length cap))(n:Nat)(hn:n≤ds.length):
  jy (w.setCell ⟨b,o+1,none⟩ (.slice (some ⟨g,0,none⟩) n cap)) b o neg (ds.take n):=by
 obtain⟨c,t,v,hb,ht,h0,h1,g',cap',cg,fr,hv,hg,hl,hm,hc,hd⟩:=h;subst hv;rw [cell_of_heap hb h1]at hs;simp at hs;obtain⟨rfl,rfl⟩:=hs;have hgb:g'≠b:=by intro e;subst e;rw [hb]at hg;simp at hg;exact ht hg.2.1
 have hsz:o+1<c.size:=by
  rcases Nat.lt_or_ge (o+1) c.size with h' | h'
  ·exact h'
  simp [Array.getElem?_eq_none h']at h1
 refine⟨_,t,.slice (some ⟨g',0,none⟩) n cap',heap_setCell_same (o+1) _ hb,ht,?_,?_,g',cap',cg,fr,by simp [Nat.min_eq_left hn],?_,?_,hm,?_,?_⟩
 ·rw [Array.getElem?_setIfInBounds,if_neg om];exact h0
 ·rw [Array.getElem?_setIfInBounds,if_pos rfl,if_pos hsz]
 ·rw [heap_setCell_other _ _ _ _ hgb];exact hg
 ·simp;omega
 ·intro i hi;simp at hi;rw [hc i om];simp [List.getD,show i<n from om]
 intro d hd';exact hd d (List.mem_of_mem_take hd')
theorem DL {w:World}{b o:Nat}{neg:Bool}{ds:List Nat}(h:jy w b o neg ds)(dN:Bool):jy (w.setCell ⟨b,o,none⟩ (.bool dN)) b o dN ds:=by
 obtain⟨c,t,v,hb,ht,h0,h1,g',cap',cg,fr,hv,hg,hl,hm,hc,hd⟩:=h;have hgb:g'≠b:=by intro e;subst e;rw [hb]at hg;simp at hg;exact ht hg.2.1
 have hsz:o<c.size:=by
  rcases Nat.lt_or_ge o c.size with h' | h'
  ·exact h'
  simp [Array.getElem?_eq_none h']at h0
 refine⟨_,t,v,heap_setCell_same o _ hb,ht,?_,?_,g',cap',cg,fr,hv,?_,hl,hm,hc,hd⟩
 ·rw [Array.getElem?_setIfInBounds,if_pos rfl,if_pos hsz]
 ·rw [Array.getElem?_setIfInBounds,if_neg om];exact h1
 rw [heap_setCell_other _ _ _ _ hgb];exact hg
theorem wT (b o:Nat):At b o b o:=⟨rfl,.inl rfl⟩
theorem FV (b o:Nat):At b o b (o+1):=⟨rfl,.inr rfl⟩
theorem Mr {w:World}{b o:Nat}{neg:Bool}{ds:List Nat}(h:jy w b o neg ds){g cap:Nat}(hs:w.cell? ⟨b,o+1,none⟩=some (.slice (some ⟨g,0,none⟩) ds.length cap))(k:Nat)(hk:k≤ds.length)
  (hv:dval (ds.take k)=dval ds) (hk0:k=0∨ds.getD (k-1) 0≠0) (dN:Bool) (hn:dN=neg∨k=0) (hn':dN=true→k≠0) (w':World)
  (hw:w'=(w.setCell ⟨b,o+1,none⟩ (.slice (some ⟨g,0,none⟩) k cap))∧dN=neg∨w'=(w.setCell ⟨b,o+1,none⟩ (.slice (some ⟨g,0,none⟩) k cap)).setCell ⟨b,o,none⟩ (.bool dN)):
  Keep (At b o) w w'∧bC w' b o (iP neg (dval ds)):=by
 have h1:=Y3 h hs k hk;have k1:Keep (At b o) w (w.setCell ⟨b,o+1,none⟩ (.slice (some ⟨g,0,none⟩) k cap)):=(Keep.refl _ _).setCell _ fun _=>FV b o;have hz:iP neg (dval ds)=iP dN (dval (ds.take k)):=by
  rw [hv];rcases hn with rfl | rfl
  ·rfl
  have:dval ds=0:=by rw [← hv];simp [dval]
  rw [this];cases neg<;>cases dN<;>rfl
 have hne:iQ (ds.take k):=by
  by_cases hk1:k=0
  ·left;simp [hk1]
  right;simp only [List.length_take,Nat.min_eq_left hk];rcases hk0 with h0 | h0
  ·exact absurd h0 hk1
  simpa [List.getD,show k-1<k from om]using h0
 have hnt:dN=true→ds.take k≠ []:=fun e h0=>by
  have:=hn' e;have h2:(ds.take k).length=0:=by rw [h0];rfl
  rw [List.length_take,Nat.min_eq_left hk]at h2;exact this h2
 rcases hw with⟨rfl,rfl⟩ | rfl
 ·exact ⟨k1,_,_,h1,hne,hnt,hz⟩
 exact⟨k1.setCell _ fun _=>wT b o,_,_,DL h1 dN,hne,hnt,hz⟩
theorem kR (w:World)(b o:Nat)(neg:Bool)(ds:List Nat)(h:jy w b o neg ds):
  Calls Tryz.prog 133 #[.pointer (some ⟨b,o,none⟩)] w fun e w'=>e= .returned (.pointer (some ⟨b,o,none⟩))∧Keep (At b o) w w'∧bC w' b o (iP neg (dval ds)):=by
 obtain⟨g,cap,hc0,hc1,hlc,hcm,hb,hg,hgb,hf0,hf1,hdig⟩:=h.open;unfold maxLen at hcm;have HD:=zh hdig;clear hdig;have H:=zh h;clear h;go_enter Tryz.func133,Tryz.ntmps133;go_wp2;go_loop [3] (fun n=>∃k:Nat,k≤ds.length∧n= .int .i64 k∧dval (ds.take k)=dval ds) (fun n=>(intOf n).toNat)
 case atStart=>exact⟨ds.length,Nat.le_refl _,rfl,sm⟩
 obtain⟨k,hk,rfl,hv⟩:=hrel;have Hv:=zh hv;clear hv;by_cases hk0:k=0
 ·subst hk0;go_wp2;go_returns;exact⟨rfl,Mr H.out hc1 0 (Nat.zero_le _) Hv.out (.inl rfl) false (.inr rfl) sm _ (.inr rfl)⟩
 have hlt:k-1<ds.length:=om;obtain⟨q1,q2⟩:=HD.out (k-1) hlt;have e0:decide ((0:Int)<(k:Int))=true:=bL om;have e1:((k:Int)==0)=false:=by simp;omega
 generalize hx:ds.getD (k-1) 0=x at q1 q2;have Hx:=zh hx;clear hx;by_cases hx0:x=0
 ·subst hx0;go_wp2;go_round
  case rel=>
   refine⟨k-1,om,gn,?_⟩;have:=fI ds (k-1) hlt;rw [show k-1+1=k from om,Hx.out,Hv.out]at this;simpa using this.symm
  simp [intOf];omega
 have e2:((x:Int)==0)=false:=by simp;omega
 go_wp2;go_returns;exact⟨rfl,Mr H.out hc1 k hk Hv.out (.inr (by rw [Hx.out];exact hx0)) neg (.inl rfl) (fun _=>hk0) _ (.inl ⟨rfl,rfl⟩)⟩
theorem pI {w:World}{b o:Nat}(h:bQ w b o)(neg:Bool){v:Value}{ds:List Nat}(hd:eF w v ds):
  jy ((w.setCell ⟨b,o,none⟩ (.bool neg)).setCell ⟨b,o+1,none⟩ v) b o neg ds:=by
 obtain⟨c,t,hb,ht,hsz,_⟩:=h;obtain⟨g',cap',cg,fr,hv,hg,hl,hm,hc,hd⟩:=hd;have hgb:g'≠b:=by intro e;subst e;rw [hb]at hg;simp at hg;exact ht hg.2.1
 have h1:=heap_setCell_same (w:=w) o (.bool neg) hb;refine⟨_,t,v,heap_setCell_same (o+1) v h1,ht,?_,?_,g',cap',cg,fr,hv,?_,hl,hm,hc,hd⟩
 ·rw [Array.getElem?_setIfInBounds,if_neg om,Array.getElem?_setIfInBounds,if_pos rfl,if_pos om]
 ·rw [Array.getElem?_setIfInBounds,if_pos rfl,if_pos (by simp;omega)]
 rw [heap_setCell_other _ _ _ _ hgb,heap_setCell_other _ _ _ _ hgb];exact hg
theorem bQ.open {w:World}{b o:Nat}(h:bQ w b o):∃neg a n m,w.cell? ⟨b,o,none⟩=some (.bool neg)∧w.cell? ⟨b,o+1,none⟩=some (.slice a n m)∧w.frozen? ⟨b,o,none⟩=false∧w.frozen? ⟨b,o+1,none⟩=false∧b<w.heap.size:=by
 obtain⟨c,t,hb,ht,hsz,⟨neg,h0⟩,a,n,m,h1⟩:=h;exact⟨neg,a,n,m,cell_of_heap hb h0,cell_of_heap hb h1,kQ hb,kQ hb,lt_of_heap hb⟩
theorem Pt (w:World)(ds:List Nat)(hl:ds.length≤maxLen)(hd:∀d∈ds,d<4294967296):
  eF (w.alloc (.cells (ds.map fun d=>Value.int .u32 (d:Nat)).toArray Ec)) (.slice (some ⟨w.heap.size,0,none⟩) ds.length ds.length) ds:=
 ⟨w.heap.size,ds.length,_,(0,0),rfl,aX _ _ _ rfl,Nat.le_refl _,hl,fun i hi=>by simp [List.getD,hi],hd⟩
theorem Qp {w:World}{b o:Nat}(h:bQ w b o)(neg:Bool)(ds:List Nat)(cs:Array Value)(n:Nat)(hn:n=ds.length)(hcs:cs=(ds.map fun d=>Value.int .u32 (d:Nat)).toArray)(hl:ds.length≤maxLen)(hd:∀d∈ds,d<4294967296):
  jy (((w.setCell ⟨b,o,none⟩ (.bool neg)).setCell ⟨b,o+1,none⟩ (.slice (some ⟨w.heap.size,0,none⟩) n n)).alloc (.cells cs Ec)) b o neg ds:=by
 subst hn hcs;obtain⟨c,t,hb,ht,hsz,_⟩:=h;have h1:=heap_setCell_same (w:=w) o (.bool neg) hb;have h2:=heap_setCell_same (o+1) (.slice (some ⟨w.heap.size,0,none⟩) ds.length ds.length) h1;refine⟨_,t,_,(heap_alloc_old _ _ _ (lt_of_heap h2)).trans h2,ht,?_,?_,w.heap.size,ds.length,_,(0,0),rfl,aX _ _ _ sm,Nat.le_refl _,hl,fun i hi=>by simp [List.getD,hi],hd⟩
 ·rw [Array.getElem?_setIfInBounds,if_neg om,Array.getElem?_setIfInBounds,if_pos rfl,if_pos om]
 rw [Array.getElem?_setIfInBounds,if_pos rfl,if_pos (by simp;omega)]
theorem ji (w:World)(b o n:Nat)(h:bQ w b o)(hn:n<18446744073709551616):
  Calls Tryz.prog 103 #[.pointer (some ⟨b,o,none⟩),.int .u64 n] w fun e w'=>e= .returned (.pointer (some ⟨b,o,none⟩))∧Keep (At b o) w w'∧bC w' b o n:=by
 obtain⟨neg,a,m1,m2,hc0,hc1,hf0,hf1,hb⟩:=h.open;have H:=zh h;clear h;have hz:iP false (dval [n%4294967296,n/4294967296])=(n:Int):=by simp [iP,dval];omega
 have Hz:=zh hz;clear hz;go_enter Tryz.func103,Tryz.ntmps103;go_wp2_with fail;refine(kR _ b o false [n%4294967296,n/4294967296] (Qp H.out false [n%4294967296,n/4294967296] _ 2 rfl sm (by simp [maxLen]) (by simp;omega))).mono ?_;rintro e w1 ⟨rfl,hk,hi⟩;go_wp2;go_returns;refine⟨rfl,?_,?_⟩
 ·exact ((((Keep.refl _ _).setCell _ fun _=>wT b o).setCell _ fun _=>FV b o).alloc _).trans hk fun _ _ _ h=>h
 rw [Hz.out]at hi;exact hi
theorem OM (n:Int)(h1: -9223372036854775808≤n)(h2:n<0):IntKind.u64.wrap (-IntKind.u64.wrap n)=(n.natAbs:Nat):=uY n h2 h1
theorem Hu (ds:List Nat)(h:iQ ds)(h0:dval ds=0):ds= []:=by
 by_cases he:ds= []
 ·exact he
 have:=kV ds h he;have:=Nat.pow_pos (n:=ds.length-1) (show 0<4294967296 from om);omega
theorem WK {neg:Bool}{ds:List Nat}(h:iQ ds)(hn:neg=true→ds≠ []):iP neg (dval ds)=0↔ds= []:=by
 constructor
 ·intro h0;have:=xW neg (dval ds);rw [h0]at this;exact Hu ds h this.symm
 rintro rfl;cases neg<;>simp [iP,dval]
theorem bC.open {w:World}{b o:Nat}{z:Int}(h:bC w b o z):∃neg ds,jy w b o neg ds∧iQ ds∧(neg=true→ds≠ [])∧z=iP neg (dval ds)∧(neg=true↔z<0)∧(ds= []↔z=0)∧dval ds=z.natAbs:=by
 obtain⟨neg,ds,hr,hn,hne,rfl⟩:=h;refine⟨neg,ds,hr,hn,hne,rfl,?_,(WK hn hne).symm,(xW _ _).symm⟩;constructor
 ·intro e;have:dval ds≠0:=fun h0=>hne e (Hu ds hn h0);subst e;simp [iP];omega
 intro h0;cases neg
 ·simp [iP]at h0;omega
 rfl
theorem tY {w:World}{b o:Nat}{z:Int}(h:bC w b o z)(z':Int)(dN:Bool)(hz:z'.natAbs=z.natAbs)(hn:dN=decide (z'<0)):bC (w.setCell ⟨b,o,none⟩ (.bool dN)) b o z':=by
 obtain⟨neg,ds,hr,hne,hn0,hz0,h1,h2,h3⟩:=h.open;refine⟨dN,ds,DL hr dN,hne,fun e h0=> ?_,?_⟩
 ·have:=h2.1 h0;subst hn;simp at e;omega
 rw [h3,←hz];subst hn;by_cases h0:z'<0<;>simp [iP,h0]<;>omega
theorem tZ (w:World)(b o:Nat)(n:Int)(h:bQ w b o)(h1: -9223372036854775808≤n)(h2:n≤9223372036854775807):
  Calls Tryz.prog 106 #[.pointer (some ⟨b,o,none⟩),.int .i64 n] w fun e w'=>e= .returned (.pointer (some ⟨b,o,none⟩))∧Keep (At b o) w w'∧bC w' b o n:=by
 have H:=zh h;clear h;by_cases hn:n<0
 ·have e1:=OM n h1 hn;have E1:=zh e1;clear e1;go_enter Tryz.func106,Tryz.ntmps106;go_wp2_with fail;rw [E1.out];refine(ji _ b o n.natAbs H.out om).mono ?_;rintro e w1 ⟨rfl,hk,hi⟩;obtain⟨neg,a,m1,m2,hc0,hc1,hf0,hf1,hb⟩:=hi.hdr.open;have Hi:=zh hi;clear hi;have Hk:=zh hk;clear hk;go_wp2;go_returns;exact⟨rfl,Hk.out.setCell _ fun _=>wT b o,tY Hi.out n true om (by simp [hn])⟩
 obtain⟨m,rfl⟩:∃m:Nat,n=m:=⟨n.toNat,om⟩;go_enter Tryz.func106,Tryz.ntmps106;go_wp2_with fail;refine(ji _ b o m H.out om).mono ?_;rintro e w1 ⟨rfl,hk,hi⟩;go_wp2;go_returns;exact⟨rfl,hk,hi⟩
theorem dY (w:World):bQ (w.alloc (.cells #[.bool false,.slice none 0 0] 125)) w.heap.size 0:=
 ⟨_,_,aX _ _ _ rfl,dc,sm,⟨false,sm⟩,none,0,0,sm⟩
theorem fO (w:World)(n:Int)(h1: -9223372036854775808≤n)(h2:n≤9223372036854775807):
  Calls Tryz.prog 65 #[.int .i64 n] w fun e w'=>∃b,w.heap.size≤b∧e= .returned (.pointer (some ⟨b,0,none⟩))∧Keep au w w'∧bC w' b 0 n:=by
 go_enter Tryz.func65,Tryz.ntmps65;go_wp2_with fail;refine(tZ _ _ 0 n (dY w) h1 h2).mono ?_;rintro e w1 ⟨rfl,hk,hi⟩;go_wp2;go_returns;exact⟨_,Nat.le_refl _,rfl,((Keep.refl au w).alloc _).trans hk fun n o hn h=>by have:=h.1;omega,hi⟩
theorem yP (w:World)(b o:Nat)(z:Int)(h:bC w b o z):
  Calls Tryz.prog 101 #[.pointer (some ⟨b,o,none⟩)] w fun e w'=>e= .returned (.int .i64 z.sign)∧w=w':=by
 obtain⟨neg,ds,hr,hn,hne,hz,h1,h2,h3⟩:=h.open;obtain⟨g,cap,hc0,hc1,hlc,hcm,hb,hg,hgb,hf0,hf1,hdig⟩:=hr.open;unfold maxLen at hcm;clear hdig hr hn hne h hz h3
 by_cases h0:z=0
 ·subst h0;have:=h2.2 rfl;subst this;clear h1 h2;go_enter Tryz.func101,Tryz.ntmps101;go_wp2;go_ret;exact⟨rfl,rfl⟩
 have hl:0<ds.length:=List.length_pos_iff.2 fun e=>h0 (h2.1 e);have e1:((ds.length:Int)==0)=false:=beq_eq_false_iff_ne.2 om;by_cases hlt:z<0
 ·obtain rfl:=h1.2 hlt;have e2:z.sign= -1:=Int.sign_eq_neg_one_of_neg hlt;have E2:=zh e2;clear h1 h2 e2;go_enter Tryz.func101,Tryz.ntmps101;go_wp2;go_ret;exact⟨dQ E2.out.symm,rfl⟩
 obtain rfl:neg=false:=by cases neg;rfl;exact absurd (h1.1 rfl) hlt
 have e2:z.sign=1:=Int.sign_eq_one_of_pos (show 0<z from om);have E2:=zh e2;clear h1 h2 e2;go_enter Tryz.func101,Tryz.ntmps101;go_wp2;go_ret;exact⟨dQ E2.out.symm,rfl⟩
theorem oG (a b:Nat)(ha:a<4294967296)(hb:b<4294967296):bits .or .u64 (IntKind.u64.wrap ((a:Int)*4294967296)) (IntKind.u64.wrap (b:Int))=((a*4294967296+b:Nat):Int):=by
 rw [show((a:Int)*4294967296)=((a*4294967296:Nat):Int)from sm,wrap_u64 _ om,wrap_u64 _ om,u64_or_nat _ _ om om];congr 1;have:=Nat.shiftLeft_add_eq_or_of_lt (i:=32) (by simpa using hb) a;rw [Nat.shiftLeft_eq]at this;simpa using this.symm
theorem Bb (b:Nat)(hb:b<4294967296):bits .or .u64 0 (IntKind.u64.wrap (b:Int))=(b:Int):=by
 have:=oG 0 b om hb;simpa [IntKind.wrap,IntKind.bits,IntKind.signed]using this
theorem mJ (w:World)(b o:Nat)(z:Int)(h:bC w b o z):
  Calls Tryz.prog 102 #[.pointer (some ⟨b,o,none⟩)] w fun e w'=>e= .returned (.int .u64 (z.natAbs%18446744073709551616:Nat))∧w=w':=by
 obtain⟨neg,ds,hr,hn,hne,hz,h1,h2,h3⟩:=h.open;obtain⟨g,cap,hc0,hc1,hlc,hcm,hb,hg,hgb,hf0,hf1,hdig⟩:=hr.open;unfold maxLen at hcm;clear hr hn hne h hz h1 h2;have H3:=zh h3;clear h3
 match ds with
 | []=>
  clear hdig;go_enter Tryz.func102,Tryz.ntmps102;go_wp2;go_rounds 1;go_ret;refine⟨dQ ?_,rfl⟩;rw [← H3.out];rfl
 | [a]=>
  obtain⟨q1,q2⟩:=hdig 0 sm;clear hdig;go_enter Tryz.func102,Tryz.ntmps102;go_wp2;go_rounds 2;go_ret;refine⟨dQ ?_,rfl⟩;rw [← H3.out,Bb a (by simpa using q2)];simp [dval];have:a<4294967296:=by simpa using q2
  omega
 | [a,a2]=>
  obtain⟨q1,q2⟩:=hdig 0 sm;obtain⟨q3,q4⟩:=hdig 1 sm;clear hdig;go_enter Tryz.func102,Tryz.ntmps102;go_wp2;go_rounds 3;go_ret;refine⟨dQ ?_,rfl⟩;have h1:a<4294967296:=by simpa using q2
  have h2:a2<4294967296:=by simpa using q4
  rw [← H3.out,Bb a2 h2,oG a2 a h2 h1];simp [dval];omega
 | a::a2::a3::l=>
  obtain⟨q1,q2⟩:=hdig 0 sm;obtain⟨q3,q4⟩:=hdig 1 sm;clear hdig;go_enter Tryz.func102,Tryz.ntmps102;go_wp2;go_rounds 3;go_ret;refine⟨dQ ?_,rfl⟩;have h1:a<4294967296:=by simpa using q2
  have h2:a2<4294967296:=by simpa using q4
  rw [← H3.out,Bb a2 h2,oG a2 a h2 h1];simp only [dval];omega
def eY (a b:Nat):Int:=if a<b then -1 else if a=b then 0 else 1
theorem EZ (ds:List Nat)(k:Nat)(h:k≤ds.length):dval ds=dval (ds.take k)+4294967296^k*dval (ds.drop k):=by
 have:=jC (ds.take k) (ds.drop k);rw [List.take_append_drop,List.length_take,Nat.min_eq_left h]at this;exact this
theorem wG (ds ds':List Nat)(k:Nat)(hl:ds.length=ds'.length)(hk:k<ds.length)(he:ds.drop (k+1)=ds'.drop (k+1))(hd:∀d∈ds,d<4294967296)(hlt:ds.getD k 0<ds'.getD k 0):dval ds<dval ds':=by
 rw [EZ ds (k+1) om,EZ ds' (k+1) om,he,fI ds k hk,fI ds' k om];have h1:=kX (ds.take k) fun d h=>hd d (List.mem_of_mem_take h);rw [List.length_take,Nat.min_eq_left om]at h1;have h2:4294967296^k*(ds.getD k 0+1)≤4294967296^k*ds'.getD k 0:=Nat.mul_le_mul_left _ hlt;rw [Nat.mul_add]at h2;omega
theorem pF (ds ds':List Nat)(h:iQ ds')(hl:ds.length<ds'.length)(hd:∀d∈ds,d<4294967296):dval ds<dval ds':=by
 have h1:=kX ds hd;have h2:=kV ds' h (by intro e;subst e;simp at hl);have h3:4294967296^ds.length≤4294967296^(ds'.length-1):=Nat.pow_le_pow_right om om;omega
theorem jy.lt {w:World}{b o:Nat}{neg:Bool}{ds:List Nat}(h:jy w b o neg ds):∀d∈ds,d<4294967296:=by
 obtain⟨c,t,v,hb,ht,h0,h1,g',cap',cg,fr,hv,hg,hl,hm,hc,hd⟩:=h;exact hd
theorem pG (w:World)(b o b' o':Nat)(x y:Int)(hx:bC w b o x)(hy:bC w b' o' y):
  Calls Tryz.prog 107 #[.pointer (some ⟨b,o,none⟩),.pointer (some ⟨b',o',none⟩)] w fun e w'=>e= .returned (.int .i64 (eY x.natAbs y.natAbs))∧∃n,w'=w.drewN n:=by
 obtain⟨neg,ds,hr,hn,hne,hz,g1,g2,g3⟩:=hx.open;obtain⟨dN,ds',hr',hn',hne',hz',g1',g2',g3'⟩:=hy.open;obtain⟨g,cap,hc0,hc1,hlc,hcm,hb,hg,hgb,hf0,hf1,hdig⟩:=hr.open;obtain⟨g',cap',hc0',hc1',hlc',hcm',hb',hg',hgb',hf0',hf1',zab⟩:=hr'.open;have HL:=zh hr.lt;have HL':=zh hr'.lt;clear hr hr' hne hne' hz hz' g1 g1' g2 g2' hx hy;have HD:=zh hdig;clear hdig;have HD':=zh zab;clear zab;have HN:=zh hn;clear hn;have XM:=zh hn';clear hn';unfold maxLen at hcm hcm';rw [← g3,←g3'];clear g3 g3'
 by_cases hl:ds.length=ds'.length
 ·have e1:((ds.length:Int) != (ds'.length:Int))=false:=by rw [bne_eq_false_iff_eq];omega
  have Hl:=zh hl;clear hl;go_enter Tryz.func107,Tryz.ntmps107;go_wp2;go_quiet (fail);go_wp2;go_loopw [5] (fun n wr=>∃k:Nat,k≤ds.length∧n= .int .i64 ((k:Int)-1)∧ds.drop k=ds'.drop k∧∃m,wr=w.drewN m) (fun n _=>(intOf n+1).toNat)
  case atStart=>exact⟨ds.length,Nat.le_refl _,rfl,by rw [List.drop_length,Hl.out,List.drop_length],_,rfl⟩
  obtain⟨k,hk,rfl,hdr,m,rfl⟩:=hrel;have HR:=zh hdr;clear hdr;by_cases hk0:k=0
  ·subst hk0;have E:eY (dval ds) (dval ds')=0:=by
    have:=HR.out;simp at this;subst this;simp [eY]
   have EH:=zh E;clear E;go_wp2;go_ret;exact⟨dQ EH.out.symm,_,rfl⟩
  obtain⟨j,rfl⟩:∃j,k=j+1:=⟨k-1,om⟩;obtain⟨q1,q2⟩:=HD.out j om;obtain⟨q1',q2'⟩:=HD'.out j (by have:=Hl.out;omega);have hlt':(j:Int)<(ds'.length:Int):=by have:=Hl.out;omega
  have hlt:(j:Int)<(ds.length:Int):=om;generalize hp:ds.getD j 0=p at q1 q2;generalize hp':ds'.getD j 0=p' at q1' q2';have Hp:=zh hp;clear hp;have Hp':=zh hp';clear hp';by_cases hpp:p=p'
  ·subst hpp;have e2:((p:Int) != (p:Int))=false:=sm;go_wp2;go_quiet (fail);go_wp2;go_roundw
   case rel=>
    refine⟨j,om,gn,?_,m+nq,sm⟩;have h1:j<ds.length:=om;have h2:j<ds'.length:=om;rw [List.drop_eq_getElem_cons h1,List.drop_eq_getElem_cons h2,HR.out,←mq h1,←mq h2,Hp.out,Hp'.out]
   simp [intOf]
  have e2:((p:Int) != (p':Int))=true:=by rw [bne_iff_ne];omega
  by_cases hlp:p<p'
  ·have E:eY (dval ds) (dval ds')= -1:=by
    have:=wG ds ds' j Hl.out om HR.out HL.out (by rw [Hp.out,Hp'.out];exact hlp);simp [eY,this]
   have EH:=zh E;clear E;go_wp2;go_quiet (fail);go_wp2;go_quiet (fail);go_wp2;go_ret;exact⟨dQ EH.out.symm,_,by rw [World.drewN_drewN,World.drewN_drewN]⟩
  have E:eY (dval ds) (dval ds')=1:=by
   have:=wG ds' ds j Hl.out.symm om HR.out.symm HL'.out (by rw [Hp.out,Hp'.out];omega);unfold eY;rw [if_neg om,if_neg om]
  have EH:=zh E;clear E;go_wp2;go_quiet (fail);go_wp2;go_quiet (fail);go_wp2;go_ret;exact⟨dQ EH.out.symm,_,by rw [World.drewN_drewN,World.drewN_drewN]⟩
 have e1:((ds.length:Int) != (ds'.length:Int))=true:=by rw [bne_iff_ne];omega
 by_cases hlt:ds.length<ds'.length
 ·have E:eY (dval ds) (dval ds')= -1:=by
   have:=pF ds ds' XM.out hlt HL.out;simp [eY,this]
  have EH:=zh E;clear E hl;go_enter Tryz.func107,Tryz.ntmps107;go_wp2;go_quiet (fail);go_wp2;go_quiet (fail);go_wp2;go_ret;exact⟨dQ EH.out.symm,_,World.drewN_drewN _ _ _⟩
 have E:eY (dval ds) (dval ds')=1:=by
  have:=pF ds' ds HN.out om HL'.out;unfold eY;rw [if_neg om,if_neg om]
 have EH:=zh E;clear E hl;go_enter Tryz.func107,Tryz.ntmps107;go_wp2;go_quiet (fail);go_wp2;go_quiet (fail);go_wp2;go_ret;exact⟨dQ EH.out.symm,_,World.drewN_drewN _ _ _⟩
theorem iT:(Tryz.prog.info? 166).map (fun i=>(i.zero,i.size,i.bytes))=some (some (.int .u32 0),1,4):=kr
theorem kW (g j:Nat):(⟨g,0,none⟩:Addr).add j=⟨g,j,none⟩:=by unfold Addr.add;split<;>simp_all
def qA (ds:List Nat):List Value:=ds.map fun d=>Value.int .u32 (d:Nat)
theorem WL {w:World}{g:Nat}{ds:List Nat}(h:∀i,i<ds.length→w.cell? ⟨g,i,none⟩=some (.int .u32 (ds.getD i 0:Nat))∧ds.getD i 0<4294967296):
  ∀j u,(qA ds)[j]? =some u→w.cell? ((⟨g,0,none⟩:Addr).add j)=some u:=by
 intro j u hu;rw [kW];unfold qA at hu;rw [List.getElem?_map]at hu;rcases hj:ds[j]? with _ | d
 ·rw [hj]at hu;cases hu
 rw [hj]at hu;simp at hu;subst hu;have hl:j<ds.length:=by
  rcases Nat.lt_or_ge j ds.length with h' | h'
  ·exact h'
  simp [h']at hj
 have:=(h j hl).1;simpa [List.getD,hj]using this
theorem Ms {w:World}{base:Nat}{v:Value}{n:Nat}{ds:List Nat}(h:w.ownsRow base Ec 1 v n (qA ds))(hn:n=ds.length)(h0:0<n)(hd:∀d∈ds,d<4294967296):eF w v ds:=by
 subst hn;obtain⟨_,h | ⟨g,cap,cur,hv,hb,hg,hl,hm,hs,ht⟩⟩:=h
 ·omega
 refine⟨g,cap,cur,(0,0),hv,hg,hl,hm,fun i hi=> ?_,hd⟩;have h1:(cur.toList.take (ds.length*1))[i]? =(qA ds)[i]? :=by rw [ht]
 rw [List.getElem?_take,if_pos om]at h1;have h2:cur.toList[i]? =cur[i]? :=sm;rw [← h2,h1];simp [qA,List.getD,hi]
theorem dH {w w':World}{row:Option Nat}(h:w.grownBy w' row)(B:Nat)(hB:B≤w.heap.size)(hr:∀k,row=some k→B≤k):Below B w w':=
 (Below.refl B w).grown h hB hr
theorem jK (w:World)(b o b' o':Nat)(x:Int)(hz:bQ w b o)(hx:bC w b' o' x)(hbig:x.natAbs<BIG):
  Calls Tryz.prog 105 #[.pointer (some ⟨b,o,none⟩),.pointer (some ⟨b',o',none⟩)] w fun e w'=>e= .returned (.pointer (some ⟨b,o,none⟩))∧Keep (At b o) w w'∧bC w' b o x:=by
 obtain⟨neg,ds,hr,hn,hne,hzz,g1,g2,g3⟩:=hx.open;have hlen:=mE ds hn (by rw [g3];exact hbig)
 obtain⟨g,cap,hc0,hc1,hlc,hcm,hb,hg,hgb,hf0,hf1,hdig⟩:=hr.open;obtain⟨UH,za,zm1,zm2,zc0,zc1,zf0,zf1,zb⟩:=hz.open;have HN:=zh (WL hdig);have HI:Hid (∀w',jy w' b o neg ds→bC w' b o x):=zh fun w' h=>⟨neg,ds,h,hn,hne,hzz⟩
 clear hne hzz g1 g2 g3 hx hn hbig;have HZ:=zh hz;clear hz;have HD:=zh hdig;clear hdig;unfold maxLen at hcm;obtain⟨i0,hi0,hz0,hz1,hz2⟩:=info_parts iT;have HL:=zh hr.lt;clear hr;by_cases h0:ds.length=0
 ·go_enter Tryz.func105,Tryz.ntmps105;go_wp2;refine aD (fun w'=>w'.cell? ⟨b',o',none⟩=some (.bool neg)∧w'.cell? ⟨b',o'+1,none⟩=some (.slice (some ⟨g,0,none⟩) ds.length cap))
   [0,1,14,15,16,17] [([0,1,2,3,4,5,7,8,9,10],6),([],11),([12,13],14),([15,16],17)] [] kr kr ⟨hc0,hc1⟩ ?_
  intro X W hne hF hcl;have hx1:=fun x=>(hF x).1;have hx2:=fun x=>(hF x).2;have HC:=zh hcl;clear hF hcl;simp only [aO,aJ,zl0,zl1,zl2,aR,Bool.false_eq_true,if_false]
  (repeat(quiet_step (fail)));refine wpQuiet_nil ?_
  refine ay rfl rfl fun K hK=> ?_;go_simp;refine hK _ _ ⟨fun _=>HC.out _ ⟨?_,?_⟩,?_⟩
  ·simp [World.cell?_alloc_lt,hb,hc0]
  ·simp [World.cell?_alloc_lt,hb,hc1]
  clear hK K
  (repeat(quiet_step (fail)));refine wpQuiet_nil ?_
  refine ay rfl rfl fun K hK=> ?_;go_simp;refine hK _ _ ⟨fun _=>HC.out _ ⟨?_,?_⟩,?_⟩
  ·simp [World.cell?_alloc_lt,hb,hc0]
  ·simp [World.cell?_alloc_lt,hb,hc1]
  clear hK K
  (repeat(quiet_step (fail)));refine wpQuiet_nil ?_
  refine ay rfl rfl fun K hK=> ?_;go_simp;refine hK _ _ ⟨fun h=>(by simp at h),?_⟩;clear hK K;rw [if_pos dc]
  (repeat(quiet_step (fail)));refine wpQuiet_nil ?_
  refine ay rfl rfl fun K hK=> ?_;go_simp;refine hK _ _ ⟨fun h=>(by simp at h),?_⟩;clear hK K;rw [if_pos dc];refine wpQuiet_nil ?_;refine NoPanic.normal ?_;go_wp2;go_returns;have hds:ds= []:=List.eq_nil_of_length_eq_zero h0;refine⟨rfl,?_,HI.out _ ?_⟩
  ·exact ((((Keep.refl _ _).setCell _ fun _=>wT b o).setCell _ fun _=>FV b o).alloc _).drew
  subst hds;exact(Qp HZ.out neg [] #[] 0 rfl rfl sm sm).keep ((Keep.refl au _).drew) (Off.noS _ _ _)
 have hpos:0<ds.length:=om;go_enter Tryz.func105,Tryz.ntmps105;go_wp2;refine aD (fun w'=>w'.cell? ⟨b',o',none⟩=some (.bool neg)∧w'.cell? ⟨b',o'+1,none⟩=some (.slice (some ⟨g,0,none⟩) ds.length cap))
  [0,1,14,15,16,17] [([0,1,2,3,4,5,7,8,9,10],6),([],11),([12,13],14),([15,16],17)] [] kr kr ⟨hc0,hc1⟩ ?_
 intro X W hne hF hcl;have hx1:=fun x=>(hF x).1;have hx2:=fun x=>(hF x).2;have HC:=zh hcl;clear hF hcl;simp only [aO,aJ,zl0,zl1,zl2,aR,Bool.false_eq_true,if_false]
 (repeat(quiet_step (fail)));refine wpQuiet_nil ?_
 refine ay rfl rfl fun K hK=> ?_;go_simp;refine hK _ _ ⟨fun _=>HC.out _ ⟨?_,?_⟩,?_⟩
 ·simp [World.cell?_alloc_lt,hb,hc0]
 ·simp [World.cell?_alloc_lt,hb,hc1]
 clear hK K
 (repeat(quiet_step (fail)));refine wpQuiet_nil ?_
 refine ay rfl rfl fun K hK=> ?_;refine wp_append_lies _ _ _ _ (by rfl) w.heap.size 166 i0 _ 1 4 Tryz.underlying123 hi0 hz0 hz1 hz2 rfl om (.slice (some ⟨w.heap.size,0,none⟩) 0 0) 0 [] (by rfl)
  (World.ownsRow_made w.drew #[] 0 (Nat.le_refl _) (by simp [maxLen]) rfl) ⟨g,0,none⟩ ds.length cap (qA ds) (by rfl) (by simp [qA]) ?_ (by simp [qA,Value.oneCell']) hpos (by unfold maxLen;omega) om sm _ rfl ?_
 ·intro j u hu;rw [← HN.out j u hu,kW];exact World.cell?_alloc_lt _ _ _ (by simpa using hg)
 intro g2 cap2 w1 hown hgrow hat hlt;have hbel:=dH hgrow w.heap.size sm (by simp [Value.ownBlock]);have k0:∀k i,k<w.heap.size→w1.cell? ⟨k,i,none⟩=w.cell? ⟨k,i,none⟩:=fun k i hk=>(hbel.cell (p:=⟨k,i,none⟩) hk).trans (World.cell?_alloc_lt _ _ _ hk);have k1:∀k i,k<w.heap.size→w1.frozen? ⟨k,i,none⟩=w.frozen? ⟨k,i,none⟩:=fun k i hk=>(hbel.frozen (p:=⟨k,i,none⟩) hk).trans (World.frozen?_alloc_old _ _ _ (Nat.ne_of_lt hk));have zc0':=(k0 b o zb).trans zc0;have zc1':=(k0 b (o+1) zb).trans zc1;have zf0':=(k1 b o zb).trans zf0;have zf1':=(k1 b (o+1) zb).trans zf1;have xc0:=(k0 b' o' hb).trans hc0;have xc1:=(k0 b' (o'+1) hb).trans hc1;refine hK _ _ ⟨fun _=>HC.out _ ⟨xc0,xc1⟩,?_⟩;clear hK K k0 k1;have HO:=zh hown;have HG:=zh hgrow;have HA:=zh hat;have HB:=zh hbel;clear hown hgrow hat hbel;simp only [Act.put,List.setIfInBounds_toArray,List.set_cons_zero,List.set_cons_succ]
 (repeat(quiet_step (fail)));refine wpQuiet_nil ?_
 refine ay rfl rfl fun K hK=> ?_;go_simp;refine hK _ _ ⟨fun h=>(by simp at h),?_⟩;clear hK K;rw [if_pos dc]
 (repeat(quiet_step (fail)));refine wpQuiet_nil ?_
 refine ay rfl rfl fun K hK=> ?_;go_simp;refine hK _ _ ⟨fun h=>(by simp at h),?_⟩;clear hK K;rw [if_pos dc];refine wpQuiet_nil ?_;refine NoPanic.normal ?_;go_wp2;go_returns;have bel:Below w.heap.size w w1:=(((Below.refl w.heap.size w).alloc (Nat.le_refl _) _).drew).trans HB.out;have kp:Keep au w w1:=Keep.of_below bel (Nat.le_refl _);refine⟨rfl,?_,HI.out _ (pI (HZ.out.keep kp (Off.noS _ _ _)) neg (Ms (base:=w.heap.size) (n:=ds.length) (by simpa using HO.out) rfl hpos HL.out))⟩;exact((kp.mono fun _ _ _ h=>h.elim).setCell _ fun _=>wT b o).setCell _ fun _=>FV b o
def Rb (b o b' o':Nat):Prop:=b'≠b∨o'+1<o∨o+1<o'
theorem Rb.symm {b o b' o':Nat}(h:Rb b o b' o'):Rb b' o' b o:=by unfold Rb at *;omega
def Rf (S T:Nat→Nat→Prop):Nat→Nat→Prop:=fun k i=>S k i∨T k i
theorem DN (w:World)(b o b' o':Nat)(x:Int)(hz:bQ w b o)(hx:bC w b' o' x)(hbig:x.natAbs<BIG):
  Calls Tryz.prog 100 #[.pointer (some ⟨b,o,none⟩),.pointer (some ⟨b',o',none⟩)] w fun e w'=>e= .returned (.pointer (some ⟨b,o,none⟩))∧Keep (At b o) w w'∧bC w' b o (x.natAbs:Nat):=by
 have S:=zh (jK w b o b' o' x hz hx hbig);clear hz hx hbig;go_enter Tryz.func100,Tryz.ntmps100;go_wp2_with fail;refine S.out.mono ?_;rintro e w1 ⟨rfl,hk,hi⟩;obtain⟨neg,a,m1,m2,hc0,hc1,hf0,hf1,hb⟩:=hi.hdr.open;have Hi:=zh hi;clear hi;have Hk:=zh hk;clear hk;go_wp2;go_returns;exact⟨rfl,Hk.out.setCell _ fun _=>wT b o,tY Hi.out _ false sm sm⟩
theorem Di (w:World)(b o b' o':Nat)(x:Int)(hz:bQ w b o)(hx:bC w b' o' x)(hbig:x.natAbs<BIG):
  Calls Tryz.prog 114 #[.pointer (some ⟨b,o,none⟩),.pointer (some ⟨b',o',none⟩)] w fun e w'=>e= .returned (.pointer (some ⟨b,o,none⟩))∧Keep (At b o) w w'∧bC w' b o (-x):=by
 have S:=zh (jK w b o b' o' x hz hx hbig);clear hz hx hbig;go_enter Tryz.func114,Tryz.ntmps114;go_wp2_with fail;refine S.out.mono ?_;rintro e w1 ⟨rfl,hk,hi⟩;obtain⟨neg,ds,hr,hn,hne,hz0,h1,h2,h3⟩:=hi.open;obtain⟨g,cap,hc0,hc1,hlc,hcm,hb,hg,hgb,hf0,hf1,hdig⟩:=hr.open;have Hi:=zh hi;clear hi;have Hk:=zh hk;clear hk;have H1:=zh h1;clear h1;have H2:=zh h2;clear h2;clear hdig hr hn hne hz0 h3 hcm
 cases neg
 ·go_wp2;go_returns;refine⟨rfl,Hk.out.setCell _ fun _=>wT b o,tY Hi.out _ _ sm ?_⟩;have h1:=H1.out;have h2:=H2.out;simp only [Bool.false_eq_true,false_iff]at h1;rw [decide_eq_decide,List.length_pos_iff];constructor
  ·intro h;have:x≠0:=fun e=>h (h2.2 e);omega
  intro h e;have:=h2.1 e;omega
 go_wp2;go_returns;refine⟨rfl,Hk.out.setCell _ fun _=>wT b o,tY Hi.out _ false sm ?_⟩;have:=H1.out;simp at this;simp;omega
theorem bC.nat {w:World}{b o n:Nat}(h:bC w b o (n:Int)):∃ds,jy w b o false ds∧dval ds=n:=by
 obtain⟨neg,ds,hr,hn,hne,hz,h1,h2,h3⟩:=h.open;obtain rfl:neg=false:=by
  cases neg
  ·rfl
  have:=h1.1 rfl;omega
 exact⟨ds,hr,by simpa using h3⟩
theorem Jq {ds:List Nat}(h:iQ ds)(hb:dval ds<18446744073709551616):ds.length<3:=by
 by_cases h0:ds= []
 ·subst h0;simp
 have h1:=kV ds h h0;have h2:4294967296^(ds.length-1)<4294967296^2:=om;have:=(Nat.pow_lt_pow_iff_right (a:=4294967296) om).1 h2;omega
theorem Jr {ds:List Nat}(hd:∀d∈ds,d<4294967296)(hl:ds.length<3):dval ds<18446744073709551616:=by
 have h1:=kX ds hd;have h2:4294967296^ds.length≤4294967296^2:=Nat.pow_le_pow_right om om;omega
theorem zM (x y:Int)(a b:Bool)(ha:a=true↔x<0)(hb:b=true↔y<0):iP (a != b) (x.natAbs/y.natAbs)=x.tdiv y:=by
 have hx:x=iP a x.natAbs:=by cases a<;>simp [iP]at* <;>omega
 have hy:y=iP b y.natAbs:=by cases b<;>simp [iP]at* <;>omega
 generalize x.natAbs=m at *;generalize y.natAbs=n at *;subst hx hy;cases a<;>cases b<;>simp [iP,Int.neg_tdiv,Int.tdiv_neg]
theorem zN (x y:Int)(a:Bool)(ha:a=true↔x<0):iP a (x.natAbs%y.natAbs)=x.tmod y:=by
 have hx:x=iP a x.natAbs:=by cases a<;>simp [iP]at* <;>omega
 have hy:y.natAbs=y∨(y.natAbs:Int)= -y:=om;have key:∀(m n:Nat) (y:Int),(n:Int)=y∨(n:Int)= -y→(m:Int).tmod y=((m%n:Nat):Int):=by
  intro m n y h;rcases h with h | h
  ·subst h;rfl
  have:y= -(n:Int):=om;subst this;rw [Int.tmod_neg];rfl
 have h1:=key x.natAbs y.natAbs y hy;cases a
 ·have e:(x.natAbs:Int)=x:=by simp [iP]at hx;omega
  rw [e]at h1;rw [h1];simp [iP]
 have e:(x.natAbs:Int)= -x:=by simp [iP]at hx;omega
 rw [e,Int.neg_tmod]at h1;simp only [iP,if_true];omega
theorem zO (w:World)(bz oz bx ox eP oy br or:Nat)(x y:Int)(hz:bQ w bz oz)(hr:bQ w br or)(Ad:Rb bz oz br or)(hx:bC w bx ox x)(hy:bC w eP oy y)(hy0:y≠0)
  (hsx:x.natAbs<18446744073709551616) (hsy:y.natAbs<18446744073709551616):
  Calls Tryz.prog 137 #[.pointer (some ⟨bz,oz,none⟩),.pointer (some ⟨bx,ox,none⟩),.pointer (some ⟨eP,oy,none⟩),.pointer (some ⟨br,or,none⟩)] w fun e w'=>
   e= .returned (.tuple #[.pointer (some ⟨bz,oz,none⟩),.pointer (some ⟨br,or,none⟩)])∧Keep (Rf (At bz oz) (At br or)) w w'∧bC w' bz oz (x.tdiv y)∧bC w' br or (x.tmod y):=by
 have C:=zh (pG w bx ox eP oy x y hx hy);by_cases hlt:x.natAbs<y.natAbs
 ·have hcm:eY x.natAbs y.natAbs= -1:=by simp [eY,hlt]
  rw [hcm]at C;have hbig:x.natAbs<BIG:=xV (k:=2) om om;have q0:x.tdiv y=0:=by
   rw [← zM x y (decide (x<0)) (decide (y<0)) sm sm,Nat.div_eq_of_lt hlt];simp [iP]
  have r0:x.tmod y=x:=by
   rw [← zN x y (decide (x<0)) sm,Nat.mod_eq_of_lt hlt];by_cases h:x<0<;>simp [iP,h]<;>omega
  have Hz:=zh hz;have Hr:=zh hr;have Hx:=zh hx;have Hq:=zh q0;have Hm:=zh r0;have HB:=zh hbig;clear hz hr hx hy hcm hbig q0 r0 hlt;go_enter Tryz.func137,Tryz.ntmps137;go_wp2_with fail;refine C.out.mono ?_;rintro e w1 ⟨rfl,n,rfl⟩;go_wp2_with fail;refine(jK _ br or bx ox x (Hr.out.keep ((Keep.refl au w).drewN n) (Off.noS _ _ _)) (Hx.out.keep ((Keep.refl au w).drewN n) (Off.noS _ _ _)) HB.out).mono ?_;rintro e w2 ⟨rfl,hk2,hi2⟩;have XV:=zh hk2;have Hi2:=zh hi2;clear hk2 hi2;go_wp2_with fail;refine(tZ _ bz oz 0 (Hz.out.keep (((Keep.refl au w).drewN n).mono (S':=At br or) (fun _ _ _ h=>h.elim) |>.trans XV.out fun _ _ _ h=>h) (Hr.out.off (Rb.symm Ad))) om om).mono ?_;rintro e w3 ⟨rfl,hk3,hi3⟩;have Hk3:=zh hk3;have Hi3:=zh hi3;clear hk3 hi3;go_wp2;go_returns;refine⟨rfl,?_,?_,?_⟩
  ·exact ((((Keep.refl au w).drewN n).any.trans (XV.out.mono fun _ _ _ h=> .inr h) fun _ _ _ h=>h).trans Hk3.out fun _ _ _ h=> .inl h)
  ·rw [Hq.out];exact Hi3.out
  rw [Hm.out];exact Hi2.out.keep Hk3.out ((Hz.out.keep (((Keep.refl au w).drewN n).any.trans XV.out fun _ _ _ h=>h) (Hr.out.off (Rb.symm Ad))).off Ad)
 have hcm:∃c:Int,eY x.natAbs y.natAbs=c∧0≤c:=⟨_,rfl,by unfold eY;rw [if_neg hlt];split<;>omega⟩;obtain⟨c,hc1,hc2⟩:=hcm;rw [hc1]at C;clear hc1;obtain⟨neg,ds,hrx,hn,hne,hzx,h1,h2,h3⟩:=hx.open;obtain⟨dN,ds',yM,hn',hne',hzy,h1',h2',h3'⟩:=hy.open;have hl3:decide ((ds.length:Int)<3)=true:=bL (by have:=Jq hn (by rw [h3];exact hsx);omega)
 obtain⟨g,cap,xc0,xc1,_,_,xb,_,_,_,_,_⟩:=hrx.open;obtain⟨g',cap',yc0,yc1,_,_,yb,_,_,_,_,_⟩:=yM.open;have HS:=zh (And.intro h1 h1');have Hz:=zh hz;have Hr:=zh hr;have Hx:=zh hx;have Hy:=zh hy;have HW:Hid (IntKind.u64.wrap ((x.natAbs:Int)/(y.natAbs:Int))=((x.natAbs/y.natAbs:Nat):Int)):=zh (vM _ _ hsx);have HQ:Hid (iP (neg != dN) (x.natAbs/y.natAbs)=x.tdiv y):=zh (zM x y neg dN h1 h1');have HR:Hid (iP neg (x.natAbs%y.natAbs)=x.tmod y):=zh (zN x y neg h1);have hm:∀z:Nat,z<18446744073709551616→z%18446744073709551616=z:=fun z hz=>Nat.mod_eq_of_lt hz
 have UX:∀k,Hid (Calls Tryz.prog 102 #[.pointer (some ⟨bx,ox,none⟩)] (w.drewN k) fun e w'=>e= .returned (.int .u64 (x.natAbs:Nat))∧w.drewN k=w'):=fun k=>zh (by
  have:=mJ (w.drewN k) bx ox x (hx.keep ((Keep.refl au w).drewN k) (Off.noS _ _ _));rwa [hm _ hsx]at this)
 have UY:∀k,Hid (Calls Tryz.prog 102 #[.pointer (some ⟨eP,oy,none⟩)] (w.drewN k) fun e w'=>e= .returned (.int .u64 (y.natAbs:Nat))∧w.drewN k=w'):=fun k=>zh (by
  have:=mJ (w.drewN k) eP oy y (hy.keep ((Keep.refl au w).drewN k) (Off.noS _ _ _));rwa [hm _ hsy]at this)
 have hy1:((y.natAbs:Nat):Int)≠0:=om;have hq:x.natAbs/y.natAbs<18446744073709551616:=Nat.lt_of_le_of_lt (Nat.div_le_self _ _) hsx;have hr':x.natAbs%y.natAbs<18446744073709551616:=Nat.lt_of_le_of_lt (Nat.mod_le _ _) hsx;clear hz hr hx hy hrx yM hn hne hzx h1 h2 h3 hn' hne' hzy h1' h2' h3' hm hlt hy0;generalize hX:x.natAbs=X at *;generalize hY:y.natAbs=Y at *;clear hX hY;go_enter Tryz.func137,Tryz.ntmps137;go_wp2_with fail;refine C.out.mono ?_;rintro e w1 ⟨rfl,n,rfl⟩;go_wp2_with fail;go_quiet (fail);go_wp2_with fail;refine(UX _).out.mono ?_;rintro e w1 ⟨rfl,rfl⟩;go_wp2_with fail;refine(UY _).out.mono ?_;rintro e w1 ⟨rfl,rfl⟩;clear UX UY;have Hk0:Hid (Keep au w (w.drewN (n+nq))):=zh ((Keep.refl au w).drewN _);generalize w.drewN (n+nq)=w1 at *;go_wp2_with fail;rw [HW.out];refine(ji _ bz oz _ (Hz.out.keep Hk0.out (Off.noS _ _ _)) hq).mono ?_;rintro e w2 ⟨rfl,hk2,hi2⟩;have XV:=zh hk2;have Hi2:=zh hi2;clear hk2 hi2;go_wp2_with fail;rw [← Int.natCast_emod];have Hz1:=zh (Hz.out.keep Hk0.out (Off.noS _ _ _));have Hr1:=zh (Hr.out.keep Hk0.out (Off.noS _ _ _));have Hr2:=zh (Hr1.out.keep XV.out (Hz1.out.off Ad));refine(ji _ br or _ Hr2.out hr').mono ?_;rintro e w3 ⟨rfl,hk3,hi3⟩;have Hk3:=zh hk3;have iz3:=Hi2.out.keep hk3 (Hr2.out.off Ad.symm);obtain⟨dq,rq,vq⟩:=iz3.nat;obtain⟨dr,rr,vr⟩:=hi3.nat;obtain⟨gq,cq,zc0,zc1,_,_,zb,_,_,zf0,zf1,_⟩:=rq.open;obtain⟨gr,cr,rc0,rc1,_,_,rb,_,_,rf0,rf1,_⟩:=rr.open;have hne:(⟨bz,oz,none⟩:Addr)≠⟨br,or,none⟩:=by
  intro e;simp at e;unfold Rb at Ad;omega
 have zdd:(w3.setCell ⟨bz,oz,none⟩ (.bool (!(neg==dN)))).cell? ⟨br,or,none⟩=some (.bool false):=(World.cell?_setCell_other _ _ _ _ hne).trans rc0;have Rq:=zh rq;have Rr:=zh rr;have Vq:=zh vq;have Vr:=zh vr;clear hk3 hi3 iz3 rq rr vq vr hne;go_wp2_with fail;have k4:Keep (At bz oz) w3 (w3.setCell ⟨bz,oz,none⟩ (.bool (!(neg==dN)))):=(Keep.refl _ _).setCell _ fun _=>wT bz oz;have k5:Keep (At br or) (w3.setCell ⟨bz,oz,none⟩ (.bool (!(neg==dN)))) ((w3.setCell ⟨bz,oz,none⟩ (.bool (!(neg==dN)))).setCell ⟨br,or,none⟩ (.bool neg)):=(Keep.refl _ _).setCell _ fun _=>wT br or;have q4:=DL Rq.out (!(neg==dN));have r4:=Rr.out.keep k4 (Rq.out.hdr.off Ad);have q5:=q4.keep k5 (r4.hdr.off Ad.symm);have r5:=DL r4 neg;refine(kR _ bz oz _ dq q5).mono ?_;rintro e w6 ⟨rfl,hk6,hi6⟩;have r6:=r5.keep hk6 (q5.hdr.off Ad);have zde:=zh (k4.mono (S':=Rf (At bz oz) (At br or)) (fun _ _ _ h=> .inl h) |>.trans k5 fun _ _ _ h=> .inr h);have Hk6:=zh hk6;have Hi6:=zh hi6;clear q4 q5 r4 r5 k4 k5 hk6 hi6 zdd;go_wp2_with fail;refine(kR _ br or _ dr r6).mono ?_;rintro e w7 ⟨rfl,hk7,hi7⟩;have iz7:=Hi6.out.keep hk7 (r6.hdr.off Ad.symm);have Hk7:=zh hk7;have Hi7:=zh hi7;have Hz7:=zh iz7;clear hk7 hi7 iz7 r6;go_wp2;go_returns;refine⟨rfl,?_,?_,?_⟩
 ·have a1:=(Hk0.out.any.trans (XV.out.mono (S':=Rf (At bz oz) (At br or)) fun _ _ _ h=> .inl h) fun _ _ _ h=>h).trans Hk3.out fun _ _ _ h=> .inr h;exact((a1.trans zde.out fun _ _ _ h=>h).trans Hk6.out fun _ _ _ h=> .inl h).trans Hk7.out fun _ _ _ h=> .inr h
 ·rw [← HQ.out,←Vq.out];exact Hz7.out
 rw [← HR.out,←Vr.out];exact Hi7.out
theorem bC.ofNewer {w w':World}{b o:Nat}{z:Int}(h:bC w b o z)(k:Keep au w w'):bC w' b o z:=h.keep k (Off.noS _ _ _)
theorem bQ.ofNewer {w w':World}{b o:Nat}(h:bQ w b o)(k:Keep au w w'):bQ w' b o:=h.keep k (Off.noS _ _ _)
theorem sN (w:World)(bz oz ba oa bb ob:Nat)(x y:Int)(hz:bQ w bz oz)(hx:bC w ba oa x)(hy:bC w bb ob y)
  (hsx:x.natAbs<18446744073709551616) (hsy:y.natAbs<18446744073709551616):
  Calls Tryz.prog 64 #[.pointer (some ⟨bz,oz,none⟩),.pointer none,.pointer none,.pointer (some ⟨ba,oa,none⟩),.pointer (some ⟨bb,ob,none⟩)] w fun e w'=>
   e= .returned (.pointer (some ⟨bz,oz,none⟩))∧Keep (At bz oz) w w'∧bC w' bz oz (Nat.gcd x.natAbs y.natAbs:Nat):=by
 have hbx:x.natAbs<BIG:=xV (k:=2) om om;have hby:y.natAbs<BIG:=xV (k:=2) om om;have hbn:((x.natAbs:Nat):Int).natAbs<BIG:=by simpa using hbx
 have Hz:=zh hz;have Hx:=zh hx;have Hy:=zh hy;have ZP:=zh hbx;have Ye:=zh hby;have Hbn:=zh hbn;have hzl:=hz.lt;clear hz hx hy hbx hby hbn;go_enter Tryz.func64,Tryz.ntmps64;go_wp2_with fail;have k1:Keep au w (w.alloc (.cells #[.bool false,.slice none 0 0] 125)):=(Keep.refl _ _).alloc _;refine(DN _ w.heap.size 0 ba oa x (dY w) (Hx.out.ofNewer k1) ZP.out).mono ?_;rintro e w1 ⟨rfl,hk1,hp1⟩;have K1:=zh (k1.trans hk1 fun n o hn h=>by have:=h.1;omega);have Hp1:=zh hp1;have hs1:w.heap.size+1≤w1.heap.size:=by have:=hk1.size;simpa using this
 clear k1 hk1 hp1;go_wp2_with fail;have k2:Keep au w1 (w1.alloc (.cells #[.bool false,.slice none 0 0] 125)):=(Keep.refl _ _).alloc _;refine(DN _ w1.heap.size 0 bb ob y (dY w1) ((Hy.out.ofNewer K1.out).ofNewer k2) Ye.out).mono ?_;rintro e w2 ⟨rfl,hk2,hq2⟩;have k2':Keep au w1 w2:=k2.trans hk2 fun n o hn h=>by have:=h.1;omega
 have K2:=zh (K1.out.trans k2' fun _ _ _ h=>h);have Hp2:=zh (Hp1.out.ofNewer k2');have Hq2:=zh hq2;clear k2 hk2 hq2 k2';go_wp2_with fail;refine wp_loop_rounds 1 ?_;rw [rounds_succ];go_wp2_with fail;refine(yP _ w1.heap.size 0 _ Hq2.out).mono ?_;rintro e w3 ⟨rfl,rfl⟩;by_cases hy0:y.natAbs=0
 ·have hsg:((y.natAbs:Nat):Int).sign=0:=by rw [hy0];rfl
  have Hsg:=zh hsg;have Hy0:=zh hy0;clear hsg hy0;rw [Hsg.out];go_wp2_with fail;refine(jK _ bz oz w.heap.size 0 _ (Hz.out.ofNewer K2.out) Hp2.out Hbn.out).mono ?_;rintro e w3 ⟨rfl,hk3,hi3⟩;go_wp2;go_returns;refine⟨rfl,K2.out.any.trans hk3 fun _ _ _ h=>h,?_⟩;rw [Hy0.out,Nat.gcd_zero_right];exact hi3
 have hsg:((y.natAbs:Nat):Int).sign=1:=Int.sign_eq_one_of_pos om;have Hsg:=zh hsg;rw [Hsg.out];obtain⟨neg,ds,hrx,hn,hne,hzx,h1,h2,h3⟩:=Hp2.out.open;obtain⟨dN,ds',yM,hn',hne',hzy,h1',h2',h3'⟩:=Hq2.out.open;have hl3:decide ((ds.length:Int)<3)=true:=bL (by have:=Jq hn (by rw [h3];simpa using hsx);omega)
 have zba:decide ((ds'.length:Int)<3)=true:=bL (by have:=Jq hn' (by rw [h3'];simpa using hsy);omega);obtain⟨g,cap,xc0,xc1,_,_,xb,_,_,_,_,_⟩:=hrx.open;obtain⟨g',cap',yc0,yc1,_,_,yb,_,_,_,_,_⟩:=yM.open;have UX:=mJ w2 w.heap.size 0 _ Hp2.out;have UY:=mJ w2 w1.heap.size 0 _ Hq2.out;rw [show((x.natAbs:Nat):Int).natAbs%18446744073709551616=x.natAbs from by simp;omega]at UX
 rw [show((y.natAbs:Nat):Int).natAbs%18446744073709551616=y.natAbs from by simp;omega]at UY;have HUX:=zh UX;have HUY:=zh UY;clear hsg UX UY hrx yM hn hne hzx h1 h2 h3 hn' hne' hzy h1' h2' h3';go_wp2_with fail;refine HUX.out.mono ?_;rintro e w3 ⟨rfl,rfl⟩;go_wp2_with fail;refine HUY.out.mono ?_;rintro e w3 ⟨rfl,rfl⟩;clear HUX HUY Hsg hl3 zba Hp2 Hq2 Hp1 xc0 xc1 yc0 yc1 hy0 Hx Hy ZP Ye Hbn;generalize hX:x.natAbs=X at *;generalize hY:y.natAbs=Y at *;have HX:=zh hX;have HY:=zh hY;clear hX hY;go_wp2_with fail;go_loopw [13,14] (fun c d wr=>∃p q:Nat,c= .int .u64 p∧d= .int .u64 q∧p<18446744073709551616∧q<18446744073709551616∧Nat.gcd p q=Nat.gcd X Y∧∃n,wr=w2.drewN n) (fun _ d _=>(intOf d).toNat)
 case atStart=>exact⟨X,Y,rfl,rfl,hsx,hsy,rfl,0,rfl⟩
 obtain⟨p,q,rfl,rfl,hp,hq,hg,n,rfl⟩:=hrel;have Hg:=zh hg;clear hg;by_cases h0:q=0
 ·subst h0;go_wp2_with fail;refine(ji _ bz oz p ((Hz.out.ofNewer K2.out).ofNewer ((Keep.refl au w2).drewN n)) hp).mono ?_;rintro e w3 ⟨rfl,hk3,hi3⟩;go_wp2;go_returns;refine⟨rfl,((K2.out.trans ((Keep.refl au w2).drewN n) fun _ _ _ h=>h).any).trans hk3 fun _ _ _ h=>h,?_⟩;rw [HX.out,HY.out,←Hg.out];simpa using hi3
 have hq0:((0:Int)<(q:Int)):=om;have hm:p%q<q:=Nat.mod_lt _ om;go_wp2_with fail;go_quiet (fail);go_wp2_with fail;go_roundw
 case rel=>exact⟨q,p%q,rfl,sm,hq,om,by rw [← Hg.out,Nat.gcd_comm p q,Nat.gcd_rec q p,Nat.gcd_comm],n+nq,sm⟩
 simp [intOf];omega
theorem Td (w:World)(bz oz bx ox eP oy:Nat)(x y:Int)(hz:bQ w bz oz)(hx:bC w bx ox x)(hy:bC w eP oy y)(hy0:y≠0)
  (hsx:x.natAbs<18446744073709551616) (hsy:y.natAbs<18446744073709551616):
  Calls Tryz.prog 113 #[.pointer (some ⟨bz,oz,none⟩),.pointer (some ⟨bx,ox,none⟩),.pointer (some ⟨eP,oy,none⟩)] w fun e w'=>
   e= .returned (.pointer (some ⟨bz,oz,none⟩))∧Keep (At bz oz) w w'∧bC w' bz oz (x.tdiv y):=by
 have Hz:=zh hz;have Hx:=zh hx;have Hy:=zh hy;have hzl:=hz.lt;clear hz hx hy;go_enter Tryz.func113,Tryz.ntmps113;go_wp2_with fail;have k1:Keep au w (w.alloc (.cells #[.bool false,.slice none 0 0] 125)):=(Keep.refl _ _).alloc _;refine(zO _ bz oz bx ox eP oy w.heap.size 0 x y (Hz.out.ofNewer k1) (dY w) (.inl om) (Hx.out.ofNewer k1) (Hy.out.ofNewer k1) hy0 hsx hsy).mono ?_;rintro e w1 ⟨rfl,hk1,hq,hr⟩;have Hk:=zh (k1.any (S:=At bz oz) |>.trans hk1 fun n o hn h=>by rcases h with h | h;exact h;have:=h.1;omega);have Hq:=zh hq;clear hk1 hq hr k1 hy0;go_wp2;go_returns;exact⟨rfl,Hk.out,Hq.out⟩
theorem DR (a b:Int)(hb:0<b):(Rat.divInt a b).num=a.tdiv (Nat.gcd a.natAbs b.natAbs:Nat)∧((Rat.divInt a b).den:Int)=b.tdiv (Nat.gcd a.natAbs b.natAbs:Nat):=by
 have hg:b.gcd a=Nat.gcd a.natAbs b.natAbs:=by unfold Int.gcd;exact Nat.gcd_comm _ _
 have da:((Nat.gcd a.natAbs b.natAbs:Nat):Int)∣a:=by have:=Nat.gcd_dvd_left a.natAbs b.natAbs;exact Int.ofNat_dvd_left.2 this
 have db:((Nat.gcd a.natAbs b.natAbs:Nat):Int)∣b:=by have:=Nat.gcd_dvd_right a.natAbs b.natAbs;exact Int.ofNat_dvd_left.2 this
 rw [Rat.num_divInt,Rat.den_divInt,hg,if_neg om,Int.sign_eq_one_of_pos hb,Int.one_mul,Int.tdiv_eq_ediv_of_dvd da,Int.tdiv_eq_ediv_of_dvd db];refine⟨rfl,?_⟩;obtain⟨m,rfl⟩:∃m:Nat,b=m:=⟨b.toNat,om⟩;simp
theorem Qq (a b:Int)(hb:b<0):(Rat.divInt a b).num= -(a.tdiv (Nat.gcd a.natAbs b.natAbs:Nat))∧((Rat.divInt a b).den:Int)= -(b.tdiv (Nat.gcd a.natAbs b.natAbs:Nat)):=by
 have h:=DR (-a) (-b) om;rw [Int.natAbs_neg,Int.natAbs_neg,Int.neg_tdiv,Int.neg_tdiv]at h;have e:Rat.divInt (-a) (-b)=Rat.divInt a b:=by
  exact Rat.neg_divInt_neg a b
 rw [e]at h;exact h
theorem Y4 (b:Int)(g:Nat)(hg:0<g)(hd:(g:Int)∣b):(b.tdiv g<0↔b<0):=by
 rw [Int.tdiv_eq_ediv_of_dvd hd];obtain⟨c,rfl⟩:=hd;rw [Int.mul_ediv_cancel_left _ om];constructor
 ·intro h;exact Int.mul_neg_of_pos_of_neg om h
 intro h;rcases Int.lt_or_le c 0 with h' | h'
 ·exact h'
 have:=Int.mul_nonneg (a:=(g:Int)) om h';omega
def eZ (w:World)(b o:Nat)(q:Rat):Prop:=bC w b o q.num∧bC w b (o+2) (q.den:Int)
def iK (w:World)(b o:Nat):Prop:=bQ w b o∧bQ w b (o+2)
def AtR (b o:Nat):Nat→Nat→Prop:=Rf (At b o) (At b (o+2))
theorem gT (w:World):iK (w.alloc (.cells #[.bool false,.slice none 0 0,.bool false,.slice none 0 0] 130)) w.heap.size 0:=
 ⟨⟨_,_,aX _ _ _ rfl,dc,sm,⟨false,sm⟩,none,0,0,sm⟩,⟨_,_,aX _ _ _ rfl,dc,sm,⟨false,sm⟩,none,0,0,sm⟩⟩
theorem eZ.ofNewer {w w':World}{b o:Nat}{q:Rat}(h:eZ w b o q)(k:Keep au w w'):eZ w' b o q:=⟨h.1.ofNewer k,h.2.ofNewer k⟩
theorem iK.ofNewer {w w':World}{b o:Nat}(h:iK w b o)(k:Keep au w w'):iK w' b o:=⟨bQ.ofNewer h.1 k,bQ.ofNewer h.2 k⟩
abbrev intCells:Array Value:= #[.bool false,.slice none 0 0]
def zac (a b:Int):Prop:=∀(w:World) (bz oz ba oa bb ob:Nat),bQ w bz oz→bC w ba oa a→bC w bb ob b→
  Calls Tryz.prog 64 #[.pointer (some ⟨bz,oz,none⟩),.pointer none,.pointer none,.pointer (some ⟨ba,oa,none⟩),.pointer (some ⟨bb,ob,none⟩)] w fun e w'=>
   e= .returned (.pointer (some ⟨bz,oz,none⟩))∧Keep (At bz oz) w w'∧bC w' bz oz (Nat.gcd a.natAbs b.natAbs:Nat)
def WM (a b:Int):Prop:=∀(w:World) (bz oz ba oa bb ob:Nat),bQ w bz oz→bC w ba oa a→bC w bb ob b→
  Calls Tryz.prog 113 #[.pointer (some ⟨bz,oz,none⟩),.pointer (some ⟨ba,oa,none⟩),.pointer (some ⟨bb,ob,none⟩)] w fun e w'=>
   e= .returned (.pointer (some ⟨bz,oz,none⟩))∧Keep (At bz oz) w w'∧bC w' bz oz (a.tdiv b)
theorem qj (a:Int)(g:Nat):(a.tdiv g).natAbs≤a.natAbs:=by
 rw [Int.natAbs_tdiv];exact Nat.div_le_self _ _
theorem E8 (w:World)(bz oz ba oa bb ob:Nat)(a b:Int)(hz:iK w bz oz)(ha:bC w ba oa a)(hb:bC w bb ob b)(hb0:b≠0)(ha1:a.natAbs<BIG)(hb1:b.natAbs<BIG)
  (G:zac a b) (Qa:WM a (Nat.gcd a.natAbs b.natAbs:Nat)) (Qb:WM b (Nat.gcd a.natAbs b.natAbs:Nat)):
  Calls Tryz.prog 72 #[.pointer (some ⟨bz,oz,none⟩),.pointer (some ⟨ba,oa,none⟩),.pointer (some ⟨bb,ob,none⟩)] w fun e w'=>
   e= .returned (.pointer (some ⟨bz,oz,none⟩))∧Keep (AtR bz oz) w w'∧eZ w' bz oz (Rat.divInt a b):=by
 have hg0:0<Nat.gcd a.natAbs b.natAbs:=Nat.gcd_pos_of_pos_right _ om;have Hz:=zh hz;have Ha:=zh ha;have Hb:=zh hb;have HG:=zh G;have HQa:=zh Qa;have HQb:=zh Qb;have Hg0:=zh hg0;have Ha1:=zh (Nat.lt_of_le_of_lt (qj a (Nat.gcd a.natAbs b.natAbs)) ha1);have Hb1:=zh (Nat.lt_of_le_of_lt (qj b (Nat.gcd a.natAbs b.natAbs)) hb1);have Hs:=zh (Y4 b (Nat.gcd a.natAbs b.natAbs) hg0 (Int.ofNat_dvd_left.2 (Nat.gcd_dvd_right a.natAbs b.natAbs)));have hzl:=hz.1.lt;clear hz ha hb G Qa Qb hg0 ha1 hb1;go_enter Tryz.func72,Tryz.ntmps72;go_wp2_with fail;have k1:Keep au w (w.alloc (.cells intCells 125)):=(Keep.refl _ _).alloc _;refine(HG.out _ w.heap.size 0 ba oa bb ob (dY w) (Ha.out.ofNewer k1) (Hb.out.ofNewer k1)).mono ?_;rintro e w1 ⟨rfl,hk1,hg1⟩;have K1:=zh (k1.trans hk1 fun n o hn h=>by have:=h.1;omega);have Hg1:=zh hg1;have hs1:w.heap.size+1≤w1.heap.size:=by have:=hk1.size;simpa using this
 clear k1 hk1 hg1;go_wp2_with fail;have k2:Keep au w1 (w1.alloc (.cells intCells 125)):=(Keep.refl _ _).alloc _;refine(HQa.out _ w1.heap.size 0 ba oa w.heap.size 0 (dY w1) ((Ha.out.ofNewer K1.out).ofNewer k2) (Hg1.out.ofNewer k2)).mono ?_;rintro e w2 ⟨rfl,hk2,hx2⟩;have K2:=zh (k2.trans hk2 fun n o hn h=>by have:=h.1;omega);have Hx2:=zh hx2;have hs2:w1.heap.size+1≤w2.heap.size:=by have:=hk2.size;simpa using this
 clear k2 hk2 hx2;go_wp2_with fail;have k3:Keep au w2 (w2.alloc (.cells intCells 125)):=(Keep.refl _ _).alloc _;refine(HQb.out _ w2.heap.size 0 bb ob w.heap.size 0 (dY w2) (((Hb.out.ofNewer K1.out).ofNewer K2.out).ofNewer k3) ((Hg1.out.ofNewer K2.out).ofNewer k3)).mono ?_;rintro e w3 ⟨rfl,hk3,hy3⟩;have K3:=zh (k3.trans hk3 fun n o hn h=>by have:=h.1;omega);have Hx3:=zh (Hx2.out.ofNewer K3.out);have Hy3:=zh hy3;have hs3:w2.heap.size+1≤w3.heap.size:=by have:=hk3.size;simpa using this
 have Hz3:=zh (((Hz.out.ofNewer K1.out).ofNewer K2.out).ofNewer K3.out);have K03:=zh ((K1.out.trans K2.out fun _ _ _ h=>h).trans K3.out fun _ _ _ h=>h);obtain⟨neg,ds,yM,hn,hne,hzy,h1,h2,h3⟩:=hy3.open;obtain⟨g',cap',yc0,yc1,_,_,yb,_,_,_,_,_⟩:=yM.open;have H1:=zh h1;clear k3 hk3 hy3 yM hn hne hzy h1 h2 h3 Hg1 Hx2 K1 K2 K3 Ha Hb
 by_cases hs:b<0
 ·obtain rfl:neg=true:=H1.out.2 (Hs.out.2 hs);have Hr:=zh (Qq a b hs);go_wp2_with fail;refine(Di _ w1.heap.size 0 w1.heap.size 0 _ Hx3.out.hdr Hx3.out Ha1.out).mono ?_;rintro e w4 ⟨rfl,hk4,hi4⟩;have Hy4:=zh (Hy3.out.keep hk4 (Hx3.out.hdr.off (.inl om)));have Hz4:Hid (iK w4 bz oz):=zh ⟨Hz3.out.1.keep hk4 (Hx3.out.hdr.off (.inl om)),Hz3.out.2.keep hk4 (Hx3.out.hdr.off (.inl om))⟩;have Hk4:=zh (K03.out.trans hk4 fun n o hn h=>by have:=h.1;omega);have Hx4:=zh hi4;clear hk4 hi4;go_wp2_with fail;refine(Di _ w2.heap.size 0 w2.heap.size 0 _ Hy4.out.hdr Hy4.out Hb1.out).mono ?_;rintro e w5 ⟨rfl,hk5,hi5⟩;have Hx5:=zh (Hx4.out.keep hk5 (Hy4.out.hdr.off (.inl om)));have Hz5:Hid (iK w5 bz oz):=zh ⟨Hz4.out.1.keep hk5 (Hy4.out.hdr.off (.inl om)),Hz4.out.2.keep hk5 (Hy4.out.hdr.off (.inl om))⟩;have Hk5:=zh (Hk4.out.trans hk5 fun n o hn h=>by have:=h.1;omega);have Hy5:=zh hi5;have Ha2:Hid ((-(a.tdiv (Nat.gcd a.natAbs b.natAbs:Nat))).natAbs<BIG):=zh (by rw [Int.natAbs_neg];exact Ha1.out);have Hb2:Hid ((-(b.tdiv (Nat.gcd a.natAbs b.natAbs:Nat))).natAbs<BIG):=zh (by rw [Int.natAbs_neg];exact Hb1.out);clear hk5 hi5 yc0 yc1 yb;go_wp2_with fail;refine(jK _ bz oz w1.heap.size 0 _ Hz5.out.1 Hx5.out Ha2.out).mono ?_;rintro e w6 ⟨rfl,hk6,hi6⟩;have Hy6:=zh (Hy5.out.keep hk6 (Hz5.out.1.off (.inl om)));have Hz6:=zh (Hz5.out.2.keep hk6 (Hz5.out.1.off (.inr (.inr om))));have Hk6:=zh hk6;have Hi6:=zh hi6;clear hk6 hi6;go_wp2_with fail;refine(jK _ bz (oz+2) w2.heap.size 0 _ Hz6.out Hy6.out Hb2.out).mono ?_;rintro e w7 ⟨rfl,hk7,hi7⟩;have Hi7:=zh (Hi6.out.keep hk7 (Hz6.out.off (.inr (.inl om))));have Hk7:=zh hk7;have Hj7:=zh hi7;clear hk7 hi7;go_wp2;go_returns;refine⟨rfl,(Hk5.out.any.trans Hk6.out fun _ _ _ h=> .inl h).trans Hk7.out fun _ _ _ h=> .inr h,?_,?_⟩
  ·rw [Hr.out.1];exact Hi7.out
  rw [Hr.out.2];exact Hj7.out
 obtain rfl:neg=false:=by
  cases neg
  ·rfl
  exact absurd (Hs.out.1 (H1.out.1 rfl)) hs
 have Hr:=zh (DR a b om);go_wp2_with fail;refine(jK _ bz oz w1.heap.size 0 _ Hz3.out.1 Hx3.out Ha1.out).mono ?_;rintro e w6 ⟨rfl,hk6,hi6⟩;have Hy6:=zh (Hy3.out.keep hk6 (Hz3.out.1.off (.inl om)));have Hz6:=zh (Hz3.out.2.keep hk6 (Hz3.out.1.off (.inr (.inr om))));have Hk6:=zh hk6;have Hi6:=zh hi6;clear hk6 hi6;go_wp2_with fail;refine(jK _ bz (oz+2) w2.heap.size 0 _ Hz6.out Hy6.out Hb1.out).mono ?_;rintro e w7 ⟨rfl,hk7,hi7⟩;have Hi7:=zh (Hi6.out.keep hk7 (Hz6.out.off (.inr (.inl om))));have Hk7:=zh hk7;have Hj7:=zh hi7;clear hk7 hi7;go_wp2;go_returns;refine⟨rfl,(K03.out.any.trans Hk6.out fun _ _ _ h=> .inl h).trans Hk7.out fun _ _ _ h=> .inr h,?_,?_⟩
 ·rw [Hr.out.1];exact Hi7.out
 rw [Hr.out.2];exact Hj7.out
theorem Js (a b:Int)(ha:a.natAbs<18446744073709551616)(hb:b.natAbs<18446744073709551616):zac a b:=
 fun w bz oz ba oa bb ob hz hx hy=>sN w bz oz ba oa bb ob a b hz hx hy ha hb
theorem zP (a b:Int)(hb0:b≠0)(ha:a.natAbs<18446744073709551616)(hb:b.natAbs<18446744073709551616):WM a b:=
 fun w bz oz ba oa bb ob hz hx hy=>Td w bz oz ba oa bb ob a b hz hx hy hb0 ha hb
theorem FW (w:World)(bz oz ba oa bb ob:Nat)(a b:Int)(hz:iK w bz oz)(ha:bC w ba oa a)(hb:bC w bb ob b)(hb0:b≠0)
  (ha1:a.natAbs<18446744073709551616) (hb1:b.natAbs<18446744073709551616):
  Calls Tryz.prog 72 #[.pointer (some ⟨bz,oz,none⟩),.pointer (some ⟨ba,oa,none⟩),.pointer (some ⟨bb,ob,none⟩)] w fun e w'=>
   e= .returned (.pointer (some ⟨bz,oz,none⟩))∧Keep (AtR bz oz) w w'∧eZ w' bz oz (Rat.divInt a b):=by
 have hg0:0<Nat.gcd a.natAbs b.natAbs:=Nat.gcd_pos_of_pos_right _ om;have hg1:Nat.gcd a.natAbs b.natAbs≤b.natAbs:=Nat.gcd_le_right _ om;exact E8 w bz oz ba oa bb ob a b hz ha hb hb0 (xV (k:=2) om om) (xV (k:=2) om om) (Js a b ha1 hb1)
  (zP _ _ om ha1 (by simp;omega)) (zP _ _ om hb1 (by simp;omega))
def zck (z:Int)(w:World)(e:Ending)(w':World):Prop:=∃b,w.heap.size≤b∧e= .returned (.pointer (some ⟨b,0,none⟩))∧Keep au w w'∧bC w' b 0 z
theorem Dj (w:World)(b o:Nat)(q:Rat)(h:eZ w b o q)(hn:q.num.natAbs<BIG):Calls Tryz.prog 109 #[.pointer (some ⟨b,o,none⟩)] w (zck q.num w):=by
 have H:=zh h;have Hn:=zh hn;clear h hn;go_enter Tryz.func109,Tryz.ntmps109;go_wp2_with fail;have k1:Keep au w (w.alloc (.cells intCells 125)):=(Keep.refl _ _).alloc _;refine(jK _ w.heap.size 0 b o _ (dY w) (H.out.1.ofNewer k1) Hn.out).mono ?_;rintro e w1 ⟨rfl,hk1,hi1⟩;have K1:=zh (k1.trans hk1 fun n o hn h=>by have:=h.1;omega);have Hi:=zh hi1;clear k1 hk1 hi1;go_wp2;go_returns;exact⟨_,Nat.le_refl _,rfl,K1.out,Hi.out⟩
theorem mF (w:World)(b o:Nat)(q:Rat)(h:eZ w b o q)(hn:q.den<BIG):Calls Tryz.prog 110 #[.pointer (some ⟨b,o,none⟩)] w (zck q.den w):=by
 have hp:(q.den:Int).sign=1:=Int.sign_eq_one_of_pos (by have:=q.den_pos;omega);have Hp:=zh hp;have H:=zh h;have Hn:Hid ((q.den:Int).natAbs<BIG):=zh (by simpa using hn);clear h hn hp;go_enter Tryz.func110,Tryz.ntmps110;go_wp2_with fail;refine(yP _ b (o+2) _ H.out.2).mono ?_;rintro e w1 ⟨rfl,rfl⟩;rw [Hp.out];go_wp2_with fail;have k1:Keep au w (w.alloc (.cells intCells 125)):=(Keep.refl _ _).alloc _;refine(jK _ w.heap.size 0 b (o+2) _ (dY w) (H.out.2.ofNewer k1) Hn.out).mono ?_;rintro e w1 ⟨rfl,hk1,hi1⟩;have K1:=zh (k1.trans hk1 fun n o hn h=>by have:=h.1;omega);have Hi:=zh hi1;clear k1 hk1 hi1;go_wp2;go_returns;exact⟨_,Nat.le_refl _,rfl,K1.out,Hi.out⟩
def Fits (q:Rat):Prop:=q.num.natAbs≤1073741824∧q.den≤1073741824
instance (q:Rat):Decidable (Fits q):=by unfold Fits;infer_instance
def qL (q:Rat):Value:=if Fits q then .tuple #[zaa q.num q.den,.bool true]else .tuple #[zaa 0 0,.bool false]
theorem dO (w:World)(n:Nat):Keep au w (w.drewN n):=(Keep.refl au w).drewN n
theorem Keep.cell {w w':World}(h:Keep au w w'){k i:Nat}(hk:k<w.heap.size):w'.cell? ⟨k,i,none⟩=w.cell? ⟨k,i,none⟩:=World.cell?_of_block (w:=w) (h.block k hk fun _ h=>h)
theorem Keep.frozen {w w':World}(h:Keep au w w'){k i:Nat}(hk:k<w.heap.size):w'.frozen? ⟨k,i,none⟩=w.frozen? ⟨k,i,none⟩:=World.frozen?_of_block (w:=w) (h.block k hk fun _ h=>h)
theorem Below.keep {w w':World}(h:Below w.heap.size w w'):Keep au w w':=Keep.of_below h (Nat.le_refl _)
theorem Keep.bel {w w':World}(h:Keep au w w'):Below w.heap.size w w':=h.below (Nat.le_refl _) fun _ _ h=>h.elim
@[go_sem] theorem Y5 (a b:Int) (w:World):(Instr.field 28 (.agg #[.int .i64 a,.int .i64 b]) 0).run Tryz.prog w= .ok (.int .i64 a) w:=kr
@[go_sem] theorem Y6 (a b:Int) (w:World):(Instr.field 28 (.agg #[.int .i64 a,.int .i64 b]) 1).run Tryz.prog w= .ok (.int .i64 b) w:=kr
def aL (w:World)(k:Nat)(A:Array Value):Prop:=∃t,w.heap[k]? =some (.cells A t (0,0))
theorem aP {w:World}(A:Array Value)(t:TypeId){k:Nat}(h:k=w.heap.size):aL (w.alloc (.cells A t)) k A:=⟨t,aX _ _ _ h⟩
theorem aL.lt {w:World}{k:Nat}{A:Array Value}(h:aL w k A):k<w.heap.size:=by obtain⟨t,h⟩:=h;exact lt_of_heap h
theorem aL.old {w:World}{k:Nat}{A:Array Value}(h:aL w k A)(o:Obj):aL (w.alloc o) k A:=by
 have hl:=h.lt;obtain⟨t,h⟩:=h;exact⟨t,(heap_alloc_old _ _ _ hl).trans h⟩
theorem aL.keep {w w':World}{k:Nat}{A:Array Value}(h:aL w k A)(hk:Keep au w w'):aL w' k A:=by
 have hl:=h.lt;obtain⟨t,h⟩:=h;exact⟨t,(hk.block k hl fun _ h=>h).trans h⟩
theorem aL.cell {w:World}{k:Nat}{A:Array Value}(h:aL w k A)(i:Nat):w.cell? ⟨k,i,none⟩=A[i]? :=by obtain⟨t,h⟩:=h;simp [World.cell?,h]
theorem aL.free {w:World}{k:Nat}{A:Array Value}(h:aL w k A)(i:Nat):w.frozen? ⟨k,i,none⟩=false:=by obtain⟨t,h⟩:=h;simp [World.frozen?,h]
theorem aL.two {w:World}{k:Nat}{x y:Value}(h:aL w k #[x,y]):
  w.cell? ⟨k,0,none⟩=some x∧w.cell? ⟨k,1,none⟩=some y∧w.frozen? ⟨k,0,none⟩=false∧w.frozen? ⟨k,1,none⟩=false∧k<w.heap.size:=
 ⟨h.cell 0,h.cell 1,h.free 0,h.free 1,h.lt⟩
def fr (n d:Int):Rat:=Rat.divInt n d
section
variable {n1 d1 n2 d2:Int} (h1:dW n1 d1) (h2:dW n2 d2)
end
end Go.Proofs.YtaiffmebphhdaaaGreat
