/- The law CutTrue holds for every input: CutTrue of the package umpiragelaw5 returns true, and each argument reads behind the call as it read before. -/
import Derived.Test.YtaiffmebphhdaaaGreatRows
import Derived.Test.YtaiffmebphhdaaaGreatCutTrueW
import Derived.WalkKit
import Derived.ProofKit
import Derived.OpenShut
import Derived.Below
import Derived.Carry
import Derived.Lib.SmallJoins
import Derived.Test.YtaiffmebphhdaaaGreatPtAA
import Derived.Test.YtaiffmebphhdaaaGreatCuDD
namespace Go.Proofs.YtaiffmebphhdaaaGreat.cutTrue
set_option maxRecDepth 100000
set_option linter.unusedSimpArgs false
set_option linter.unusedVariables false
open Go.ChangeShapes Go.WideShapes Go.ChangeAt Go.RowKit Go.Joins
theorem own:ownKnob Tryz.prog.godebug=none:=kr
theorem laidOut:laidOutB Tryz.prog=true:=kr
theorem lifted (os:Os)(started:os.Started)(H:Type)(enc:TypeId × Value→H):
  ReturnsInHanded {} Tryz.checked os 4 .any (Rows.cutTrueSpec.pre6 enc Tryz.prog Tryz.f4 Rows.cutTrueRow.domain false) (Rows.cutTrueSpec.post enc Tryz.prog Tryz.f4 false true false false):=by
 refine returnsInHanded_of_change (C:=Tryz.checked) own started kr Tryz.func4
  (ChangeSpec.witness6 (enc:=enc) (C:=Tryz.checked) false ⟨#[],#[.slice none 0 0,.slice none 0 0,.int .i64 0],[]⟩ 8 kr kr kr kr) ?_
 intro W base args ds gs before hval0 hW hcnd _;have hval:∀(j:Nat) t v,Tryz.f4.params[j]? =some t→args[j]? =some v→Value.okWide Tryz.prog W .any base t v:=hval0;have hW':=hW;obtain⟨p,q,JV,hV,rfl,hfz,hnd⟩:=hW;have hA:DataW.TrodAll enc Tryz.prog W 0 (fun _=>true) true Tryz.f4.params.toList args.toList ds p:=JV;rw [Tryz.params4]at hA hval;obtain⟨v0,vs0,d0,ds0,p0,q0,hargs,rfl,rfl,h0,r0⟩:=trodAll_cons hA;obtain⟨v1,vs1,d1,ds1,p1,q1,rfl,rfl,rfl,h1,r1⟩:=trodAll_cons r0;obtain⟨v2,vs2,d2,ds2,p2,q2,rfl,rfl,rfl,h2,r2⟩:=trodAll_cons r1;obtain⟨rfl,rfl,rfl⟩:=trodAll_nil r2;obtain rfl:args= #[v0,v1,v2]:=by cases args;simp_all
 obtain⟨rfl,rfl⟩:=trodVars_none hV;have k0:=h0;have lt0:∀x∈p0,x.block<W.heap.size:=by obtain⟨m,hm⟩:=k0;exact DataW.trod_lt m _ _ _ hm
 have s0:∀W',Below W.heap.size W W'→DataW.Trod enc Tryz.prog W' 0 (fun b=>decide (b<W.heap.size)) true 22 v0 d0 p0:=fun W' bel=>Below.trod laidOut kr (of_decide_eq_true kr) k0 bel lt0;obtain⟨a0,w0⟩:=Yx (hval 0 22 v0 rfl rfl) h0;have k1:=h1;have lt1:∀x∈p1,x.block<W.heap.size:=by obtain⟨m,hm⟩:=k1;exact DataW.trod_lt m _ _ _ hm
 have s1:∀W',Below W.heap.size W W'→DataW.Trod enc Tryz.prog W' 0 (fun b=>decide (b<W.heap.size)) true 23 v1 d1 p1:=fun W' bel=>Below.trod laidOut kr (of_decide_eq_true kr) k1 bel lt1;obtain⟨a1,w1⟩:=Vy (hval 1 23 v1 rfl rfl) h1;have k2:=h2;have lt2:∀x∈p2,x.block<W.heap.size:=by obtain⟨m,hm⟩:=k2;exact DataW.trod_lt m _ _ _ hm
 have s2:∀W',Below W.heap.size W W'→DataW.Trod enc Tryz.prog W' 0 (fun b=>decide (b<W.heap.size)) true 3 v2 d2 p2:=fun W' bel=>Below.trod laidOut kr (of_decide_eq_true kr) k2 bel lt2;obtain⟨a2,rfl,w2⟩:=zaD (hval 2 3 v2 rfl rfl) h2;clear JV hval0;refine(Ja W _ _ _ _ _ w0 w1 w2).mono fun e W' ⟨he,bel⟩=> ?_;subst he;exact⟨_,rfl,_,_,_,[],_,[],hW',trodAll_mk1 (shut_bool Tryz.underlying4 _),(trodAll_cons_mk (s0 W' bel) (trodAll_cons_mk (s1 W' bel) (trodAll_cons_mk (s2 W' bel) trodAll_mk0))),rfl,bel.frame _,fun h=>by cases h⟩
theorem over:Rows.cutTrueRow.holds Tryz.pinned (OpenSpec.ofChange Rows.cutTrueSpec):=
 OpenClaim.holds_of_wide 4 Tryz.f4 rfl rfl rfl rfl rfl rfl rfl ⟨rfl,rfl,rfl,rfl,rfl⟩ rfl rfl rfl rfl rfl kr Tryz.func4 kr
  (of_decide_eq_true kr) (by unfold Func.isWrapper;first | (rw [if_pos (by decide +kernel)];kernel_rfl) | (rw [if_neg (by decide +kernel)];exact⟨rfl,rfl⟩))
  (fun os started H enc _=>lifted os started H enc)
theorem proved:Rows.CutTrueSaid:=over
#print axioms proved
end Go.Proofs.YtaiffmebphhdaaaGreat.cutTrue
