/- The law LatticeAll holds for every input of bulk at most 1048576: LatticeAll of the package umpiragelaw5 returns true, and each argument reads behind the call as it read before. -/
import Derived.Test.YtcnjcnjipddgeaaGreatRows
import Derived.Test.YtcnjcnjipddgeaaGreatLatticeAllW
import Derived.WalkKit
import Derived.ProofKit
import Derived.OpenShut
import Derived.Below
import Derived.Carry
import Derived.Lib.SmallJoins
import Derived.JoinedCond
import Derived.Test.YtcnjcnjipddgeaaGreatPtAA
import Derived.Test.YtcnjcnjipddgeaaGreatBaseB
namespace Go.Proofs.YtcnjcnjipddgeaaGreat.latticeAll
set_option maxRecDepth 100000
set_option linter.unusedSimpArgs false
set_option linter.unusedVariables false
open Go.ChangeShapes Go.WideShapes Go.ChangeAt Go.RowKit Go.Joins
theorem own:ownKnob Tryz.prog.godebug=none:=by kernel_rfl
theorem laidOut:laidOutB Tryz.prog=true:=by kernel_rfl
theorem bulk_one {H:Type}(d:DataW H):1≤Rows.uptoBulk d:=by
 cases d with
 | lit l=>cases l<;>simp [Rows.uptoBulk]
 | nil=>simp [Rows.uptoBulk]
 | ptr d=>simp [Rows.uptoBulk]
 | slice elems spare=>simp [Rows.uptoBulk]
 | agg parts=>simp [Rows.uptoBulk]
 | iface t d=>simp [Rows.uptoBulk]
 | map entries=>simp [Rows.uptoBulk]
 | held h=>simp [Rows.uptoBulk]
theorem bulk_len {H:Type}(l:List (DataW H)):l.length≤Rows.uptoBulkAll l:=by
 induction l with
 | nil=>simp [Rows.uptoBulkAll]
 | cons x r ih=>have:=bulk_one x;simp only [Rows.uptoBulkAll,List.length_cons];omega
theorem bulk_slice {H:Type}(elems spare:List (DataW H)):elems.length≤Rows.uptoBulk (.slice elems spare):=by
 have h1:=bulk_len elems;simp only [Rows.uptoBulk];omega
theorem ints_bulk {H:Type}{enc:TypeId × Value→H}{W:World}{base:Nat}{d:DataW H}{p:List MemPlace}{v:Value}{xs:List Int}(hx:IsInts W v xs)(hv:Value.okWide Tryz.prog W .any base 24 v)(h:DataW.Trod enc Tryz.prog W 0 (fun _=>true) true 24 v d p):xs.length≤Rows.uptoBulk d:=by
 obtain⟨oa,cap0,rfl,_⟩:=hx.len;obtain⟨a0,len,cap,e⟩:=okWide_slice Tryz.underlying24 hv;obtain⟨fuel,hf⟩:=h
 rcases open_ints Tryz.underlying24 Tryz.underlying3 (by kernel_rfl) hf with⟨hcs,_⟩ | ⟨a,len',cap',zs,hcs,_,hl,hm,hz,hy,hc,hwf⟩
 ·simp [Value.cells]at hcs
  have h0:=hcs.2.1;rw [h0];exact Nat.zero_le _
 ·simp [Value.cells]at hcs
  obtain⟨_,rfl,rfl⟩:=hcs;simp at hz;have hd:=congrArg Prod.fst hy;simp only at hd;subst hd;refine Nat.le_trans ?_ (bulk_slice _ _);simp only [lits,List.length_map,List.length_take];omega
theorem lifted (os:Os)(started:os.Started)(H:Type)(enc:TypeId × Value→H)(F:Stop.Interp):
  ReturnsInHanded {} Tryz.checked os 4 .any ((Rows.OpenSpec.upto Rows.latticeAllSpec).pre6 enc Tryz.prog Tryz.f4 Rows.latticeAllUptoRow.domain false) (((Rows.OpenSpec.upto Rows.latticeAllSpec).at F).post enc Tryz.prog Tryz.f4 false true false false):=by
 refine returnsInHanded_of_cond (C:=Tryz.checked) (s:=Rows.OpenSpec.upto Rows.latticeAllSpec) (k:=Rows.uptoSmall) rfl own started (by kernel_rfl) Tryz.func4
  (OpenSpec.witness (enc:=enc) (C:=Tryz.checked) (s:=Rows.OpenSpec.upto Rows.latticeAllSpec) (k:=Rows.uptoSmall) rfl false ⟨#[],#[.slice none 0 0,.int .i64 0,.slice none 0 0],[]⟩ 8 (by kernel_rfl) (by kernel_rfl) (by kernel_rfl)
   (x:=([.nil,.lit (.int .i64 0),.nil],[],[])) (by kernel_rfl) rfl (by kernel_rfl)) ?_
 intro W base args ds gs before hval0 hW hcnd hk _;have hval:∀(j:Nat) t v,Tryz.f4.params[j]? =some t→args[j]? =some v→Value.okWide Tryz.prog W .any base t v:=hval0;have hW':=hW;obtain⟨p,q,hA0,hV,rfl,hfz,hnd⟩:=hW;have hA:DataW.TrodAll enc Tryz.prog W 0 (fun _=>true) true Tryz.f4.params.toList args.toList ds p:=hA0
 rw [Tryz.params4]at hA hval;obtain⟨v0,vs0,d0,ds0,p0,q0,hargs,rfl,rfl,h0,r0⟩:=trodAll_cons hA;obtain⟨v1,vs1,d1,ds1,p1,q1,rfl,rfl,rfl,h1,r1⟩:=trodAll_cons r0;obtain⟨v2,vs2,d2,ds2,p2,q2,rfl,rfl,rfl,h2,r2⟩:=trodAll_cons r1;obtain⟨rfl,rfl,rfl⟩:=trodAll_nil r2;obtain rfl:args= #[v0,v1,v2]:=by cases args;simp_all
 obtain⟨rfl,rfl⟩:=trodVars_none hV;have k0:=h0;have lt0:∀x∈p0,x.block<W.heap.size:=by obtain⟨m,hm⟩:=k0;exact DataW.trod_lt m _ _ _ hm
 have s0:∀W',Below W.heap.size W W'→DataW.Trod enc Tryz.prog W' 0 (fun b=>decide (b<W.heap.size)) true 22 v0 d0 p0:=fun W' bel=>Below.trod laidOut (by kernel_rfl) (of_decide_eq_true (by kernel_rfl)) k0 bel lt0
 obtain⟨a0,w0⟩:=in_rows (hval 0 22 v0 rfl rfl) h0;have k1:=h1;have lt1:∀x∈p1,x.block<W.heap.size:=by obtain⟨m,hm⟩:=k1;exact DataW.trod_lt m _ _ _ hm
 have s1:∀W',Below W.heap.size W W'→DataW.Trod enc Tryz.prog W' 0 (fun b=>decide (b<W.heap.size)) true 3 v1 d1 p1:=fun W' bel=>Below.trod laidOut (by kernel_rfl) (of_decide_eq_true (by kernel_rfl)) k1 bel lt1
 obtain⟨a1,rfl,w1⟩:=in_int (hval 1 3 v1 rfl rfl) h1;have k2:=h2;have lt2:∀x∈p2,x.block<W.heap.size:=by obtain⟨m,hm⟩:=k2;exact DataW.trod_lt m _ _ _ hm
 have s2:∀W',Below W.heap.size W W'→DataW.Trod enc Tryz.prog W' 0 (fun b=>decide (b<W.heap.size)) true 24 v2 d2 p2:=fun W' bel=>Below.trod laidOut (by kernel_rfl) (of_decide_eq_true (by kernel_rfl)) k2 bel lt2
 obtain⟨a2,w2⟩:=in_ints (hval 2 24 v2 rfl rfl) h2;have hlen:a2.length≤1048576:=by
  have h:=ints_bulk w2 (hval 2 24 v2 rfl rfl) h2;have hb:Rows.uptoBulkAll [d0,d1,d2]≤1048576:=of_decide_eq_true (by simpa [Rows.uptoSmall]using hk)
  simp only [Rows.uptoBulkAll]at hb;omega
 clear hA0 hval0;refine(latticeAll_walk W _ _ _ _ _ w0 w1 w2 hlen).mono fun e W' ⟨he,bel⟩=> ?_
 subst he;exact⟨_,rfl,_,_,_,[],_,[],hW',trodAll_mk1 (shut_bool Tryz.underlying4 _),(trodAll_cons_mk (s0 W' bel) (trodAll_cons_mk (s1 W' bel) (trodAll_cons_mk (s2 W' bel) trodAll_mk0))),rfl,bel.frame _,fun h=>by cases h⟩
theorem over:Rows.latticeAllUptoRow.holds Tryz.pinned (Rows.OpenSpec.upto Rows.latticeAllSpec):=
 OpenClaim.holds_of_cond 4 Tryz.f4 rfl rfl rfl rfl rfl rfl rfl ⟨rfl,rfl,rfl,rfl,rfl⟩ rfl rfl rfl rfl rfl (by kernel_rfl) Tryz.func4 (by kernel_rfl)
  (of_decide_eq_true (by kernel_rfl)) (by unfold Func.isWrapper;first | (rw [if_pos (by decide +kernel)];kernel_rfl) | (rw [if_neg (by decide +kernel)];exact⟨rfl,rfl⟩))
  (fun os started H enc _ F=>lifted os started H enc F)
theorem proved:Rows.LatticeAllUptoSaid:=over
#print axioms proved
end Go.Proofs.YtcnjcnjipddgeaaGreat.latticeAll
