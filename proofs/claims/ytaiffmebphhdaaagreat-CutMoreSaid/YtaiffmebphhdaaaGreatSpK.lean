/- Rows appended to rows of the call's own; parts of slices of rows. -/
import Derived.Test.YtaiffmebphhdaaaGreatOwnG
namespace Go.Proofs.YtaiffmebphhdaaaGreat
set_option linter.unusedSimpArgs false
set_option linter.unusedVariables false
open Go.ChangeShapes Go.WideShapes Go.RowKit
theorem O0:(Tryz.prog.info? tZ).map (fun i=>(i.zero,i.size,i.bytes))=some (some (.agg #[.slice none 0 0,.int .i64 0,.int .i64 0]),3,40):=by kernel_rfl
theorem UW {α:Type}{K:Nat}{c:α→List Value}(hK:∀x,(c x).length=K)(l:List α):(l.flatMap c).length=l.length*K:=by
 induction l with
 | nil=>simp
 | cons g t ih=>
  rw [List.flatMap_cons,List.length_append,ih,hK,List.length_cons,Nat.succ_mul,Nat.add_comm]
theorem UZ {w:World}{x:vZ}(h:bC w x.sv x.r.of):∀u∈AQ x,u.oneCell'=true:=by
 obtain⟨oa,cap,e,_⟩:=h.len;intro u hu;simp [AQ]at hu
 rcases hu with rfl | rfl | rfl
 ·rw [e];rfl
 ·rfl
 ·rfl
theorem Lf {w:World}{b:Nat}:∀(xs:List Rw) (o:Nat),(∀i r,xs[i]? =some r→Lg w b (o+i*3) r)→∃ys:List vZ,ys.map vZ.r=xs∧(∀x∈ys,bC w x.sv x.r.of∧fK x.r.kind∧fK x.r.to∧pz x.sv)∧∀j u,(ys.flatMap AQ)[j]? =some u→w.cell? ⟨b,o+j,none⟩=some u
 | [],o,_=>⟨[],rfl,by simp,by simp⟩
 | r::xs,o,h=>by
  obtain⟨sv,c0,c1,c2,hi,h5⟩:=h 0 r rfl;rw [Nat.zero_mul,Nat.add_zero]at c0 c1 c2;obtain⟨ys,e,hy,hc⟩:=Lf xs (o+3) (fun i x hx=>by
   have:=h (i+1) x (by simpa using hx)
   rw [show o+(i+1)*3=o+3+i*3 by omega]at this
   exact this)
  refine⟨⟨sv,r⟩::ys,by simp [e],?_,?_⟩
  ·intro x hx
   rcases List.mem_cons.1 hx with rfl | hx
   ·exact ⟨hi,h5⟩
   ·exact hy x hx
  ·intro j u hj
   rw [List.flatMap_cons]at hj
   rcases j with _ | _ | _ | j
   ·simp [AQ]at hj;subst hj;exact c0
   ·simp [AQ]at hj;subst hj;exact c1
   ·simp [AQ]at hj;subst hj;exact c2
   ·have:=hc j u (by simpa [AQ]using hj)
    rw [show o+(j+1+1+1)=o+3+j by omega]
    exact this
theorem Lh {w0 w:World}{base:Nat}{v:Value}{l:List Rw}(hown:jQ w0 w base v l){u:Value}{xs:List Rw}(hu:bW w0 u xs)(k:Keep au w0 w)(hl:(l.length+xs.length)*40≤140737488355328)(hbase:base≤w.heap.size):
  ∃v' w',(Builtin.append_ #[22,22] 22 #[v,u]).run Tryz.prog w= .ok v' w'∧jQ w0 w' base v' (l++xs)∧w.grownBy w' v.ownBlock:=by
 obtain⟨i0,hi0,hz0,hz1,hz2⟩:=info_parts O0;obtain⟨zs,rfl,h2,h3⟩:=hown;rw [List.length_map]at hl;obtain⟨oa,cap,rfl,h4,h5,h6⟩:=hu;obtain⟨ys,hys,hy,hsrc⟩:∃ys:List vZ,ys.map vZ.r=xs∧(∀x∈ys,bC w0 x.sv x.r.of∧fK x.r.kind∧fK x.r.to∧pz x.sv)∧(0<xs.length→∃a,oa=some a∧∀j u,(ys.flatMap AQ)[j]? =some u→w.cell? (a.add j)=some u):=by
  by_cases hne:xs= []
  ·subst hne
   exact⟨[],rfl,by simp,fun h=>absurd h (by simp)⟩
  ·obtain ⟨b,o,rfl,hb,hc⟩:=h6 hne
   obtain⟨ys,e,hy,hcc⟩:=Lf xs o hc;refine⟨ys,e,hy,fun _=>⟨_,rfl,fun j u hj=> ?_⟩⟩
   rw [show(⟨b,o,none⟩:Addr).add j=⟨b,o+j,none⟩from by unfold Addr.add;split<;>simp_all,k.cell hb]
   exact hcc j u hj
 subst hys;rw [List.length_map]at hsrc hl;obtain⟨v',w',hr,ho,hg⟩:=vO (P:=Tryz.prog) (w:=w) (ty:=22) Tryz.underlying22 hi0 hz0 hz1 hz2 rfl (by decide) base v zs.length (zs.flatMap AQ) h3 oa ys.length cap (ys.flatMap AQ) (by rw [UW wm]) hsrc (fun u hu=>by
  obtain⟨x,hx,hu⟩:=List.mem_flatMap.1 hu;exact UZ (hy x hx).1 u hu) (by unfold maxLen;omega) (by omega) hbase
 refine⟨v',w',by rw [List.length_map];exact hr,⟨zs++ys,by simp,fun x hx=> ?_,by unfold dO;rw [List.flatMap_append,List.length_append];exact ho⟩,hg⟩
 rcases List.mem_append.1 hx with hx | hx
 ·exact h2 x hx
 ·exact hy x hx
end Go.Proofs.YtaiffmebphhdaaaGreat
