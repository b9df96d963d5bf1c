/- Fractions of numbers, as Frac answers them. -/
import Derived.Test.YtcnjcnjipddgeaaGreatRegVV
import Derived.Test.YtcnjcnjipddgeaaGreatOwnG
namespace Go.Proofs.YtcnjcnjipddgeaaGreat
set_option linter.unusedSimpArgs false
set_option linter.unusedVariables false
open Go.ChangeShapes Go.WideShapes Go.RowKit
def fqOf (q:Rat):Fq:=if Fits q then⟨q.num,q.den⟩else⟨0,0⟩
theorem fracOf_fq (q:Rat):fracOfV q= .tuple #[.agg #[.int .i64 (fqOf q).N,.int .i64 (fqOf q).D],.bool (decide (Fits q))]:=by
 unfold fracOfV fqOf
 by_cases h:Fits q
 ·rw [if_pos h,if_pos h,decide_eq_true h];rfl
 ·rw [if_neg h,if_neg h,decide_eq_false h];rfl
theorem nil_fracs (w:World):IsFracs w (.slice none 0 0) []:=⟨none,0,rfl,by simp,by simp,by simp,fun h=>absurd rfl h⟩
theorem own_set2 {w:World}{base:Nat}{v:Value}{l:List Fq}(h:OwnF w base v l){b:Nat}(hb:b<base){p q:Value}:OwnF ((w.setCell ⟨b,0,none⟩ p).setCell ⟨b,1,none⟩ q) base v l:=by
 have hne:v.ownBlock≠some b:=fun e=>by have:=h.block b e;omega
 exact ownsRow_setCell_other (ownsRow_setCell_other h hne p) hne q
theorem fqOf_i64 (q:Rat):I64 (fqOf q).N∧I64 (fqOf q).D:=by
 unfold fqOf
 by_cases h:Fits q
 ·rw [if_pos h]
  have:=h.1;have:=h.2;unfold I64;simp only;omega
 ·rw [if_neg h];unfold I64;simp
end Go.Proofs.YtcnjcnjipddgeaaGreat
