/- The reference's Fits. -/
import Derived.Test.YtamjmcdlddocgaaGreatRowAA
namespace Go.Proofs.YtamjmcdlddocgaaGreat
open Go.ChangeShapes Go.WideShapes Go.RowKit
set_option linter.unusedVariables false
set_option linter.unusedSimpArgs false
theorem refFit_any (w : World) (x : Int) : Calls Tryz.prog 55 #[.int .i64 x] w fun e w' => e = .returned (.bool (decide (fitI x))) ∧ Keep NoS w w' := by
 by_cases h1 : x ≤ 1000000
 ·have e1 : decide (x ≤ 1000000) = true := dec_t h1
  by_cases h2 : -1000000 ≤ x
  ·have e2 : decide (-1000000 ≤ x) = true := dec_t h2
   have HF : Hid (decide (fitI x) = true) := Lib.hid (dec_t ⟨h2, h1⟩)
   rw [HF.out]
   go_enter Tryz.func55, Tryz.ntmps55
   go_wp2
   go_ret
   exact ⟨rfl, by (repeat' (with_reducible first | assumption | exact HK.out | exact keR | refine keA ?_ | refine keS ?_ fun h => absurd h (by omega) | refine keN ?_ | refine keD ?_))⟩
  ·have e2 : decide (-1000000 ≤ x) = false := dec_f h2
   have HF : Hid (decide (fitI x) = false) := Lib.hid (dec_f fun h => h2 h.1)
   rw [HF.out]
   go_enter Tryz.func55, Tryz.ntmps55
   go_wp2
   go_ret
   exact ⟨rfl, by (repeat' (with_reducible first | assumption | exact HK.out | exact keR | refine keA ?_ | refine keS ?_ fun h => absurd h (by omega) | refine keN ?_ | refine keD ?_))⟩
 ·have e1 : decide (x ≤ 1000000) = false := dec_f h1
  have HF : Hid (decide (fitI x) = false) := Lib.hid (dec_f fun h => h1 h.2)
  rw [HF.out]
  go_enter Tryz.func55, Tryz.ntmps55
  go_wp2
  go_ret
  exact ⟨rfl, by (repeat' (with_reducible first | assumption | exact HK.out | exact keR | refine keA ?_ | refine keS ?_ fun h => absurd h (by omega) | refine keN ?_ | refine keD ?_))⟩
end Go.Proofs.YtamjmcdlddocgaaGreat
