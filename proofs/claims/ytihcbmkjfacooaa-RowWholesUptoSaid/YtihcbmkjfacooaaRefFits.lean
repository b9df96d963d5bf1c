/- The reference's Fits. -/
import Derived.Test.YtihcbmkjfacooaaRowAA
namespace Go.Proofs.Ytihcbmkjfacooaa
open Go.ChangeShapes Go.WideShapes Go.RowKit
set_option linter.unusedVariables false
set_option linter.unusedSimpArgs false

theorem refFit_any (w : World) (x : Int) : Calls Try.prog 49 #[.int .i64 x] w fun e w' => e = .returned (.bool (decide (fitI x))) ∧ Keep NoS w w' := by
  by_cases h1 : x ≤ 1000000
  · have e1 : decide (x ≤ 1000000) = true := dec_t h1
    by_cases h2 : -1000000 ≤ x
    · have e2 : decide (-1000000 ≤ x) = true := dec_t h2
      have HF : Hid (decide (fitI x) = true) := Lib.hid (dec_t ⟨h2, h1⟩)
      rw [HF.out]
      go_enter Try.func49, Try.ntmps49
      go_wp2
      go_ret
      exact ⟨rfl, by (repeat' (first | (with_reducible assumption) | (with_reducible exact HK.out) | (with_reducible exact Keep.refl _ _) | (with_reducible refine Keep.alloc ?_ _) | (with_reducible refine Keep.setCell ?_ _ (fun h => absurd h (by omega))) | (with_reducible refine Keep.drewN ?_ _) | (with_reducible refine Keep.drew ?_)))⟩
    · have e2 : decide (-1000000 ≤ x) = false := dec_f h2
      have HF : Hid (decide (fitI x) = false) := Lib.hid (dec_f fun h => h2 h.1)
      rw [HF.out]
      go_enter Try.func49, Try.ntmps49
      go_wp2
      go_ret
      exact ⟨rfl, by (repeat' (first | (with_reducible assumption) | (with_reducible exact HK.out) | (with_reducible exact Keep.refl _ _) | (with_reducible refine Keep.alloc ?_ _) | (with_reducible refine Keep.setCell ?_ _ (fun h => absurd h (by omega))) | (with_reducible refine Keep.drewN ?_ _) | (with_reducible refine Keep.drew ?_)))⟩
  · have e1 : decide (x ≤ 1000000) = false := dec_f h1
    have HF : Hid (decide (fitI x) = false) := Lib.hid (dec_f fun h => h1 h.2)
    rw [HF.out]
    go_enter Try.func49, Try.ntmps49
    go_wp2
    go_ret
    exact ⟨rfl, by (repeat' (first | (with_reducible assumption) | (with_reducible exact HK.out) | (with_reducible exact Keep.refl _ _) | (with_reducible refine Keep.alloc ?_ _) | (with_reducible refine Keep.setCell ?_ _ (fun h => absurd h (by omega))) | (with_reducible refine Keep.drewN ?_ _) | (with_reducible refine Keep.drew ?_)))⟩
end Go.Proofs.Ytihcbmkjfacooaa
