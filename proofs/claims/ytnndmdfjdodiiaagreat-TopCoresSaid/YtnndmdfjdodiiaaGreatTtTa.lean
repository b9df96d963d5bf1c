/- Picked, answered; the solver where each atom stands in a clause of its own. -/
import Derived.Test.YtnndmdfjdodiiaaGreatTtSk
namespace Go.Proofs.YtnndmdfjdodiiaaGreat
open Go.ChangeShapes Go.WideShapes Go.RowKit Go.Maps
set_option linter.unusedVariables false
set_option linter.unusedSimpArgs false

theorem picked_any (w : World) (x n : Int) (hx : I64 x) (hn : 0 < n) (hn2 : n ≤ 2000) : Calls Tryz.prog 5 #[.int .i64 x, .int .i64 n] w fun e w' => ∃ r : Int, 0 ≤ r ∧ r < n ∧ e = .returned (.int .i64 r) ∧ w' = w := by
  unfold I64 at hx
  have h1 : x.tmod n < n ∧ -n < x.tmod n := by
    have a := Int.tmod_lt_of_pos x hn
    have b := Int.lt_tmod_of_pos x hn
    exact ⟨a, b⟩
  have hz : ¬ n = 0 := by omega
  have HN := Lib.hid hn
  have HM := Lib.hid h1
  generalize hr : x.tmod n = r at *
  by_cases h0 : r < 0
  · have e1 : ¬ r + n < -9223372036854775808 := by omega
    go_enter Tryz.func5, Tryz.ntmps5
    go_wp2
    go_ret
    exact ⟨r + n, by omega, by omega, rfl, rfl⟩
  · go_enter Tryz.func5, Tryz.ntmps5
    go_wp2
    go_ret
    exact ⟨r, by omega, by omega, rfl, rfl⟩
end Go.Proofs.YtnndmdfjdodiiaaGreat
