/- The walk of the law GapAlong. -/
import Derived.Test.YtnmklgigmmlgeaaGapFar
namespace Go.Proofs.Ytnmklgigmmlgeaa
open Go.ChangeShapes Go.WideShapes Go.RowKit
set_option linter.unusedVariables false
set_option linter.unusedSimpArgs false

/-- What one may say of the table that gap.Far tells. -/
theorem tab_facts {N : Nat} {l : List Gp} (h0 : gapsW N l = (0, 0)) (h : ∃ t, (rnds N l (t + 1)).last < 0) : GpsOK N l ∧ FWI N l N (pw N) (tab N l N) ∧ (0 ≤ pw N ∧ pw N ≤ 5000000000) ∧ ∀ a, a < N → 0 ≤ tab N l N a a := by
  have hg := gps_of h0
  obtain ⟨t, ht⟩ := h
  have hn := hg.1
  obtain ⟨h1, h2⟩ := fwi_keeps hg (rnds_keeps hg ht) N (Nat.le_refl _)
  exact ⟨hg, h1, pw_le N (by omega), h2⟩

set_option maxRecDepth 100000 in
set_option maxHeartbeats 16000000 in
theorem gapAlong_walk (w : World) (n : Int) (v : Value) (l : List Gp) (a b c : Int) (_ : I64 n) (h : IsGaps w v l) (_ : I64 a) (_ : I64 b) (_ : I64 c) :
    Calls Try.prog 13 #[.int .i64 n, v, .int .i64 a, .int .i64 b, .int .i64 c] w fun e w' => e = .returned (.bool true) ∧ Below w.heap.size w w' := by
  have HG := Lib.hid h
  obtain ⟨oa, cap, rfl, hm, hr, _⟩ := h
  clear hr
  go_enter Try.func13, Try.ntmps13
  go_wp2_with fail
  refine (gapFact_any _).mono ?_
  rintro e w1 ⟨rfl, hk1⟩
  go_wp2_with fail
  refine (far_any _ n _ l (HG.out.keep (by (repeat' (first | (with_reducible assumption) | (with_reducible exact HK.out) | (with_reducible exact Keep.refl _ _) | (with_reducible refine Keep.alloc ?_ _) | (with_reducible refine Keep.setCell ?_ _ (fun h => absurd h (by omega))) | (with_reducible refine Keep.drewN ?_ _) | (with_reducible refine Keep.drew ?_)))))).mono ?_
  rintro e w2 ⟨v2, rfl, hk2, hd⟩
  have K2 : Keep NoS w w2 := Keep.trans (by (repeat' (first | (with_reducible assumption) | (with_reducible exact HK.out) | (with_reducible exact Keep.refl _ _) | (with_reducible refine Keep.alloc ?_ _) | (with_reducible refine Keep.setCell ?_ _ (fun h => absurd h (by omega))) | (with_reducible refine Keep.drewN ?_ _) | (with_reducible refine Keep.drew ?_)))) hk2 fun _ _ _ h => h
  clear hk1 hk2
  rcases hd with ⟨c', a', hgc, hc, rfl⟩ | ⟨N, rfl, h0, hr, rfl⟩ | ⟨N, rfl, h0, ht, G, gs, cp, hM, rfl⟩
  · have ec : (c' != 0) = true := bne_iff_ne.2 hc
    clear hgc hc
    go_wp2
    go_ret
    exact ⟨rfl, Keep.bel (by (repeat' (first | (with_reducible assumption) | (with_reducible exact HK.out) | (with_reducible exact Keep.refl _ _) | (with_reducible refine Keep.alloc ?_ _) | (with_reducible refine Keep.setCell ?_ _ (fun h => absurd h (by omega))) | (with_reducible refine Keep.drewN ?_ _) | (with_reducible refine Keep.drew ?_))))⟩
  · clear h0 hr
    go_wp2
    go_ret
    exact ⟨rfl, Keep.bel (by (repeat' (first | (with_reducible assumption) | (with_reducible exact HK.out) | (with_reducible exact Keep.refl _ _) | (with_reducible refine Keep.alloc ?_ _) | (with_reducible refine Keep.setCell ?_ _ (fun h => absurd h (by omega))) | (with_reducible refine Keep.drewN ?_ _) | (with_reducible refine Keep.drew ?_))))⟩
  · have HT := Lib.hid (tab_facts h0 ht)
    have HM := Lib.hid hM
    clear h0 ht hM
    by_cases qa0 : a < 0
    · go_wp2
      go_ret
      exact ⟨rfl, Keep.bel (by (repeat' (first | (with_reducible assumption) | (with_reducible exact HK.out) | (with_reducible exact Keep.refl _ _) | (with_reducible refine Keep.alloc ?_ _) | (with_reducible refine Keep.setCell ?_ _ (fun h => absurd h (by omega))) | (with_reducible refine Keep.drewN ?_ _) | (with_reducible refine Keep.drew ?_))))⟩
    by_cases qa1 : (N : Int) ≤ a
    · go_wp2
      go_ret
      exact ⟨rfl, Keep.bel (by (repeat' (first | (with_reducible assumption) | (with_reducible exact HK.out) | (with_reducible exact Keep.refl _ _) | (with_reducible refine Keep.alloc ?_ _) | (with_reducible refine Keep.setCell ?_ _ (fun h => absurd h (by omega))) | (with_reducible refine Keep.drewN ?_ _) | (with_reducible refine Keep.drew ?_))))⟩
    by_cases qb0 : b < 0
    · go_wp2
      go_ret
      exact ⟨rfl, Keep.bel (by (repeat' (first | (with_reducible assumption) | (with_reducible exact HK.out) | (with_reducible exact Keep.refl _ _) | (with_reducible refine Keep.alloc ?_ _) | (with_reducible refine Keep.setCell ?_ _ (fun h => absurd h (by omega))) | (with_reducible refine Keep.drewN ?_ _) | (with_reducible refine Keep.drew ?_))))⟩
    by_cases qb1 : (N : Int) ≤ b
    · go_wp2
      go_ret
      exact ⟨rfl, Keep.bel (by (repeat' (first | (with_reducible assumption) | (with_reducible exact HK.out) | (with_reducible exact Keep.refl _ _) | (with_reducible refine Keep.alloc ?_ _) | (with_reducible refine Keep.setCell ?_ _ (fun h => absurd h (by omega))) | (with_reducible refine Keep.drewN ?_ _) | (with_reducible refine Keep.drew ?_))))⟩
    by_cases qc0 : c < 0
    · go_wp2
      go_ret
      exact ⟨rfl, Keep.bel (by (repeat' (first | (with_reducible assumption) | (with_reducible exact HK.out) | (with_reducible exact Keep.refl _ _) | (with_reducible refine Keep.alloc ?_ _) | (with_reducible refine Keep.setCell ?_ _ (fun h => absurd h (by omega))) | (with_reducible refine Keep.drewN ?_ _) | (with_reducible refine Keep.drew ?_))))⟩
    by_cases qc1 : (N : Int) ≤ c
    · go_wp2
      go_ret
      exact ⟨rfl, Keep.bel (by (repeat' (first | (with_reducible assumption) | (with_reducible exact HK.out) | (with_reducible exact Keep.refl _ _) | (with_reducible refine Keep.alloc ?_ _) | (with_reducible refine Keep.setCell ?_ _ (fun h => absurd h (by omega))) | (with_reducible refine Keep.drewN ?_ _) | (with_reducible refine Keep.drew ?_))))⟩
    obtain ⟨a, rfl⟩ : ∃ m : Nat, a = (m : Int) := ⟨a.toNat, by omega⟩
    obtain ⟨b, rfl⟩ : ∃ m : Nat, b = (m : Int) := ⟨b.toNat, by omega⟩
    obtain ⟨c, rfl⟩ : ∃ m : Nat, c = (m : Int) := ⟨c.toNat, by omega⟩
    have hA : a < N := by omega
    have hB : b < N := by omega
    have hC : c < N := by omega
    have hA1 : (a : Int) < (N : Int) := by omega
    have hB1 : (b : Int) < (N : Int) := by omega
    have hC1 : (c : Int) < (N : Int) := by omega
    have hca := HM.out.1.cell hA
    have hcc := HM.out.1.cell hC
    have hac := Arr.cell (HM.out.2.line a hA) hC
    have hab := Arr.cell (HM.out.2.line a hA) hB
    have hcb := Arr.cell (HM.out.2.line c hC) hB
    have hGl := HM.out.1.lt
    have hla := Arr.lt (HM.out.2.line a hA)
    have hlc := Arr.lt (HM.out.2.line c hC)
    obtain ⟨_, ht, hp, _⟩ := HT.out
    have bac := ht.bd a c hA hC
    have bcb := ht.bd c b hC hB
    have htri := ht.tri c hC a b hA hB
    clear ht qa0 qa1 qb0 qb1 qc0 qc1
    generalize pw N = P at *
    generalize tab N l N = T at *
    generalize T a c = x at *
    generalize T c b = y at *
    generalize T a b = z at *
    clear HT
    by_cases hx : x = 1099511627776
    · have e1 : (x == 1099511627776) = true := by simpa using hx
      clear bac bcb htri hx
      go_wp2
      go_quiet (fail)
      go_wp2
      go_ret
      exact ⟨rfl, Keep.bel (by (repeat' (first | (with_reducible assumption) | (with_reducible exact HK.out) | (with_reducible exact Keep.refl _ _) | (with_reducible refine Keep.alloc ?_ _) | (with_reducible refine Keep.setCell ?_ _ (fun h => absurd h (by omega))) | (with_reducible refine Keep.drewN ?_ _) | (with_reducible refine Keep.drew ?_))))⟩
    · have e1 : (x == 1099511627776) = false := by simpa using hx
      by_cases hy : y = 1099511627776
      · have e2 : (y == 1099511627776) = true := by simpa using hy
        clear bac bcb htri hx hy
        go_wp2
        go_quiet (fail)
        go_wp2
        go_ret
        exact ⟨rfl, Keep.bel (by (repeat' (first | (with_reducible assumption) | (with_reducible exact HK.out) | (with_reducible exact Keep.refl _ _) | (with_reducible refine Keep.alloc ?_ _) | (with_reducible refine Keep.setCell ?_ _ (fun h => absurd h (by omega))) | (with_reducible refine Keep.drewN ?_ _) | (with_reducible refine Keep.drew ?_))))⟩
      · have e2 : (y == 1099511627776) = false := by simpa using hy
        have hz := htri (by omega) (by omega)
        have hw : IntKind.i64.wrap (x + y) = x + y := Go.IntWalk.i64_in _ (by omega)
        have e3 : decide (z ≤ x + y) = true := dec_t hz
        clear bac bcb htri hx hy hz
        go_wp2
        go_quiet (fail)
        go_wp2
        go_ret
        exact ⟨rfl, Keep.bel (by (repeat' (first | (with_reducible assumption) | (with_reducible exact HK.out) | (with_reducible exact Keep.refl _ _) | (with_reducible refine Keep.alloc ?_ _) | (with_reducible refine Keep.setCell ?_ _ (fun h => absurd h (by omega))) | (with_reducible refine Keep.drewN ?_ _) | (with_reducible refine Keep.drew ?_))))⟩
end Go.Proofs.Ytnmklgigmmlgeaa
