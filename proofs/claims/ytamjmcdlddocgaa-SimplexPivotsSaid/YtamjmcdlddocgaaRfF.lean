/- The reference's SameFracs of two lists that are the same. -/
import Derived.Test.YtamjmcdlddocgaaPtAA
namespace Go.Proofs.Ytamjmcdlddocgaa
open Go.ChangeShapes Go.WideShapes Go.RowKit
set_option linter.unusedVariables false
set_option linter.unusedSimpArgs false

set_option maxRecDepth 100000 in
set_option maxHeartbeats 8000000 in
theorem sameFracs_same (w : World) (va vb : Value) (l : List Fq) (ha : IsFracs w va l) (hb : IsFracs w vb l) :
    Calls Try.prog 10 #[va, vb] w fun e w' => e = .returned (.bool true) ∧ Keep NoS w w' := by
  have HA := Lib.hid ha
  have HB := Lib.hid hb
  obtain ⟨oa, ca, rfl, _, hma⟩ := ha.len
  obtain ⟨ob, cb, rfl, _, hmb⟩ := hb.len
  unfold maxLen at hma hmb
  clear ha hb
  go_enter Try.func10, Try.ntmps10
  go_wp2
  go_loopw [5] (fun s wr => ∃ k : Nat, k ≤ l.length ∧ s = .int .i64 k ∧ Keep NoS w wr) (fun s _ => (l.length - intOf s).toNat)
  case atStart => exact ⟨0, by omega, rfl, Keep.refl _ _⟩
  case round =>
    obtain ⟨k, hk, rfl, hkr⟩ := hrel
    have HKR := Lib.hid hkr
    clear hkr
    by_cases hkl : k < l.length
    case pos =>
      have hlt : (k : Int) < (l.length : Int) := by omega
      obtain ⟨b, o, rfl, hbl, p0, p1⟩ := (HA.out.keep HKR.out).at hkl
      obtain ⟨b', o', rfl, hbl', q0, q1⟩ := (HB.out.keep HKR.out).at hkl
      generalize (l[k]).N = gn at *
      generalize (l[k]).D = gd at *
      go_upto_region 6 with fail
      refine wp_region_by (fun w' => Keep NoS wr w') [] [] [0, 1, 2, 3, 4, 5, 6, 7, 8] (by kernel_rfl) (by kernel_rfl) (by (repeat' (first | (with_reducible assumption) | (with_reducible exact HK.out) | (with_reducible exact Keep.refl _ _) | (with_reducible refine Keep.alloc ?_ _) | (with_reducible refine Keep.setCell ?_ _ (fun h => absurd h (by omega))) | (with_reducible refine Keep.drewN ?_ _) | (with_reducible refine Keep.drew ?_)))) ?_
      intro X W hne hF hcl
      have a0 := fun x => ((hF x).cell hbl).trans p0
      have a1 := fun x => ((hF x).cell hbl).trans p1
      have a2 := fun x => ((hF x).cell hbl').trans q0
      have a3 := fun x => ((hF x).cell hbl').trans q1
      clear hF hcl
      simp only [wpPlan, pickOps, List.getElem?_toArray, List.getElem?_cons_zero, List.getElem?_cons_succ, clsOf, Bool.false_eq_true, if_false]
      (repeat (quiet_step (fail))); refine wpQuiet_nil ?_
      refine NoPanic.normal ?_
      have K5 : Hid (Keep NoS w wr.drew) := Lib.hid (HKR.out.drew)
      go_wp2
      go_roundw
      case rel => exact ⟨k + 1, by omega, by go_num, K5.out⟩
      case measure => simp [intOf]; omega
    case neg =>
      have hlt : ¬ (k : Int) < (l.length : Int) := by omega
      go_wp2
      go_ret
      exact ⟨rfl, HKR.out⟩
end Go.Proofs.Ytamjmcdlddocgaa
