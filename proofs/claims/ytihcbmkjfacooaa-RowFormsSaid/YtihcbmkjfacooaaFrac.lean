/- Contracts of package frac's small functions: size, gcd, Check, Make. Plain walks over the program. -/
import Derived.Test.YtihcbmkjfacooaaProg
import Derived.WalkKit
import Derived.WalkSpells
import Derived.Handy
import Derived.Deep.QuietTactic
import Derived.BigQuiet
import Derived.Lib.Hide
import Derived.WalkSmall
namespace Go.Proofs.Ytihcbmkjfacooaa
open Go.ChangeShapes Go.WideShapes Go.RowKit
set_option linter.unusedVariables false
set_option linter.unusedSimpArgs false

theorem ret_int {k : IntKind} {a b : Int} (h : a = b) : Ending.returned (.int k a) = .returned (.int k b) := by rw [h]

theorem size_neg_eq (x : Int) (h1 : x < 0) (h2 : -9223372036854775808 ≤ x) : IntKind.u64.wrap (-IntKind.u64.wrap x) = (x.natAbs : Nat) := by
  simp only [IntKind.wrap, IntKind.bits, IntKind.signed]
  simp
  omega

theorem size_any (x : Int) (w : World) (h2 : -9223372036854775808 ≤ x) (h3 : x ≤ 9223372036854775807) :
    Calls Try.prog 114 #[.int .i64 x] w fun e w' => e = .returned (.int .u64 (x.natAbs : Nat)) ∧ w = w' := by
  by_cases h1 : x < 0
  · go_enter Try.func114, Try.ntmps114
    go_wp2
    go_ret
    exact ⟨ret_int (size_neg_eq x h1 h2), rfl⟩
  · go_enter Try.func114, Try.ntmps114
    go_wp2
    go_ret
    exact ⟨ret_int (by omega), rfl⟩

theorem gcd_any (a b : Nat) (w : World) (ha : a < 18446744073709551616) (hb : b < 18446744073709551616) :
    Calls Try.prog 113 #[.int .u64 a, .int .u64 b] w fun e w' => e = .returned (.int .u64 (Nat.gcd a b : Nat)) ∧ ∃ n, w' = w.drewN n := by
  go_enter Try.func113, Try.ntmps113
  go_wp2
  go_loopw [0, 1] (fun x y wr => ∃ p q : Nat, x = .int .u64 p ∧ y = .int .u64 q ∧ p < 18446744073709551616 ∧ q < 18446744073709551616 ∧ Nat.gcd p q = Nat.gcd a b ∧ ∃ n, wr = w.drewN n) (fun _ y _ => (intOf y).toNat)
  case atStart => exact ⟨a, b, rfl, rfl, ha, hb, rfl, 0, rfl⟩
  case round =>
    obtain ⟨p, q, rfl, rfl, hp, hq, hg, n, rfl⟩ := hrel
    have Hg := Lib.hid hg; clear hg
    by_cases h0 : q = 0
    · subst h0
      go_wp2
      go_ret
      refine ⟨ret_int ?_, n, rfl⟩
      have := Hg.out
      simp at this
      rw [this]
    · have hq0 : ((q : Int) != 0) = true := by simp; omega
      have hm : p % q < q := Nat.mod_lt _ (by omega)
      go_wp2
      go_quiet (fail)
      go_wp2
      go_roundw
      case rel => exact ⟨q, p % q, rfl, by simp, hq, by omega, by rw [← Hg.out, Nat.gcd_comm p q, Nat.gcd_rec q p, Nat.gcd_comm], n + nq, by simp⟩
      case measure => simp [intOf]; omega

/-- A fraction is valid. -/
def FracOK (n d : Int) : Prop := 1 ≤ d ∧ d ≤ 1073741824 ∧ -1073741824 ≤ n ∧ n ≤ 1073741824 ∧ Nat.gcd n.natAbs d.natAbs = 1

instance (n d : Int) : Decidable (FracOK n d) := by unfold FracOK; infer_instance

theorem dec_f {p : Prop} [Decidable p] (h : ¬ p) : decide p = false := by simp [h]
theorem dec_t {p : Prop} [Decidable p] (h : p) : decide p = true := by simp [h]

theorem check_ok (n d : Int) (w : World) (h : FracOK n d) :
    Calls Try.prog 71 #[.agg #[.int .i64 n, .int .i64 d]] w fun e w' => e = .returned (.agg #[.int .i64 0, .int .i64 0]) ∧ Below w.heap.size w w' := by
  obtain ⟨h1, h2, h3, h4, h5⟩ := h
  have H5 := Lib.hid h5; clear h5
  have e1 : decide (d < 1) = false := dec_f (by omega)
  have e2 : decide (1073741824 < d) = false := dec_f (by omega)
  have e3 : decide (n < -1073741824) = false := dec_f (by omega)
  have e4 : decide (1073741824 < n) = false := dec_f (by omega)
  go_enter Try.func71, Try.ntmps71
  go_wp2
  go_quiet (first | (go_at_call 114; exact Calls.quiet_of_same ((size_any _ _ (by omega) (by omega)).mono fun _ _ ⟨he, hw⟩ => ⟨he, hw.symm⟩)) | (go_at_call 113; exact Calls.quiet_of (gcd_any _ _ _ (by omega) (by omega))))
  rw [H5.out]
  go_wp2
  go_returns
  exact ⟨rfl, by (repeat' (first | (with_reducible exact Below.refl _ _) | (with_reducible assumption) | (with_reducible refine Below.alloc ?_ ?_ _) | (with_reducible refine Below.setCell ?_ ?_ _) | (with_reducible refine below_drewN ?_ _) | (with_reducible refine Below.drew ?_) | go_size))⟩

theorem check_no (n d : Int) (w : World) (h : ¬ FracOK n d) :
    Calls Try.prog 71 #[.agg #[.int .i64 n, .int .i64 d]] w fun e w' => e = .returned (.agg #[.int .i64 3, .int .i64 0]) ∧ Below w.heap.size w w' := by
  by_cases h1 : d < 1
  · have e1 : decide (d < 1) = true := dec_t h1
    clear h
    go_enter Try.func71, Try.ntmps71
    go_wp2
    go_quiet (fail)
    go_wp2
    go_returns
    exact ⟨rfl, by (repeat' (first | (with_reducible exact Below.refl _ _) | (with_reducible assumption) | (with_reducible refine Below.alloc ?_ ?_ _) | (with_reducible refine Below.setCell ?_ ?_ _) | (with_reducible refine below_drewN ?_ _) | (with_reducible refine Below.drew ?_) | go_size))⟩
  have e1 : decide (d < 1) = false := dec_f h1
  by_cases h2 : 1073741824 < d
  · have e2 : decide (1073741824 < d) = true := dec_t h2
    clear h
    go_enter Try.func71, Try.ntmps71
    go_wp2
    go_quiet (fail)
    go_wp2
    go_returns
    exact ⟨rfl, by (repeat' (first | (with_reducible exact Below.refl _ _) | (with_reducible assumption) | (with_reducible refine Below.alloc ?_ ?_ _) | (with_reducible refine Below.setCell ?_ ?_ _) | (with_reducible refine below_drewN ?_ _) | (with_reducible refine Below.drew ?_) | go_size))⟩
  have e2 : decide (1073741824 < d) = false := dec_f h2
  by_cases h3 : n < -1073741824
  · have e3 : decide (n < -1073741824) = true := dec_t h3
    clear h
    go_enter Try.func71, Try.ntmps71
    go_wp2
    go_quiet (fail)
    go_wp2
    go_returns
    exact ⟨rfl, by (repeat' (first | (with_reducible exact Below.refl _ _) | (with_reducible assumption) | (with_reducible refine Below.alloc ?_ ?_ _) | (with_reducible refine Below.setCell ?_ ?_ _) | (with_reducible refine below_drewN ?_ _) | (with_reducible refine Below.drew ?_) | go_size))⟩
  have e3 : decide (n < -1073741824) = false := dec_f h3
  by_cases h4 : 1073741824 < n
  · have e4 : decide (1073741824 < n) = true := dec_t h4
    clear h
    go_enter Try.func71, Try.ntmps71
    go_wp2
    go_quiet (fail)
    go_wp2
    go_returns
    exact ⟨rfl, by (repeat' (first | (with_reducible exact Below.refl _ _) | (with_reducible assumption) | (with_reducible refine Below.alloc ?_ ?_ _) | (with_reducible refine Below.setCell ?_ ?_ _) | (with_reducible refine below_drewN ?_ _) | (with_reducible refine Below.drew ?_) | go_size))⟩
  have e4 : decide (1073741824 < n) = false := dec_f h4
  have h5 : ((Nat.gcd n.natAbs d.natAbs : Nat) : Int) ≠ 1 := fun h5 => h ⟨by omega, by omega, by omega, by omega, by omega⟩
  clear h
  generalize hg : Nat.gcd n.natAbs d.natAbs = g at h5
  have e5 : ((g : Int) != 1) = true := by simpa using h5
  have Hg := Lib.hid hg; clear hg h5
  go_enter Try.func71, Try.ntmps71
  go_wp2
  go_quiet (first | (go_at_call 114; exact Calls.quiet_of_same ((size_any _ _ (by omega) (by omega)).mono fun _ _ ⟨he, hw⟩ => ⟨he, hw.symm⟩)) | (go_at_call 113; exact Calls.quiet_of (gcd_any _ _ _ (by omega) (by omega))))
  rw [Hg.out]
  go_wp2
  go_returns
  exact ⟨rfl, by (repeat' (first | (with_reducible exact Below.refl _ _) | (with_reducible assumption) | (with_reducible refine Below.alloc ?_ ?_ _) | (with_reducible refine Below.setCell ?_ ?_ _) | (with_reducible refine below_drewN ?_ _) | (with_reducible refine Below.drew ?_) | go_size))⟩

end Go.Proofs.Ytihcbmkjfacooaa
