/- The reference's SameRow: are two rows the same? -/
import Derived.Test.YtihcbmkjfacooaaRowM
import Derived.Test.YtihcbmkjfacooaaSameInts
namespace Go.Proofs.Ytihcbmkjfacooaa
open Go.ChangeShapes Go.WideShapes Go.RowKit
set_option linter.unusedVariables false
set_option linter.unusedSimpArgs false

def sameR (a b : Rw) : Prop := a.kind = b.kind ∧ a.to = b.to ∧ a.of = b.of
instance (a b : Rw) : Decidable (sameR a b) := by unfold sameR; infer_instance

set_option maxRecDepth 100000 in
set_option maxHeartbeats 8000000 in
theorem sameRow_any (w : World) (va vb : Value) (a b : Rw) (sa sb : Value) (ha : va = .agg #[sa, .int .i64 a.kind, .int .i64 a.to]) (hb : vb = .agg #[sb, .int .i64 b.kind, .int .i64 b.to]) (hia : IsInts w sa a.of) (hib : IsInts w sb b.of) :
    Calls Try.prog 20 #[va, vb] w fun e w' => e = .returned (.bool (decide (sameR a b))) ∧ Keep NoS w w' := by
  subst ha hb
  obtain ⟨oa, ca, rfl, _⟩ := hia.len
  obtain ⟨ob, cb, rfl, _⟩ := hib.len
  obtain ⟨fa, ka, ta⟩ := a
  obtain ⟨fb, kb, tb⟩ := b
  simp only at *
  have HA := Lib.hid hia
  have HB := Lib.hid hib
  clear hia hib
  by_cases hk : ka = kb
  · subst hk
    by_cases ht : ta = tb
    · subst ht
      have HD : Hid (decide (sameR ⟨fa, ka, ta⟩ ⟨fb, ka, ta⟩) = decide (fa = fb)) := Lib.hid (by simp [sameR])
      rw [HD.out]
      go_enter Try.func20, Try.ntmps20
      go_wp2_with fail
      refine (sameInts_any _ _ fa _ fb (HA.out.keep (by (repeat' (first | (with_reducible assumption) | (with_reducible exact HK.out) | (with_reducible exact Keep.refl _ _) | (with_reducible refine Keep.alloc ?_ _) | (with_reducible refine Keep.setCell ?_ _ (fun h => absurd h (by omega))) | (with_reducible refine Keep.drewN ?_ _) | (with_reducible refine Keep.drew ?_))))) (HB.out.keep (by (repeat' (first | (with_reducible assumption) | (with_reducible exact HK.out) | (with_reducible exact Keep.refl _ _) | (with_reducible refine Keep.alloc ?_ _) | (with_reducible refine Keep.setCell ?_ _ (fun h => absurd h (by omega))) | (with_reducible refine Keep.drewN ?_ _) | (with_reducible refine Keep.drew ?_)))))).mono ?_
      rintro e w1 ⟨rfl, hk1⟩
      have HK := Lib.hid (show Keep NoS w w1 from Keep.both (by (repeat' (first | (with_reducible assumption) | (with_reducible exact HK.out) | (with_reducible exact Keep.refl _ _) | (with_reducible refine Keep.alloc ?_ _) | (with_reducible refine Keep.setCell ?_ _ (fun h => absurd h (by omega))) | (with_reducible refine Keep.drewN ?_ _) | (with_reducible refine Keep.drew ?_)))) hk1)
      clear hk1
      go_wp2
      go_ret
      exact ⟨rfl, HK.out⟩
    · have HD : Hid (decide (sameR ⟨fa, ka, ta⟩ ⟨fb, ka, tb⟩) = false) := Lib.hid (by simp [sameR, ht])
      rw [HD.out]
      have e1 : (ta == tb) = false := by rw [beq_eq_false_iff_ne]; exact ht
      clear ht
      go_enter Try.func20, Try.ntmps20
      go_wp2
      go_ret
      exact ⟨rfl, by (repeat' (first | (with_reducible assumption) | (with_reducible exact HK.out) | (with_reducible exact Keep.refl _ _) | (with_reducible refine Keep.alloc ?_ _) | (with_reducible refine Keep.setCell ?_ _ (fun h => absurd h (by omega))) | (with_reducible refine Keep.drewN ?_ _) | (with_reducible refine Keep.drew ?_)))⟩
  · have HD : Hid (decide (sameR ⟨fa, ka, ta⟩ ⟨fb, kb, tb⟩) = false) := Lib.hid (by simp [sameR, hk])
    rw [HD.out]
    have e1 : (ka == kb) = false := by rw [beq_eq_false_iff_ne]; exact hk
    clear hk
    go_enter Try.func20, Try.ntmps20
    go_wp2
    go_ret
    exact ⟨rfl, by (repeat' (first | (with_reducible assumption) | (with_reducible exact HK.out) | (with_reducible exact Keep.refl _ _) | (with_reducible refine Keep.alloc ?_ _) | (with_reducible refine Keep.setCell ?_ _ (fun h => absurd h (by omega))) | (with_reducible refine Keep.drewN ?_ _) | (with_reducible refine Keep.drew ?_)))⟩
end Go.Proofs.Ytihcbmkjfacooaa
