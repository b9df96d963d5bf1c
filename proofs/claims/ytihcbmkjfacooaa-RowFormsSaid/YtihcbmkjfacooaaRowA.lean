/- Package row's small functions: slices.Clone, whole, Check. -/
import Derived.Test.YtihcbmkjfacooaaOpenR
import Derived.Test.YtihcbmkjfacooaaIntOps
import Derived.Test.YtihcbmkjfacooaaRegionT
import Derived.Lib.SliceRun
import Derived.Deep.DeepCutAuto
namespace Go.Proofs.Ytihcbmkjfacooaa
open Go.ChangeShapes Go.WideShapes Go.RowKit
set_option linter.unusedVariables false
set_option linter.unusedSimpArgs false

/-- A new list of integers is returned. -/
def NewI (xs : List Int) (w : World) (e : Ending) (w' : World) : Prop := ∃ v, e = .returned v ∧ OwnI w' w.heap.size v xs ∧ Keep NoS w w'

set_option maxRecDepth 100000 in
set_option maxHeartbeats 4000000 in
theorem clone_any (w : World) (v : Value) (l : List Int) (h : IsInts w v l) (hl : l.length ≤ 1000) : Calls Try.prog 92 #[v] w (NewI l w) := by
  have H := Lib.hid h
  obtain ⟨oa, cap, hv, _, _, hc⟩ := h
  subst hv
  have hn := fun w => Go.Lib.run_eql_slice_nil (P := Try.prog) w 22 3 oa l.length cap 0 0 Try.underlying22
  rcases oa with _ | a
  · have hl0 : l = [] := by
      rcases l with _ | ⟨x, l⟩
      · rfl
      · obtain ⟨_, _, h, _⟩ := hc (by simp); cases h
    subst hl0
    clear hc
    simp only [List.length_nil, Option.isNone_none, Option.isNone_some] at hn ⊢
    go_enter Try.func92, Try.ntmps92
    go_wp2
    go_ret
    exact ⟨_, rfl, OwnI.nil _ _, Keep.refl _ _⟩
  · clear hc
    simp only [Option.isNone_none, Option.isNone_some] at hn
    have ho : OwnI (w.alloc (.cells #[] TI)) w.heap.size (.slice (some ⟨w.heap.size, 0, none⟩) 0 0) [] := World.ownsRow_made w #[] 0 (Nat.le_refl _) (by simp [maxLen]) rfl
    obtain ⟨v', w', hr, ho', hg⟩ := app_ints ho (H.out.keep ((Keep.refl NoS w).alloc (.cells #[] TI))) (by simp; omega) (by simp)
    have HO := Lib.hid ho'
    have HK : Hid (Keep NoS w w') := Lib.hid (Keep.grown (by (repeat' (first | (with_reducible assumption) | (with_reducible exact HK.out) | (with_reducible exact Keep.refl _ _) | (with_reducible refine Keep.alloc ?_ _) | (with_reducible refine Keep.setCell ?_ _ (fun h => absurd h (by omega))) | (with_reducible refine Keep.drewN ?_ _) | (with_reducible refine Keep.drew ?_)))) hg fun k hk => by cases hk; exact Nat.le_refl _)
    clear ho ho' hg
    go_enter Try.func92, Try.ntmps92
    go_wp2_with (at_builtin; refine wpList_app_run _ _ 22 _ _ rfl rfl rfl rfl hr ?_)
    go_ret
    exact ⟨_, rfl, HO.out, HK.out⟩

/-- A whole number that may be handed in. -/
def fitI (x : Int) : Prop := -1000000 ≤ x ∧ x ≤ 1000000
instance (x : Int) : Decidable (fitI x) := by unfold fitI; infer_instance

set_option maxHeartbeats 2000000 in
theorem whole_any (x : Int) (w : World) : Calls Try.prog 93 #[.int .i64 x] w fun e w' => e = .returned (.bool (decide (fitI x))) ∧ w' = w := by
  by_cases h1 : -1000000 ≤ x
  · by_cases h2 : x ≤ 1000000
    · have e : decide (fitI x) = true := dec_t ⟨h1, h2⟩
      rw [e]
      have e1 : decide (-1000000 ≤ x) = true := dec_t h1
      have e2 : decide (x ≤ 1000000) = true := dec_t h2
      clear e h1 h2
      go_enter Try.func93, Try.ntmps93
      go_wp2
      go_ret
      exact ⟨rfl, rfl⟩
    · have e : decide (fitI x) = false := dec_f fun h => h2 h.2
      rw [e]
      have e1 : decide (-1000000 ≤ x) = true := dec_t h1
      have e2 : decide (x ≤ 1000000) = false := dec_f h2
      clear e h1 h2
      go_enter Try.func93, Try.ntmps93
      go_wp2
      go_ret
      exact ⟨rfl, rfl⟩
  · have e : decide (fitI x) = false := dec_f fun h => h1 h.1
    rw [e]
    have e1 : decide (-1000000 ≤ x) = false := dec_f h1
    clear e h1
    go_enter Try.func93, Try.ntmps93
    go_wp2
    go_ret
    exact ⟨rfl, rfl⟩

end Go.Proofs.Ytihcbmkjfacooaa
