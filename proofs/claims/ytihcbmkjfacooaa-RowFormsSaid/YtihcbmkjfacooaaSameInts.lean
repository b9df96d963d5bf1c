/- umpirageref5.SameInts: are two lists of integers the same? -/
import Derived.Test.YtihcbmkjfacooaaIntBlk
namespace Go.Proofs.Ytihcbmkjfacooaa
open Go.ChangeShapes Go.WideShapes Go.RowKit
set_option linter.unusedVariables false
set_option linter.unusedSimpArgs false

theorem ret_dec {b : Bool} {p : Prop} [Decidable p] (h : b = true ↔ p) : Ending.returned (.bool b) = .returned (.bool (decide p)) := by
  have : decide p = b := by cases b <;> simp_all
  rw [this]

theorem eq_of_getD {a b : List Int} (hl : a.length = b.length) (h : ∀ i, i < a.length → a.getD i 0 = b.getD i 0) : a = b := by
  apply List.ext_getElem hl
  intro i h1 h2
  have := h i h1
  rwa [List.getD_eq_getElem?_getD, List.getElem?_eq_getElem h1, List.getD_eq_getElem?_getD, List.getElem?_eq_getElem h2] at this

set_option maxRecDepth 100000 in
set_option maxHeartbeats 16000000 in
theorem sameInts_quiet (w : World) (va : Value) (a : List Int) (vb : Value) (b : List Int) (h : IsInts w va a) (h' : IsInts w vb b) :
    Calls Try.prog 57 #[va, vb] w fun e w' => e = .returned (.bool (decide (a = b))) ∧ ∃ m, w' = w.drewN m := by
  have HG := Lib.hid h
  have HI := Lib.hid h'
  obtain ⟨oa, cap, rfl, hm, hr, _⟩ := h
  obtain ⟨oa', cap', rfl, hm', hr', _⟩ := h'
  clear hr hr'
  unfold maxLen at hm hm'
  by_cases hl : a.length = b.length
  · have HL := Lib.hid hl
    have hlb : (a.length : Int) = (b.length : Int) := by omega
    have q : ((a.length : Int) != (b.length : Int)) = false := by simp [hl]
    have HB := Lib.hid hlb
    clear hl hlb
    go_enter Try.func57, Try.ntmps57
    go_wp2
    go_loopw [5] (fun s wr => ∃ k : Nat, k ≤ a.length ∧ s = .int .i64 k ∧ (∀ i, i < k → a.getD i 0 = b.getD i 0) ∧ ∃ m, wr = w.drewN m) (fun s _ => (a.length - intOf s).toNat)
    case atStart => exact ⟨0, by omega, rfl, fun i hi => absurd hi (by omega), 0, rfl⟩
    case round =>
      obtain ⟨k, hk, rfl, hlk, m, rfl⟩ := hrel
      have HK := Lib.hid hlk; clear hlk
      by_cases hkl : k < a.length
      · have hlt : (k : Int) < (a.length : Int) := by omega
        have hkb : k < b.length := by have := HL.out; omega
        have hlt2 : (k : Int) < (b.length : Int) := by omega
        obtain ⟨ba, o, cp, hsl, hb, g0⟩ := HG.out.at hkl
        cases hsl
        obtain ⟨ba', o', cp', hsl, hb', g0'⟩ := HI.out.at hkb
        cases hsl
        have ea : a.getD k 0 = a[k] := by rw [List.getD_eq_getElem?_getD, List.getElem?_eq_getElem hkl]; rfl
        have eb : b.getD k 0 = b[k] := by rw [List.getD_eq_getElem?_getD, List.getElem?_eq_getElem hkb]; rfl
        have EA := Lib.hid ea
        have EB := Lib.hid eb
        clear ea eb
        generalize a[k] = x at *
        generalize b[k] = y at *
        by_cases hxy : x = y
        · have HN : Hid (∀ i, i < k + 1 → a.getD i 0 = b.getD i 0) := Lib.hid fun i hi => by
            by_cases hik : i = k
            · subst hik; rw [EA.out, EB.out, hxy]
            · exact HK.out i (by omega)
          subst hxy
          go_wp2
          go_quiet (fail)
          go_wp2
          go_roundw
          case rel => exact ⟨k + 1, by omega, by go_num, HN.out, m + nq, by simp⟩
          case measure => simp [intOf]; omega
        · have hne : (x == y) = false := by simpa using hxy
          have HN : Hid (¬ a = b) := Lib.hid fun hab => hxy (by rw [← EA.out, ← EB.out, hab])
          clear hxy
          go_wp2
          go_quiet (fail)
          go_wp2
          go_ret
          exact ⟨ret_dec (by simp [HN.out]), m + nq, by simp⟩
      · have hlt : ¬ (k : Int) < (a.length : Int) := by omega
        obtain rfl : k = a.length := by omega
        go_wp2
        go_ret
        exact ⟨ret_dec (by simp [eq_of_getD HL.out HK.out]), m, rfl⟩
  · have q : ((a.length : Int) != (b.length : Int)) = true := bne_iff_ne.2 fun h => hl (by omega)
    have HN : Hid (¬ a = b) := Lib.hid fun hab => hl (by rw [hab])
    clear hl
    go_enter Try.func57, Try.ntmps57
    go_wp2
    go_ret
    exact ⟨ret_dec (by simp [HN.out]), 0, rfl⟩

theorem sameInts_any (w : World) (va : Value) (a : List Int) (vb : Value) (b : List Int) (h : IsInts w va a) (h' : IsInts w vb b) :
    Calls Try.prog 57 #[va, vb] w fun e w' => e = .returned (.bool (decide (a = b))) ∧ Keep NoS w w' :=
  (sameInts_quiet w va a vb b h h').mono fun _ _ ⟨he, m, hm⟩ => ⟨he, by rw [hm]; exact (Keep.refl _ _).drewN m⟩
end Go.Proofs.Ytihcbmkjfacooaa
