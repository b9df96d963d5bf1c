/- What is asked of lists of exact numbers: package farkas: is one of the numbers not 0? -/
import Derived.Test.YtamjmcdlddocgaaFkB
namespace Go.Proofs.Ytamjmcdlddocgaa
open Go.ChangeShapes Go.WideShapes Go.RowKit
set_option linter.unusedVariables false
set_option linter.unusedSimpArgs false

/-- The place of the first that is so, or -1. -/
def idxP (p : Rat → Bool) : List Rat → Nat → Int
  | [], _ => -1
  | q :: l, i => if p q = true then i else idxP p l (i + 1)
theorem idxP_in {p : Rat → Bool} {l : List Rat} {k i : Nat} (hk : k < l.length) (h : p l[k] = false) : idxP p (l.drop k) i = idxP p (l.drop (k + 1)) (i + 1) := by
  rw [List.drop_eq_getElem_cons hk, idxP, if_neg (by rw [h]; decide)]
theorem idxP_out {p : Rat → Bool} {l : List Rat} {k i : Nat} (hk : k < l.length) (h : p l[k] = true) : idxP p (l.drop k) i = (i : Int) := by
  rw [List.drop_eq_getElem_cons hk, idxP, if_pos h]
theorem idxP_end {p : Rat → Bool} {l : List Rat} {k i : Nat} (hk : l.length ≤ k) : idxP p (l.drop k) i = -1 := by
  rw [List.drop_eq_nil_of_le hk]; rfl
theorem idxP_any {p : Rat → Bool} : ∀ {l : List Rat} {i : Nat}, decide (0 ≤ idxP p l i) = l.any p
  | [], _ => rfl
  | q :: l, i => by
    unfold idxP
    rw [List.any_cons]
    by_cases h : p q = true
    · rw [if_pos h, h]; simp
    · rw [if_neg h, idxP_any]; simp [h]
def nzP (q : Rat) : Bool := decide (q ≠ 0)

set_option maxRecDepth 100000 in
set_option maxHeartbeats 4000000 in
theorem nzClo_any (w : World) (nb : Bool) (nS : ByteArray) (db : Bool) (dS : ByteArray) (q : Rat) (h : IsNum (.agg #[.bool nb, .string nS, .bool db, .string dS]) q) : Calls Try.prog 40 #[.agg #[.bool nb, .string nS, .bool db, .string dS]] w fun e w' => e = .returned (.bool (nzP q)) ∧ Keep NoS w w' := by
  have CC := fun w => Lib.hid (exSign_num h w)
  clear h
  unfold nzP
  by_cases hx : q = 0
  · rw [num_zero_of hx] at CC
    rw [decide_eq_false (by simp [hx])]
    clear hx
    go_enter Try.func40, Try.ntmps40
    go_wp2_with fail
    refine (CC _).out.mono ?_
    rintro e w1 ⟨rfl, hk1⟩
    go_wp2
    go_ret
    exact ⟨rfl, Keep.both (by (repeat' (with_reducible first | assumption | exact HK.out | exact keR | refine keA ?_ | refine keS ?_ fun h => absurd h (by omega) | refine keN ?_ | refine keD ?_))) hk1⟩
  · have hs : (q.num.sign != 0) = true := by rw [bne_iff_ne]; exact num_sign_ne hx
    rw [decide_eq_true (by simpa using hx)]
    generalize q.num.sign = s at *
    clear hx
    go_enter Try.func40, Try.ntmps40
    go_wp2_with fail
    refine (CC _).out.mono ?_
    rintro e w1 ⟨rfl, hk1⟩
    go_wp2
    go_ret
    exact ⟨rfl, Keep.both (by (repeat' (with_reducible first | assumption | exact HK.out | exact keR | refine keA ?_ | refine keS ?_ fun h => absurd h (by omega) | refine keN ?_ | refine keD ?_))) hk1⟩

set_option maxRecDepth 100000 in
set_option maxHeartbeats 8000000 in
theorem nzIndex_any (w : World) (v : Value) (l : List Rat) (h : IsNums w v l) :
    Calls Try.prog 82 #[v, .func (.func 40) #[] #[]] w fun e w' => e = .returned (.int .i64 (idxP nzP l 0)) ∧ Keep NoS w w' := by
  have HN := Lib.hid h
  obtain ⟨oa, ca, rfl, hca, hma⟩ := h.len
  unfold maxLen at hma
  clear h
  go_enter Try.func82, Try.ntmps82
  go_wp2
  go_loopw [8] (fun s wr => ∃ k : Nat, k ≤ l.length ∧ s = .int .i64 k ∧ idxP nzP l 0 = idxP nzP (l.drop k) k ∧ Keep NoS w wr) (fun s _ => (l.length - intOf s).toNat)
  case atStart => exact ⟨0, by omega, rfl, rfl, Keep.refl _ _⟩
  case round =>
    obtain ⟨k, hk, rfl, hf, hkr⟩ := hrel
    have HF := Lib.hid hf
    have HKR := Lib.hid hkr
    clear hf hkr
    by_cases hkl : k < l.length
    · have hlt : (k : Int) < (l.length : Int) := by omega
      obtain ⟨b, o, rfl, hbl, nb, nS, db, dS, p0, p1, p2, p3, hnum⟩ := (HN.out.keep HKR.out).at hkl
      have hIN := fun h => idxP_in (p := nzP) (i := k) hkl h
      have hOUT := fun h => idxP_out (p := nzP) (i := k) hkl h
      have CC := fun w => Lib.hid (nzClo_any w _ _ _ _ _ hnum)
      clear hnum
      generalize nzP l[k] = bq at *
      cases bq
      · have HNX := Lib.hid (HF.out.trans (hIN rfl))
        clear hIN hOUT HF
        go_wp2_with fail
        refine (CC _).out.mono ?_
        rintro e w4 ⟨rfl, hk4⟩
        have K4 := Lib.hid (HKR.out.both hk4)
        clear hk4 p0 p1 p2 p3
        go_wp2
        go_roundw
        case rel => exact ⟨k + 1, by omega, by go_num, HNX.out, K4.out⟩
        case measure => simp [intOf]; omega
      · have HNX := Lib.hid (HF.out.trans (hOUT rfl))
        clear hIN hOUT HF
        go_wp2_with fail
        refine (CC _).out.mono ?_
        rintro e w4 ⟨rfl, hk4⟩
        have K4 := Lib.hid (HKR.out.both hk4)
        clear hk4 p0 p1 p2 p3
        go_wp2
        go_ret
        exact ⟨by rw [HNX.out]; rfl, K4.out⟩
    · have hlt : ¬ (k : Int) < (l.length : Int) := by omega
      have HNX := Lib.hid (HF.out.trans (idxP_end (i := k) (by omega)))
      clear HF
      go_wp2
      go_ret
      exact ⟨by rw [HNX.out]; rfl, HKR.out⟩

set_option maxRecDepth 100000 in
set_option maxHeartbeats 8000000 in
theorem nzAny_any (w : World) (v : Value) (l : List Rat) (h : IsNums w v l) :
    Calls Try.prog 39 #[v, .func (.func 40) #[] #[]] w fun e w' => e = .returned (.bool (l.any nzP)) ∧ Keep NoS w w' := by
  have CC := fun w' (k : Keep NoS w w') => Lib.hid (nzIndex_any w' v l (h.keep k))
  rw [← idxP_any (p := nzP) (l := l) (i := 0)]
  obtain ⟨oa, ca, rfl, hca, hma⟩ := h.len
  generalize idxP nzP l 0 = z at *
  clear h
  go_enter Try.func39, Try.ntmps39
  go_wp2_with fail
  refine (CC _ (by (repeat' (with_reducible first | assumption | exact HK.out | exact keR | refine keA ?_ | refine keS ?_ fun h => absurd h (by omega) | refine keN ?_ | refine keD ?_)))).out.mono ?_
  rintro e w1 ⟨rfl, hk1⟩
  have K1 := Keep.both (by (repeat' (with_reducible first | assumption | exact HK.out | exact keR | refine keA ?_ | refine keS ?_ fun h => absurd h (by omega) | refine keN ?_ | refine keD ?_))) hk1
  go_wp2
  go_ret
  exact ⟨rfl, K1⟩
end Go.Proofs.Ytamjmcdlddocgaa
