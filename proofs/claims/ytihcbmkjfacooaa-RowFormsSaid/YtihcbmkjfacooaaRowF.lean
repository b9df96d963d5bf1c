/- Package row's turned. -/
import Derived.Test.YtihcbmkjfacooaaRowE
namespace Go.Proofs.Ytihcbmkjfacooaa
open Go.ChangeShapes Go.WideShapes Go.RowKit
set_option linter.unusedVariables false
set_option linter.unusedSimpArgs false

set_option maxHeartbeats 2000000 in
theorem turned1_any (x : Int) (w : World) : Calls Try.prog 103 #[.int .i64 x] w fun e w' => e = .returned (.bool (x != 0)) ∧ w' = w := by
  go_enter Try.func103, Try.ntmps103
  go_wp2
  go_ret
  exact ⟨rfl, rfl⟩

set_option maxRecDepth 100000 in
set_option maxHeartbeats 8000000 in
theorem indexNZ_any (w : World) (v : Value) (l : List Int) (h : IsInts w v l) (hl : l.length ≤ 1000) :
    Calls Try.prog 102 #[v, .func (.func 103) #[] #[]] w fun e w' => (∃ z : Int, e = .returned (.int .i64 z) ∧ ((∃ k : Nat, z = k ∧ k < l.length ∧ l.getD k 0 ≠ 0 ∧ ∀ i, i < k → l.getD i 0 = 0) ∨ ∀ i, i < l.length → l.getD i 0 = 0)) ∧ w' = w := by
  have H := Lib.hid h
  obtain ⟨oa, cap, hv, hm, _, _⟩ := h
  subst hv
  unfold maxLen at hm
  go_enter Try.func102, Try.ntmps102
  go_wp2
  go_loop [8] (fun s => ∃ k : Nat, k ≤ l.length ∧ s = .int .i64 k ∧ ∀ i, i < k → l.getD i 0 = 0) (fun s => (l.length - intOf s).toNat)
  case atStart => exact ⟨0, by omega, rfl, fun i hi => absurd hi (by omega)⟩
  case round =>
    obtain ⟨k, hk, rfl, hz⟩ := hrel
    have HZ := Lib.hid hz
    clear hz
    by_cases hkl : k < l.length
    · have hlt : (k : Int) < (l.length : Int) := by omega
      obtain ⟨b, o, hoa, hbl, hc⟩ := H.out.cellAt (by omega)
      subst hoa
      have c0 := hc k hkl
      clear hc
      obtain ⟨x, hx⟩ : ∃ x, l.getD k 0 = x := ⟨_, rfl⟩
      rw [hx] at c0
      have HX := Lib.hid hx
      clear hx
      go_wp2_with fail
      refine (turned1_any x _).mono ?_
      rintro e w1 ⟨rfl, rfl⟩
      by_cases h0 : x = 0
      · subst h0
        have HN : Hid (∀ i, i < k + 1 → l.getD i 0 = 0) := Lib.hid fun i hi => by
          by_cases e : i = k
          · rw [e]; exact HX.out
          · exact HZ.out i (by omega)
        go_wp2
        go_round
        case rel => exact ⟨k + 1, by omega, by go_num, HN.out⟩
        case measure => simp [intOf]; omega
      · have e0 : (x != 0) = true := by rw [bne_iff_ne]; exact h0
        have HN : Hid (l.getD k 0 ≠ 0) := Lib.hid (by rw [HX.out]; exact h0)
        clear h0
        go_wp2
        go_ret
        exact ⟨⟨_, rfl, .inl ⟨k, rfl, hkl, HN.out, HZ.out⟩⟩, rfl⟩
    · have hlt : ¬ (k : Int) < (l.length : Int) := by omega
      obtain rfl : k = l.length := by omega
      go_wp2
      go_ret
      exact ⟨⟨_, rfl, .inr HZ.out⟩, rfl⟩

/-- The sign of the first number that is not 0. -/
def sgnL : List Int → Int
  | [] => 0
  | x :: l => if x = 0 then sgnL l else x.sign

theorem sgnL_at : ∀ {l : List Int} {k : Nat}, k < l.length → l.getD k 0 ≠ 0 → (∀ i, i < k → l.getD i 0 = 0) → sgnL l = (l.getD k 0).sign
  | [], k, h, _, _ => by simp at h
  | x :: l, 0, h, h0, _ => by
    have : x ≠ 0 := by simpa using h0
    simp [sgnL, this]
  | x :: l, k + 1, h, h0, hz => by
    have hx : x = 0 := by simpa using hz 0 (by omega)
    rw [sgnL, if_pos hx, sgnL_at (k := k) (by simpa using h) (by simpa using h0) fun i hi => by simpa using hz (i + 1) (by omega)]
    simp

/-- What turning makes of a row. -/
def turnQ (k : Int) (l : List Int) : Prop := k = 3 ∧ sgnL l < 0
instance (k : Int) (l : List Int) : Decidable (turnQ k l) := by unfold turnQ; infer_instance
def turnOf (k : Int) (l : List Int) : List Int := if turnQ k l then l.map (fun x => -x) else l
def turnTo (k : Int) (l : List Int) (t : Int) : Int := if turnQ k l then -t else t

/-- The first numbers negated. -/
def negs (l : List Int) (k : Nat) : List Int := (l.take k).map (fun x => -x) ++ l.drop k
theorem negs_len (l : List Int) (k : Nat) : (negs l k).length = l.length := by simp [negs]; omega
theorem negs_at (l : List Int) (k : Nat) (hk : k < l.length) : (negs l k).getD k 0 = l.getD k 0 := by
  unfold negs
  rw [List.getD_eq_getElem?_getD, List.getElem?_append_right (by simp; omega)]
  simp [List.getD, Nat.min_eq_left (Nat.le_of_lt hk)]
theorem negs_set (l : List Int) (k : Nat) (hk : k < l.length) : (negs l k).set k (-(l.getD k 0)) = negs l (k + 1) := by
  unfold negs
  apply List.ext_getElem
  · simp; omega
  · intro i h1 h2
    rw [List.getElem_set]
    rcases Nat.lt_trichotomy i k with h | h | h
    · rw [if_neg (by omega), List.getElem_append_left (by simp; omega), List.getElem_append_left (by simp; omega)]
      simp
    · subst h
      rw [if_pos rfl, List.getElem_append_left (by simp; omega)]
      simp [List.getD, hk]
    · rw [if_neg (by omega), List.getElem_append_right (by simp; omega), List.getElem_append_right (by simp; omega)]
      simp [Nat.min_eq_left (Nat.le_of_lt hk), Nat.min_eq_left (Nat.succ_le_of_lt hk)]
      congr 1
      omega
theorem negs_all (l : List Int) : negs l l.length = l.map fun x => -x := by simp [negs]

theorem IntBlk.grown0 {w w' : World} {g : Nat} {xs : List Int} (h : IntBlk w g xs) (k : Keep NoS w w') : IntBlk w' g xs := h.keep k

end Go.Proofs.Ytihcbmkjfacooaa
