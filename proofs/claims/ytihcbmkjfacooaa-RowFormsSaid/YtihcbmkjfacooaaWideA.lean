/- Contracts of the wide numbers' small methods. -/
import Derived.Test.YtihcbmkjfacooaaWide
namespace Go.Proofs.Ytihcbmkjfacooaa
open Go.ChangeShapes Go.WideShapes Go.RowKit
set_option linter.unusedVariables false
set_option linter.unusedSimpArgs false

theorem getD_of_lt {ds : List Nat} {i : Nat} (h : i < ds.length) : ds.getD i 0 = ds[i] := by simp [List.getD, h]

/-- What a walk needs of a number in memory. -/
theorem IsRaw.open {w : World} {b o : Nat} {neg : Bool} {ds : List Nat} (h : IsRaw w b o neg ds) :
    ∃ g cap, w.cell? ⟨b, o, none⟩ = some (.bool neg) ∧ w.cell? ⟨b, o + 1, none⟩ = some (.slice (some ⟨g, 0, none⟩) ds.length cap) ∧ ds.length ≤ cap ∧ cap ≤ maxLen ∧ b < w.heap.size ∧ g < w.heap.size ∧ g ≠ b ∧
      w.frozen? ⟨b, o, none⟩ = false ∧ w.frozen? ⟨b, o + 1, none⟩ = false ∧ (∀ i, i < ds.length → w.cell? ⟨g, i, none⟩ = some (.int .u32 (ds.getD i 0 : Nat)) ∧ ds.getD i 0 < 4294967296) := by
  obtain ⟨c, t, v, hb, ht, h0, h1, g, cap, cg, fr, hv, hg, hl, hm, hc, hd⟩ := h
  subst hv
  refine ⟨g, cap, cell_of_heap hb h0, cell_of_heap hb h1, hl, hm, lt_of_heap hb, lt_of_heap hg, ?_, free_of_heap hb, free_of_heap hb, fun i hi => ⟨cell_of_heap hg (hc i hi), ?_⟩⟩
  · intro e; subst e; rw [hb] at hg; simp at hg; exact ht hg.2.1
  · rw [getD_of_lt hi]; exact hd _ (List.getElem_mem hi)

/-- The number's two cells written anew, with fewer digits of the same row. -/
theorem raw_set {w : World} {b o : Nat} {neg : Bool} {ds : List Nat} (h : IsRaw w b o neg ds) {g cap : Nat} (hs : w.cell? ⟨b, o + 1, none⟩ = some (.slice (some ⟨g, 0, none⟩) ds.length cap)) (n : Nat) (hn : n ≤ ds.length) :
    IsRaw (w.setCell ⟨b, o + 1, none⟩ (.slice (some ⟨g, 0, none⟩) n cap)) b o neg (ds.take n) := by
  obtain ⟨c, t, v, hb, ht, h0, h1, g', cap', cg, fr, hv, hg, hl, hm, hc, hd⟩ := h
  subst hv
  rw [cell_of_heap hb h1] at hs
  simp at hs
  obtain ⟨rfl, rfl⟩ := hs
  have hgb : g' ≠ b := by intro e; subst e; rw [hb] at hg; simp at hg; exact ht hg.2.1
  have hsz : o + 1 < c.size := by
    rcases Nat.lt_or_ge (o + 1) c.size with h' | h'
    · exact h'
    · simp [Array.getElem?_eq_none h'] at h1
  refine ⟨_, t, .slice (some ⟨g', 0, none⟩) n cap', heap_setCell_same (o + 1) _ hb, ht, ?_, ?_, g', cap', cg, fr, by simp [Nat.min_eq_left hn], ?_, ?_, hm, ?_, ?_⟩
  · rw [Array.getElem?_setIfInBounds, if_neg (by omega)]; exact h0
  · rw [Array.getElem?_setIfInBounds, if_pos rfl, if_pos hsz]
  · rw [heap_setCell_other _ _ _ _ hgb]; exact hg
  · simp; omega
  · intro i hi
    simp at hi
    rw [hc i (by omega)]
    simp [List.getD, show i < n from by omega]
  · intro d hd'; exact hd d (List.mem_of_mem_take hd')

theorem raw_neg {w : World} {b o : Nat} {neg : Bool} {ds : List Nat} (h : IsRaw w b o neg ds) (neg' : Bool) : IsRaw (w.setCell ⟨b, o, none⟩ (.bool neg')) b o neg' ds := by
  obtain ⟨c, t, v, hb, ht, h0, h1, g', cap', cg, fr, hv, hg, hl, hm, hc, hd⟩ := h
  have hgb : g' ≠ b := by intro e; subst e; rw [hb] at hg; simp at hg; exact ht hg.2.1
  have hsz : o < c.size := by
    rcases Nat.lt_or_ge o c.size with h' | h'
    · exact h'
    · simp [Array.getElem?_eq_none h'] at h0
  refine ⟨_, t, v, heap_setCell_same o _ hb, ht, ?_, ?_, g', cap', cg, fr, hv, ?_, hl, hm, hc, hd⟩
  · rw [Array.getElem?_setIfInBounds, if_pos rfl, if_pos hsz]
  · rw [Array.getElem?_setIfInBounds, if_neg (by omega)]; exact h1
  · rw [heap_setCell_other _ _ _ _ hgb]; exact hg

theorem at_l (b o : Nat) : At b o b o := ⟨rfl, .inl rfl⟩
theorem at_r (b o : Nat) : At b o b (o + 1) := ⟨rfl, .inr rfl⟩

/-- How trim ends: k digits are left. -/
theorem trim_fin {w : World} {b o : Nat} {neg : Bool} {ds : List Nat} (h : IsRaw w b o neg ds) {g cap : Nat} (hs : w.cell? ⟨b, o + 1, none⟩ = some (.slice (some ⟨g, 0, none⟩) ds.length cap)) (k : Nat) (hk : k ≤ ds.length)
    (hv : dval (ds.take k) = dval ds) (hk0 : k = 0 ∨ ds.getD (k - 1) 0 ≠ 0) (neg' : Bool) (hn : neg' = neg ∨ k = 0) (hn' : neg' = true → k ≠ 0) (w' : World)
    (hw : w' = (w.setCell ⟨b, o + 1, none⟩ (.slice (some ⟨g, 0, none⟩) k cap)) ∧ neg' = neg ∨ w' = (w.setCell ⟨b, o + 1, none⟩ (.slice (some ⟨g, 0, none⟩) k cap)).setCell ⟨b, o, none⟩ (.bool neg')) :
    Keep (At b o) w w' ∧ IsInt w' b o (sgn neg (dval ds)) := by
  have h1 := raw_set h hs k hk
  have k1 : Keep (At b o) w (w.setCell ⟨b, o + 1, none⟩ (.slice (some ⟨g, 0, none⟩) k cap)) := (Keep.refl _ _).setCell _ fun _ => at_r b o
  have hz : sgn neg (dval ds) = sgn neg' (dval (ds.take k)) := by
    rw [hv]
    rcases hn with rfl | rfl
    · rfl
    · have : dval ds = 0 := by rw [← hv]; simp [dval]
      rw [this]; cases neg <;> cases neg' <;> rfl
  have hne : NoEnd (ds.take k) := by
    by_cases hk1 : k = 0
    · left; simp [hk1]
    · right
      simp only [List.length_take, Nat.min_eq_left hk]
      rcases hk0 with h0 | h0
      · exact absurd h0 hk1
      · simpa [List.getD, show k - 1 < k from by omega] using h0
  have hnt : neg' = true → ds.take k ≠ [] := fun e h0 => by
    have := hn' e
    have h2 : (ds.take k).length = 0 := by rw [h0]; rfl
    rw [List.length_take, Nat.min_eq_left hk] at h2
    exact this h2
  rcases hw with ⟨rfl, rfl⟩ | rfl
  · exact ⟨k1, _, _, h1, hne, hnt, hz⟩
  · exact ⟨k1.setCell _ fun _ => at_l b o, _, _, raw_neg h1 neg', hne, hnt, hz⟩

set_option maxHeartbeats 1000000 in
theorem trim_any (w : World) (b o : Nat) (neg : Bool) (ds : List Nat) (h : IsRaw w b o neg ds) :
    Calls Try.prog 129 #[.pointer (some ⟨b, o, none⟩)] w fun e w' => e = .returned (.pointer (some ⟨b, o, none⟩)) ∧ Keep (At b o) w w' ∧ IsInt w' b o (sgn neg (dval ds)) := by
  obtain ⟨g, cap, hc0, hc1, hlc, hcm, hb, hg, hgb, hf0, hf1, hdig⟩ := h.open
  unfold maxLen at hcm
  have HD := Lib.hid hdig; clear hdig
  have H := Lib.hid h; clear h
  go_enter Try.func129, Try.ntmps129
  go_wp2
  go_loop [3] (fun n => ∃ k : Nat, k ≤ ds.length ∧ n = .int .i64 k ∧ dval (ds.take k) = dval ds) (fun n => (intOf n).toNat)
  case atStart => exact ⟨ds.length, Nat.le_refl _, rfl, by simp⟩
  case round =>
    obtain ⟨k, hk, rfl, hv⟩ := hrel
    have Hv := Lib.hid hv; clear hv
    by_cases hk0 : k = 0
    · subst hk0
      go_wp2
      go_returns
      exact ⟨rfl, trim_fin H.out hc1 0 (Nat.zero_le _) Hv.out (.inl rfl) false (.inr rfl) (by simp) _ (.inr rfl)⟩
    · have hlt : k - 1 < ds.length := by omega
      obtain ⟨q1, q2⟩ := HD.out (k - 1) hlt
      have e0 : decide ((0 : Int) < (k : Int)) = true := dec_t (by omega)
      have e1 : ((k : Int) == 0) = false := by simp; omega
      generalize hx : ds.getD (k - 1) 0 = x at q1 q2
      have Hx := Lib.hid hx; clear hx
      by_cases hx0 : x = 0
      · subst hx0
        go_wp2
        go_round
        case rel =>
          refine ⟨k - 1, by omega, by go_num, ?_⟩
          have := dval_take_succ ds (k - 1) hlt
          rw [show k - 1 + 1 = k from by omega, Hx.out, Hv.out] at this
          simpa using this.symm
        case measure => simp [intOf]; omega
      · have e2 : ((x : Int) == 0) = false := by simp; omega
        go_wp2
        go_returns
        exact ⟨rfl, trim_fin H.out hc1 k hk Hv.out (.inr (by rw [Hx.out]; exact hx0)) neg (.inl rfl) (fun _ => hk0) _ (.inl ⟨rfl, rfl⟩)⟩

end Go.Proofs.Ytihcbmkjfacooaa
