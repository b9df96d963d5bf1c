/- Package row's Not. -/
import Derived.Test.YtihcbmkjfacooaaRowG
namespace Go.Proofs.Ytihcbmkjfacooaa
open Go.ChangeShapes Go.WideShapes Go.RowKit
set_option linter.unusedVariables false
set_option linter.unusedSimpArgs false

/-- A row and a fault are returned. -/
def RetRow (s : Rw) (f : Int × Int) (w : World) (e : Ending) (w' : World) : Prop :=
  ∃ sv, e = .returned (.tuple #[.agg #[sv, .int .i64 s.kind, .int .i64 s.to], fV f]) ∧ IsInts w' sv s.of ∧ CapOK sv ∧ Keep NoS w w'

def nilRw : Rw := ⟨[], 0, 0⟩

theorem ints_nil (w : World) : IsInts w (.slice none 0 0) [] := ⟨none, 0, rfl, by simp, by simp, fun h => absurd rfl h⟩
theorem cap_nil : CapOK (.slice none 0 0) := ⟨none, 0, 0, rfl, Nat.le_refl _⟩

/-- The four blocks at the head of a function from rows to rows. -/
theorem head4 {w w1 : World} {sv : Value} {k t : Int} (h : Keep NoS (((w.alloc (.cells #[sv, .int .i64 k, .int .i64 t] 24)).alloc (.cells #[.slice none 0 0, .int .i64 0, .int .i64 0] 24)).alloc (.cells #[.int .i64 0, .int .i64 0] 26)) w1) :
    Blk w1 w.heap.size #[sv, .int .i64 k, .int .i64 t] ∧ Blk w1 (w.heap.size + 1) #[.slice none 0 0, .int .i64 0, .int .i64 0] ∧ Blk w1 (w.heap.size + 1 + 1) #[.int .i64 0, .int .i64 0] ∧ Keep NoS w w1 :=
  ⟨Blk.keep (by (repeat (first | (refine blk_at _ _ ?_; simp; done) | (refine Blk.old ?_ _)))) h, Blk.keep (by (repeat (first | (refine blk_at _ _ ?_; simp; done) | (refine Blk.old ?_ _)))) h, Blk.keep (by (repeat (first | (refine blk_at _ _ ?_; simp; done) | (refine Blk.old ?_ _)))) h, (show Keep NoS w (((w.alloc (.cells #[sv, .int .i64 k, .int .i64 t] 24)).alloc (.cells #[.slice none 0 0, .int .i64 0, .int .i64 0] 24)).alloc (.cells #[.int .i64 0, .int .i64 0] 26)) by (repeat' (first | (with_reducible assumption) | (with_reducible exact HK.out) | (with_reducible exact Keep.refl _ _) | (with_reducible refine Keep.alloc ?_ _) | (with_reducible refine Keep.setCell ?_ _ (fun h => absurd h (by omega))) | (with_reducible refine Keep.drewN ?_ _) | (with_reducible refine Keep.drew ?_)))).both h⟩

set_option maxRecDepth 100000 in
set_option maxHeartbeats 16000000 in
theorem not_bad (w : World) (v : Value) (r : Rw) (h : IsRow w v r) (hc : (chkRow r 12).1 ≠ 0) : Calls Try.prog 18 #[v] w (RetRow nilRw (chkRow r 12) w) := by
  have H := Lib.hid h
  obtain ⟨sv, rfl, hi, _, _⟩ := h
  obtain ⟨oa, cap, rfl, hm⟩ := hi.len
  clear hi
  obtain ⟨of, kind, tt⟩ := r
  simp only at *
  obtain ⟨c, a, hca⟩ : ∃ c a, chkRow ⟨of, kind, tt⟩ 12 = (c, a) := ⟨_, _, rfl⟩
  have hcc : (c != 0) = true := by rw [bne_iff_ne]; rw [hca] at hc; exact hc
  have HCA := Lib.hid hca
  clear hca hc
  go_enter Try.func18, Try.ntmps18
  go_wp2_with fail
  refine (rowCheck_any _ _ ⟨of, kind, tt⟩ 12 (H.out.keep (by (repeat' (first | (with_reducible assumption) | (with_reducible exact HK.out) | (with_reducible exact Keep.refl _ _) | (with_reducible refine Keep.alloc ?_ _) | (with_reducible refine Keep.setCell ?_ _ (fun h => absurd h (by omega))) | (with_reducible refine Keep.drewN ?_ _) | (with_reducible refine Keep.drew ?_)))))).mono ?_
  rintro e w1 ⟨rfl, hk1⟩
  obtain ⟨B0, B1, B2, hk⟩ := head4 hk1
  have HK := Lib.hid hk
  rw [HCA.out]
  obtain ⟨r0, r1, r2, s0, s1, s2, l1⟩ := B1.three
  obtain ⟨p0, p1, p2, p3, l2⟩ := B2.two
  unfold fV
  clear hk1 hk B0 B1 B2
  have n1 : ¬ w1.heap.size = w.heap.size + 1 := by omega
  have n2 : ¬ w1.heap.size = w.heap.size + 1 + 1 := by omega
  have n3 : ¬ w.heap.size + 1 = w1.heap.size := by omega
  have n4 : ¬ w.heap.size + 1 + 1 = w1.heap.size := by omega
  go_wp2
  go_region
  go_wp2
  refine bodyPost_ret (by simp [results, Try.results18, go_sem, r0, r1, r2, l1, l2, p0, p1, n1, n2, n3, n4]; rfl) rfl ?_
  exact ⟨_, by rw [HCA.out]; rfl, ints_nil _, cap_nil, by (repeat' (first | (with_reducible assumption) | (with_reducible exact HK.out) | (with_reducible exact Keep.refl _ _) | (with_reducible refine Keep.alloc ?_ _) | (with_reducible refine Keep.setCell ?_ _ (fun h => absurd h (by omega))) | (with_reducible refine Keep.drewN ?_ _) | (with_reducible refine Keep.drew ?_)))⟩

theorem firstOut_ok : ∀ {l : List Int} {i : Nat}, (firstOut l i).1 = 0 → ∀ x ∈ l, fitI x
  | [], _, _, x, hx => by cases hx
  | y :: l, i, h, x, hx => by
    unfold firstOut at h
    by_cases hy : fitI y
    · rw [if_pos hy] at h
      rcases List.mem_cons.1 hx with rfl | hx
      · exact hy
      · exact firstOut_ok h x hx
    · rw [if_neg hy] at h; cases h

theorem firstOut_zero : ∀ {l : List Int} {i : Nat}, (firstOut l i).1 = 0 → firstOut l i = (0, 0)
  | [], _, _ => rfl
  | y :: l, i, h => by
    unfold firstOut at h ⊢
    by_cases hy : fitI y
    · rw [if_pos hy] at h ⊢; exact firstOut_zero h
    · rw [if_neg hy] at h; cases h

theorem chk_ok {r : Rw} (h : (chkRow r 12).1 = 0) : chkRow r 12 = (0, 0) ∧ (r.kind = 1 ∨ r.kind = 2 ∨ r.kind = 3) ∧ r.of.length ≤ 12 ∧ (∀ x ∈ r.of, fitI x) ∧ fitI r.to := by
  unfold chkRow at h ⊢
  rw [if_neg (by omega)] at h ⊢
  by_cases hk : r.kind = 1 ∨ r.kind = 2 ∨ r.kind = 3
  · rw [if_neg (not_not_intro hk)] at h ⊢
    by_cases hl : (12 : Int) < r.of.length
    · rw [if_pos hl] at h; cases h
    · rw [if_neg hl] at h ⊢
      have h1 := firstOut_ok h
      exact ⟨firstOut_zero h, hk, by omega, fun x hx => h1 x (List.mem_append_left _ hx), h1 _ (by simp)⟩
  · rw [if_pos hk] at h; cases h

set_option maxRecDepth 100000 in
set_option maxHeartbeats 16000000 in
theorem not_same (w : World) (v : Value) (r : Rw) (h : IsRow w v r) (hc : (chkRow r 12).1 = 0) (hk3 : r.kind = 3) : Calls Try.prog 18 #[v] w (RetRow nilRw (4, 0) w) := by
  have H := Lib.hid h
  obtain ⟨hcc, _, _, _, _⟩ := chk_ok hc
  obtain ⟨sv, rfl, hi, _, _⟩ := h
  obtain ⟨oa, cap, rfl, hm⟩ := hi.len
  clear hi
  obtain ⟨of, kind, tt⟩ := r
  simp only at *
  subst hk3
  have HCA := Lib.hid hcc
  clear hcc hc
  go_enter Try.func18, Try.ntmps18
  go_wp2_with fail
  refine (rowCheck_any _ _ ⟨of, 3, tt⟩ 12 (H.out.keep (by (repeat' (first | (with_reducible assumption) | (with_reducible exact HK.out) | (with_reducible exact Keep.refl _ _) | (with_reducible refine Keep.alloc ?_ _) | (with_reducible refine Keep.setCell ?_ _ (fun h => absurd h (by omega))) | (with_reducible refine Keep.drewN ?_ _) | (with_reducible refine Keep.drew ?_)))))).mono ?_
  rintro e w1 ⟨rfl, hk1⟩
  obtain ⟨B0, B1, B2, hk⟩ := head4 hk1
  have HK := Lib.hid hk
  rw [HCA.out]
  obtain ⟨t0, t1, t2, _, _, _, l0⟩ := B0.three
  obtain ⟨r0, r1, r2, s0, s1, s2, l1⟩ := B1.three
  obtain ⟨p0, p1, p2, p3, l2⟩ := B2.two
  unfold fV
  clear hk1 hk B0 B1 B2
  have n0 : ¬ w1.heap.size = w.heap.size := by omega
  have n1 : ¬ w1.heap.size = w.heap.size + 1 := by omega
  have n2 : ¬ w1.heap.size = w.heap.size + 1 + 1 := by omega
  go_wp2
  refine bodyPost_ret (by simp [results, Try.results18, go_sem, r0, r1, r2, l1, l2, p0, p1, n1, n2]; rfl) rfl ?_
  exact ⟨_, rfl, ints_nil _, cap_nil, by (repeat' (first | (with_reducible assumption) | (with_reducible exact HK.out) | (with_reducible exact Keep.refl _ _) | (with_reducible refine Keep.alloc ?_ _) | (with_reducible refine Keep.setCell ?_ _ (fun h => absurd h (by omega))) | (with_reducible refine Keep.drewN ?_ _) | (with_reducible refine Keep.drew ?_)))⟩
end Go.Proofs.Ytihcbmkjfacooaa
