/- Package row's Tidy: every row. -/
import Derived.Test.YtihcbmkjfacooaaRowL
namespace Go.Proofs.Ytihcbmkjfacooaa
open Go.ChangeShapes Go.WideShapes Go.RowKit
set_option linter.unusedVariables false
set_option linter.unusedSimpArgs false

set_option maxRecDepth 100000 in
set_option maxHeartbeats 16000000 in
theorem tidy_bad (w : World) (v : Value) (r : Rw) (h : IsRow w v r) (hc : (chkRow r 12).1 ≠ 0) : Calls Try.prog 16 #[v] w (RetRow nilRw (chkRow r 12) w) := by
  have H := Lib.hid h
  obtain ⟨sv, rfl, hi, _, _⟩ := h
  obtain ⟨oa, cap, rfl, hm⟩ := hi.len
  clear hi
  obtain ⟨of, kind, tt⟩ := r
  simp only at *
  obtain ⟨c, a, hca⟩ : ∃ c a, chkRow ⟨of, kind, tt⟩ 12 = (c, a) := ⟨_, _, rfl⟩
  have hcc : (c != 0) = true := by rw [bne_iff_ne]; rw [hca] at hc; exact hc
  have HCA := Lib.hid hca
  clear hca hc
  go_enter Try.func16, Try.ntmps16
  go_wp2_with fail
  refine (rowCheck_any _ _ ⟨of, kind, tt⟩ 12 (H.out.keep (by (repeat' (first | (with_reducible assumption) | (with_reducible exact HK.out) | (with_reducible exact Keep.refl _ _) | (with_reducible refine Keep.alloc ?_ _) | (with_reducible refine Keep.setCell ?_ _ (fun h => absurd h (by omega))) | (with_reducible refine Keep.drewN ?_ _) | (with_reducible refine Keep.drew ?_)))))).mono ?_
  rintro e w1 ⟨rfl, hk1⟩
  obtain ⟨B0, B1, B2, hk⟩ := head4 hk1
  have HK := Lib.hid hk
  rw [HCA.out]
  obtain ⟨r0, r1, r2, s0, s1, s2, l1⟩ := B1.three
  obtain ⟨p0, p1, p2, p3, l2⟩ := B2.two
  unfold fV
  clear hk1 hk B0 B1 B2
  have n1 : ¬ w1.heap.size = w.heap.size + 1 := by omega
  have n2 : ¬ w1.heap.size = w.heap.size + 1 + 1 := by omega
  have n3 : ¬ w.heap.size + 1 = w1.heap.size := by omega
  have n4 : ¬ w.heap.size + 1 + 1 = w1.heap.size := by omega
  go_wp2
  go_region
  go_wp2
  refine bodyPost_ret (by simp [results, Try.results16, go_sem, r0, r1, r2, l1, l2, p0, p1, n1, n2, n3, n4]; rfl) rfl ?_
  exact ⟨_, by rw [HCA.out]; rfl, ints_nil _, cap_nil, by (repeat' (first | (with_reducible assumption) | (with_reducible exact HK.out) | (with_reducible exact Keep.refl _ _) | (with_reducible refine Keep.alloc ?_ _) | (with_reducible refine Keep.setCell ?_ _ (fun h => absurd h (by omega))) | (with_reducible refine Keep.drewN ?_ _) | (with_reducible refine Keep.drew ?_)))⟩

/-- What Tidy tells. -/
def tidyF (r : Rw) : Int × Int := chkRow r 12
def tidyS (r : Rw) : Rw := if (chkRow r 12).1 = 0 then tidyR r else nilRw

theorem tidy_any (w : World) (v : Value) (r : Rw) (h : IsRow w v r) : Calls Try.prog 16 #[v] w (RetRow (tidyS r) (tidyF r) w) := by
  unfold tidyS tidyF
  by_cases hc : (chkRow r 12).1 = 0
  · rw [if_pos hc, (chk_ok hc).1]
    unfold tidyR
    by_cases h0 : bareL r.of = []
    · rw [if_pos h0]; exact tidy_none w v r h hc h0
    · rw [if_neg h0]; exact tidy_some w v r h hc h0
  · rw [if_neg hc]; exact tidy_bad w v r h hc

end Go.Proofs.Ytihcbmkjfacooaa
