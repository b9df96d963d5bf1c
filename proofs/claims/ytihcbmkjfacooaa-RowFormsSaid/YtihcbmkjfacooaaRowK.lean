/- Package row's Tidy. -/
import Derived.Test.YtihcbmkjfacooaaRowH
import Derived.Test.YtihcbmkjfacooaaRowJ
namespace Go.Proofs.Ytihcbmkjfacooaa
open Go.ChangeShapes Go.WideShapes Go.RowKit
set_option linter.unusedVariables false
set_option linter.unusedSimpArgs false

/-- The first numbers mapped. -/
def mapK (f : Int → Int) (l : List Int) (k : Nat) : List Int := (l.take k).map f ++ l.drop k
theorem mapK_len (f : Int → Int) (l : List Int) (k : Nat) : (mapK f l k).length = l.length := by simp [mapK]; omega
theorem mapK_at (f : Int → Int) (l : List Int) (k : Nat) (hk : k < l.length) : (mapK f l k).getD k 0 = l.getD k 0 := by
  unfold mapK
  rw [List.getD_eq_getElem?_getD, List.getElem?_append_right (by simp; omega)]
  simp [List.getD, Nat.min_eq_left (Nat.le_of_lt hk)]
theorem mapK_set (f : Int → Int) (l : List Int) (k : Nat) (hk : k < l.length) : (mapK f l k).set k (f (l.getD k 0)) = mapK f l (k + 1) := by
  unfold mapK
  apply List.ext_getElem
  · simp; omega
  · intro i h1 h2
    rw [List.getElem_set]
    rcases Nat.lt_trichotomy i k with h | h | h
    · rw [if_neg (by omega), List.getElem_append_left (by simp; omega), List.getElem_append_left (by simp; omega)]
      simp
    · subst h
      rw [if_pos rfl, List.getElem_append_left (by simp; omega)]
      simp [List.getD, hk]
    · rw [if_neg (by omega), List.getElem_append_right (by simp; omega), List.getElem_append_right (by simp; omega)]
      simp [Nat.min_eq_left (Nat.le_of_lt hk), Nat.min_eq_left (Nat.succ_le_of_lt hk)]
      congr 1
      omega
theorem mapK_all (f : Int → Int) (l : List Int) : mapK f l l.length = l.map f := by simp [mapK]

/-- All divided by a number, and turned. -/
def byG (l : List Int) (k t : Int) (g : Nat) : Rw := ⟨turnOf k (l.map fun x => x.tdiv g), k, turnTo k (l.map fun x => x.tdiv g) t⟩
def tidyG (r : Rw) : Nat := Nat.gcd (gcdL (bareL r.of)) r.to.natAbs
def tidyR (r : Rw) : Rw := if bareL r.of = [] then ⟨[], r.kind, emptyTo r.kind r.to⟩ else byG (bareL r.of) r.kind (r.to.tdiv (tidyG r)) (tidyG r)

theorem OwnI.blk {w : World} {base : Nat} {v : Value} {xs : List Int} (h : OwnI w base v xs) (h0 : 0 < xs.length) : ∃ g cap, v = .slice (some ⟨g, 0, none⟩) xs.length cap ∧ base ≤ g ∧ xs.length ≤ cap ∧ IntBlk w g xs := by
  obtain ⟨hl, h | ⟨g, cap, cur, hv, hb, hg, hl', _, hs, ht⟩⟩ := h
  · omega
  · refine ⟨g, cap, hv, hb, hl', cur, ⟨_, hg⟩, fun i hi => ?_⟩
    have h1 : (cur.toList.take (xs.length * 1))[i]? = (iv xs)[i]? := by rw [ht]
    rw [List.getElem?_take, if_pos (by omega)] at h1
    have h2 : cur.toList[i]? = cur[i]? := by simp
    rw [← h2, h1]
    simp [iv, List.getD, hi]

set_option maxRecDepth 100000 in
set_option maxHeartbeats 16000000 in
theorem tidy_none (w : World) (v : Value) (r : Rw) (h : IsRow w v r) (hc : (chkRow r 12).1 = 0) (h0 : bareL r.of = []) : Calls Try.prog 16 #[v] w (RetRow ⟨[], r.kind, emptyTo r.kind r.to⟩ (0, 0) w) := by
  have H := Lib.hid h
  obtain ⟨hcc, hkk, hlen, _, _⟩ := chk_ok hc
  obtain ⟨sv, rfl, hi, _, _, hcp⟩ := h
  obtain ⟨oa, cap, rfl, hm⟩ := hi.len
  have HI := Lib.hid hi
  have HCP := Lib.hid hcp
  clear hi hcp
  obtain ⟨of, kind, tt⟩ := r
  simp only at *
  have HCA := Lib.hid hcc
  have HKK := Lib.hid hkk
  have H0 := Lib.hid h0
  clear hcc hc hkk h0
  go_enter Try.func16, Try.ntmps16
  go_wp2_with fail
  refine (rowCheck_any _ _ ⟨of, kind, tt⟩ 12 (H.out.keep (by (repeat' (first | (with_reducible assumption) | (with_reducible exact HK.out) | (with_reducible exact Keep.refl _ _) | (with_reducible refine Keep.alloc ?_ _) | (with_reducible refine Keep.setCell ?_ _ (fun h => absurd h (by omega))) | (with_reducible refine Keep.drewN ?_ _) | (with_reducible refine Keep.drew ?_)))))).mono ?_
  rintro e w1 ⟨rfl, hk1⟩
  obtain ⟨B0, B1, B2, hk⟩ := head4 hk1
  have HK1 := Lib.hid hk
  rw [HCA.out]
  obtain ⟨t0, t1, t2, _, _, _, l0⟩ := B0.three
  unfold fV
  have HB0 := Lib.hid B0
  have HB1 := Lib.hid B1
  have HB2 := Lib.hid B2
  clear hk1 hk B0 B1 B2
  have n0 : ¬ w1.heap.size = w.heap.size := by omega
  go_wp2_with fail
  have k2 : Keep NoS w1 (w1.alloc (.cells #[.int .i64 0, .int .i64 0] 26)) := (Keep.refl _ _).alloc _
  refine (trimmed_any _ _ of (HI.out.keep (HK1.out.both k2)) HCP.out (by omega)).mono ?_
  rintro e w2 ⟨v2, rfl, ho2, hk2⟩
  rw [H0.out] at ho2
  have K2 := Lib.hid (HK1.out.both (k2.both hk2))
  have hkk2 := k2.both hk2
  obtain ⟨t0', t1', t2', _, _, _, l0'⟩ := (HB0.out.keep hkk2).three
  obtain ⟨oc, cc, hv2⟩ := ho2.len
  simp only [List.length_nil] at hv2
  subst hv2
  have HB1' := Lib.hid (HB1.out.keep hkk2)
  have HB2' := Lib.hid (HB2.out.keep hkk2)
  clear t0 t1 t2 l0 n0 k2 hk2 hkk2 ho2 HK1 HB0 HB1 HB2
  go_wp2_with fail
  refine (empty_any kind tt _ HKK.out).mono ?_
  rintro e w3 ⟨rfl, hk3⟩
  have HK := Lib.hid (K2.out.both hk3)
  obtain ⟨r0, r1, r2, s0, s1, s2, l1⟩ := (HB1'.out.keep hk3).three
  obtain ⟨p0, p1, p2, p3, l2⟩ := (HB2'.out.keep hk3).two
  unfold emptyV
  clear t0' t1' t2' l0' hk3
  go_wp2
  refine bodyPost_ret (by simp [results, Try.results16, go_sem, r0, r1, r2, l1, l2, p0, p1]; rfl) rfl ?_
  exact ⟨_, rfl, ints_nil _, cap_nil, by (repeat' (first | (with_reducible assumption) | (with_reducible exact HK.out) | (with_reducible exact Keep.refl _ _) | (with_reducible refine Keep.alloc ?_ _) | (with_reducible refine Keep.setCell ?_ _ (fun h => absurd h (by omega))) | (with_reducible refine Keep.drewN ?_ _) | (with_reducible refine Keep.drew ?_)))⟩
end Go.Proofs.Ytihcbmkjfacooaa
