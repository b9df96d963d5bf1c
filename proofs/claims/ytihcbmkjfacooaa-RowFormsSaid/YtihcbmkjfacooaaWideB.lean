/- Contracts of the wide numbers: making them of machine numbers. -/
import Derived.Test.YtihcbmkjfacooaaWideA
namespace Go.Proofs.Ytihcbmkjfacooaa
open Go.ChangeShapes Go.WideShapes Go.RowKit
set_option linter.unusedVariables false
set_option linter.unusedSimpArgs false

/-- Two cells of a header written: a new slice of digits. -/
theorem raw_make {w : World} {b o : Nat} (h : IsHdr w b o) (neg : Bool) {v : Value} {ds : List Nat} (hd : IsDig w v ds) :
    IsRaw ((w.setCell ⟨b, o, none⟩ (.bool neg)).setCell ⟨b, o + 1, none⟩ v) b o neg ds := by
  obtain ⟨c, t, hb, ht, hsz, _⟩ := h
  obtain ⟨g', cap', cg, fr, hv, hg, hl, hm, hc, hd⟩ := hd
  have hgb : g' ≠ b := by intro e; subst e; rw [hb] at hg; simp at hg; exact ht hg.2.1
  have h1 := heap_setCell_same (w := w) o (.bool neg) hb
  refine ⟨_, t, v, heap_setCell_same (o + 1) v h1, ht, ?_, ?_, g', cap', cg, fr, hv, ?_, hl, hm, hc, hd⟩
  · rw [Array.getElem?_setIfInBounds, if_neg (by omega), Array.getElem?_setIfInBounds, if_pos rfl, if_pos (by omega)]
  · rw [Array.getElem?_setIfInBounds, if_pos rfl, if_pos (by simp; omega)]
  · rw [heap_setCell_other _ _ _ _ hgb, heap_setCell_other _ _ _ _ hgb]; exact hg

theorem IsHdr.open {w : World} {b o : Nat} (h : IsHdr w b o) : ∃ neg a n m, w.cell? ⟨b, o, none⟩ = some (.bool neg) ∧ w.cell? ⟨b, o + 1, none⟩ = some (.slice a n m) ∧ w.frozen? ⟨b, o, none⟩ = false ∧ w.frozen? ⟨b, o + 1, none⟩ = false ∧ b < w.heap.size := by
  obtain ⟨c, t, hb, ht, hsz, ⟨neg, h0⟩, a, n, m, h1⟩ := h
  exact ⟨neg, a, n, m, cell_of_heap hb h0, cell_of_heap hb h1, free_of_heap hb, free_of_heap hb, lt_of_heap hb⟩

theorem dig_new (w : World) (ds : List Nat) (hl : ds.length ≤ maxLen) (hd : ∀ d ∈ ds, d < 4294967296) :
    IsDig (w.alloc (.cells (ds.map fun d => Value.int .u32 (d : Nat)).toArray U32)) (.slice (some ⟨w.heap.size, 0, none⟩) ds.length ds.length) ds :=
  ⟨w.heap.size, ds.length, _, (0, 0), rfl, heap_alloc_at _ _ _ rfl, Nat.le_refl _, hl, fun i hi => by simp [List.getD, hi], hd⟩

/-- A new row of digits laid behind the two stores (the walk's order). -/
theorem raw_new {w : World} {b o : Nat} (h : IsHdr w b o) (neg : Bool) (ds : List Nat) (cs : Array Value) (n : Nat) (hn : n = ds.length) (hcs : cs = (ds.map fun d => Value.int .u32 (d : Nat)).toArray) (hl : ds.length ≤ maxLen) (hd : ∀ d ∈ ds, d < 4294967296) :
    IsRaw (((w.setCell ⟨b, o, none⟩ (.bool neg)).setCell ⟨b, o + 1, none⟩ (.slice (some ⟨w.heap.size, 0, none⟩) n n)).alloc (.cells cs U32)) b o neg ds := by
  subst hn hcs
  obtain ⟨c, t, hb, ht, hsz, _⟩ := h
  have h1 := heap_setCell_same (w := w) o (.bool neg) hb
  have h2 := heap_setCell_same (o + 1) (.slice (some ⟨w.heap.size, 0, none⟩) ds.length ds.length) h1
  refine ⟨_, t, _, (heap_alloc_old _ _ _ (lt_of_heap h2)).trans h2, ht, ?_, ?_, w.heap.size, ds.length, _, (0, 0), rfl, heap_alloc_at _ _ _ (by simp), Nat.le_refl _, hl, fun i hi => by simp [List.getD, hi], hd⟩
  · rw [Array.getElem?_setIfInBounds, if_neg (by omega), Array.getElem?_setIfInBounds, if_pos rfl, if_pos (by omega)]
  · rw [Array.getElem?_setIfInBounds, if_pos rfl, if_pos (by simp; omega)]

set_option maxHeartbeats 1000000 in
theorem setUint64_any (w : World) (b o n : Nat) (h : IsHdr w b o) (hn : n < 18446744073709551616) :
    Calls Try.prog 137 #[.pointer (some ⟨b, o, none⟩), .int .u64 n] w fun e w' => e = .returned (.pointer (some ⟨b, o, none⟩)) ∧ Keep (At b o) w w' ∧ IsInt w' b o n := by
  obtain ⟨neg, a, m1, m2, hc0, hc1, hf0, hf1, hb⟩ := h.open
  have H := Lib.hid h; clear h
  have hz : sgn false (dval [n % 4294967296, n / 4294967296]) = (n : Int) := by simp [sgn, dval]; omega
  have Hz := Lib.hid hz; clear hz
  go_enter Try.func137, Try.ntmps137
  go_wp2_with fail
  refine (trim_any _ b o false [n % 4294967296, n / 4294967296] (raw_new H.out false [n % 4294967296, n / 4294967296] _ 2 rfl (by simp) (by simp [maxLen]) (by simp; omega))).mono ?_
  rintro e w1 ⟨rfl, hk, hi⟩
  go_wp2
  go_returns
  refine ⟨rfl, ?_, ?_⟩
  · exact ((((Keep.refl _ _).setCell _ fun _ => at_l b o).setCell _ fun _ => at_r b o).alloc _).trans hk fun _ _ _ h => h
  · rw [Hz.out] at hi; exact hi

/-- The lowest 64 bits of the absolute value. -/
theorem u64_of_neg (n : Int) (h1 : -9223372036854775808 ≤ n) (h2 : n < 0) : IntKind.u64.wrap (-IntKind.u64.wrap n) = (n.natAbs : Nat) := size_neg_eq n h2 h1

theorem dval_zero (ds : List Nat) (h : NoEnd ds) (h0 : dval ds = 0) : ds = [] := by
  by_cases he : ds = []
  · exact he
  · have := dval_ge ds h he
    have := Nat.pow_pos (n := ds.length - 1) (show 0 < 4294967296 by omega)
    omega

theorem sgn_zero {neg : Bool} {ds : List Nat} (h : NoEnd ds) (hn : neg = true → ds ≠ []) : sgn neg (dval ds) = 0 ↔ ds = [] := by
  constructor
  · intro h0
    have := natAbs_sgn neg (dval ds)
    rw [h0] at this
    exact dval_zero ds h this.symm
  · rintro rfl; cases neg <;> simp [sgn, dval]

/-- What the walk needs of a whole number; and its digits. -/
theorem IsInt.open {w : World} {b o : Nat} {z : Int} (h : IsInt w b o z) : ∃ neg ds, IsRaw w b o neg ds ∧ NoEnd ds ∧ (neg = true → ds ≠ []) ∧ z = sgn neg (dval ds) ∧ (neg = true ↔ z < 0) ∧ (ds = [] ↔ z = 0) ∧ dval ds = z.natAbs := by
  obtain ⟨neg, ds, hr, hn, hne, rfl⟩ := h
  refine ⟨neg, ds, hr, hn, hne, rfl, ?_, (sgn_zero hn hne).symm, (natAbs_sgn _ _).symm⟩
  constructor
  · intro e
    have : dval ds ≠ 0 := fun h0 => hne e (dval_zero ds hn h0)
    subst e; simp [sgn]; omega
  · intro h0
    cases neg
    · simp [sgn] at h0; omega
    · rfl

theorem int_setNeg {w : World} {b o : Nat} {z : Int} (h : IsInt w b o z) (z' : Int) (neg' : Bool) (hz : z'.natAbs = z.natAbs) (hn : neg' = decide (z' < 0)) : IsInt (w.setCell ⟨b, o, none⟩ (.bool neg')) b o z' := by
  obtain ⟨neg, ds, hr, hne, hn0, hz0, h1, h2, h3⟩ := h.open
  refine ⟨neg', ds, raw_neg hr neg', hne, fun e h0 => ?_, ?_⟩
  · have := h2.1 h0; subst hn; simp at e; omega
  · rw [h3, ← hz]; subst hn; by_cases h0 : z' < 0 <;> simp [sgn, h0] <;> omega

set_option maxHeartbeats 1000000 in
theorem setInt64_any (w : World) (b o : Nat) (n : Int) (h : IsHdr w b o) (h1 : -9223372036854775808 ≤ n) (h2 : n ≤ 9223372036854775807) :
    Calls Try.prog 122 #[.pointer (some ⟨b, o, none⟩), .int .i64 n] w fun e w' => e = .returned (.pointer (some ⟨b, o, none⟩)) ∧ Keep (At b o) w w' ∧ IsInt w' b o n := by
  have H := Lib.hid h; clear h
  by_cases hn : n < 0
  · have e1 := u64_of_neg n h1 hn
    have E1 := Lib.hid e1; clear e1
    go_enter Try.func122, Try.ntmps122
    go_wp2_with fail
    rw [E1.out]
    refine (setUint64_any _ b o n.natAbs H.out (by omega)).mono ?_
    rintro e w1 ⟨rfl, hk, hi⟩
    obtain ⟨neg, a, m1, m2, hc0, hc1, hf0, hf1, hb⟩ := hi.hdr.open
    have Hi := Lib.hid hi; clear hi
    have Hk := Lib.hid hk; clear hk
    go_wp2
    go_returns
    exact ⟨rfl, Hk.out.setCell _ fun _ => at_l b o, int_setNeg Hi.out n true (by omega) (by simp [hn])⟩
  · obtain ⟨m, rfl⟩ : ∃ m : Nat, n = m := ⟨n.toNat, by omega⟩
    go_enter Try.func122, Try.ntmps122
    go_wp2_with fail
    refine (setUint64_any _ b o m H.out (by omega)).mono ?_
    rintro e w1 ⟨rfl, hk, hi⟩
    go_wp2
    go_returns
    exact ⟨rfl, hk, hi⟩

/-- A new whole number, 0. -/
theorem hdr_new (w : World) : IsHdr (w.alloc (.cells #[.bool false, .slice none 0 0] 74)) w.heap.size 0 :=
  ⟨_, _, heap_alloc_at _ _ _ rfl, by decide, by simp, ⟨false, by simp⟩, none, 0, 0, by simp⟩

set_option maxHeartbeats 1000000 in
theorem newInt_any (w : World) (n : Int) (h1 : -9223372036854775808 ≤ n) (h2 : n ≤ 9223372036854775807) :
    Calls Try.prog 80 #[.int .i64 n] w fun e w' => ∃ b, w.heap.size ≤ b ∧ e = .returned (.pointer (some ⟨b, 0, none⟩)) ∧ Keep NoS w w' ∧ IsInt w' b 0 n := by
  go_enter Try.func80, Try.ntmps80
  go_wp2_with fail
  refine (setInt64_any _ _ 0 n (hdr_new w) h1 h2).mono ?_
  rintro e w1 ⟨rfl, hk, hi⟩
  go_wp2
  go_returns
  exact ⟨_, Nat.le_refl _, rfl, ((Keep.refl NoS w).alloc _).trans hk fun n o hn h => by have := h.1; omega, hi⟩

end Go.Proofs.Ytihcbmkjfacooaa
