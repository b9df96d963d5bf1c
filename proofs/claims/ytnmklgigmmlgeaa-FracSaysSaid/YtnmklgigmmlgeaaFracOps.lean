/- Contracts of package frac's operations: checked, apply, Add, Sub, Times, Over, Less, Floor. -/
import Derived.Test.YtnmklgigmmlgeaaRatB
import Derived.Test.YtnmklgigmmlgeaaOpen
namespace Go.Proofs.Ytnmklgigmmlgeaa
open Go.ChangeShapes Go.WideShapes Go.RowKit
set_option linter.unusedVariables false
set_option linter.unusedSimpArgs false

theorem Below.keep {w w' : World} (h : Below w.heap.size w w') : Keep NoS w w' := Keep.of_below h (Nat.le_refl _)
theorem Keep.bel {w w' : World} (h : Keep NoS w w') : Below w.heap.size w w' := h.below (Nat.le_refl _) fun _ _ h => h.elim

@[go_sem] theorem fault_field0 (a b : Int) (w : World) : (Instr.field 25 (.agg #[.int .i64 a, .int .i64 b]) 0).run Try.prog w = .ok (.int .i64 a) w := by kernel_rfl
@[go_sem] theorem fault_field1 (a b : Int) (w : World) : (Instr.field 25 (.agg #[.int .i64 a, .int .i64 b]) 1).run Try.prog w = .ok (.int .i64 b) w := by kernel_rfl

/-- The fault of two operands: its code, its place. -/
def ckC (n1 d1 n2 d2 : Int) : Int := if FracOK n1 d1 then if FracOK n2 d2 then 0 else 3 else 3
def ckA (n1 d1 n2 d2 : Int) : Int := if FracOK n1 d1 then if FracOK n2 d2 then 0 else 1 else 0

set_option maxHeartbeats 8000000 in
set_option maxRecDepth 100000 in
theorem checked_two (w : World) (g : Nat) (n1 d1 n2 d2 : Int) (c0 : w.cell? ⟨g, 0, none⟩ = some (.int .i64 n1)) (c1 : w.cell? ⟨g, 1, none⟩ = some (.int .i64 d1)) (c2 : w.cell? ⟨g, 2, none⟩ = some (.int .i64 n2)) (c3 : w.cell? ⟨g, 3, none⟩ = some (.int .i64 d2)) :
    Calls Try.prog 51 #[.slice (some ⟨g, 0, none⟩) 2 2] w fun e w' => e = .returned (faultV (ckC n1 d1 n2 d2) (ckA n1 d1 n2 d2)) ∧ Keep NoS w w' := by
  have hg : g < w.heap.size := World.block_lt_of_cell? w _ c0
  by_cases h1 : FracOK n1 d1
  · by_cases h2 : FracOK n2 d2
    · have E : Hid (faultV (ckC n1 d1 n2 d2) (ckA n1 d1 n2 d2) = faultV 0 0) := Lib.hid (by simp [ckC, ckA, h1, h2])
      have H1 := Lib.hid h1
      have H2 := Lib.hid h2
      clear h1 h2
      go_enter Try.func51, Try.ntmps51
      go_wp2_with fail
      refine wp_loop_rounds 3 ?_
      rw [rounds_succ]
      go_wp2_with fail
      refine (check_ok n1 d1 _ H1.out).mono ?_
      rintro e w1 ⟨rfl, hb1⟩
      obtain ⟨hsz, b1, b2, f1, f2, hk⟩ := blocks2 (Below.keep hb1)
      have c2' := (hk.cell hg).trans c2
      have c3' := (hk.cell hg).trans c3
      have r0 := b1 0
      have r1 := b1 1
      have g0 := f1 0
      have g1 := f1 1
      simp at r0 r1
      have hs1 : w.heap.size < w1.heap.size := by omega
      have hg1 : g < w1.heap.size := by omega
      have n1' : ¬ w1.heap.size = w.heap.size := by omega
      have HK := Lib.hid hk
      clear b1 b2 f1 f2 hb1 hk c0 c1 c2 c3
      go_wp2_with fail
      rw [rounds_succ]
      go_wp2_with fail
      refine (check_ok n2 d2 _ H2.out).mono ?_
      rintro e w2 ⟨rfl, hb2⟩
      have k2 : Keep NoS w1 w2 := ((Keep.refl NoS w1).alloc _).trans (Below.keep hb2) fun _ _ _ h => h
      have r0' := (k2.cell hs1).trans r0
      have r1' := (k2.cell hs1).trans r1
      have g0' := (k2.frozen hs1).trans g0
      have g1' := (k2.frozen hs1).trans g1
      have HK2 := Lib.hid (HK.out.trans k2 fun _ _ _ h => h)
      clear HK hb2 k2 r0 r1 g0 g1
      go_wp2_with fail
      rw [rounds_succ]
      go_wp2
      rw [E.out]
      refine bodyPost_ret (by simp [results, Try.results51, go_sem, r0', r1', hs1, n1']; rfl) rfl ?_
      exact ⟨rfl, by have HK := HK2; (repeat' (first | (with_reducible assumption) | (with_reducible exact HK.out) | (with_reducible exact Keep.refl _ _) | (with_reducible refine Keep.alloc ?_ _) | (with_reducible refine Keep.setCell ?_ _ (fun h => absurd h (by omega))) | (with_reducible refine Keep.drewN ?_ _) | (with_reducible refine Keep.drew ?_)))⟩
    · have E : Hid (faultV (ckC n1 d1 n2 d2) (ckA n1 d1 n2 d2) = faultV 3 1) := Lib.hid (by simp [ckC, ckA, h1, h2])
      have H1 := Lib.hid h1
      have H2 := Lib.hid h2
      clear h1 h2
      go_enter Try.func51, Try.ntmps51
      go_wp2_with fail
      refine wp_loop_rounds 3 ?_
      rw [rounds_succ]
      go_wp2_with fail
      refine (check_ok n1 d1 _ H1.out).mono ?_
      rintro e w1 ⟨rfl, hb1⟩
      obtain ⟨hsz, b1, b2, f1, f2, hk⟩ := blocks2 (Below.keep hb1)
      have c2' := (hk.cell hg).trans c2
      have c3' := (hk.cell hg).trans c3
      have r0 := b1 0
      have r1 := b1 1
      have g0 := f1 0
      have g1 := f1 1
      simp at r0 r1
      have hs1 : w.heap.size < w1.heap.size := by omega
      have hg1 : g < w1.heap.size := by omega
      have n1' : ¬ w1.heap.size = w.heap.size := by omega
      have HK := Lib.hid hk
      clear b1 b2 f1 f2 hb1 hk c0 c1 c2 c3
      go_wp2_with fail
      rw [rounds_succ]
      go_wp2_with fail
      refine (check_no n2 d2 _ H2.out).mono ?_
      rintro e w2 ⟨rfl, hb2⟩
      have k2 : Keep NoS w1 w2 := ((Keep.refl NoS w1).alloc _).trans (Below.keep hb2) fun _ _ _ h => h
      have r0' := (k2.cell hs1).trans r0
      have r1' := (k2.cell hs1).trans r1
      have g0' := (k2.frozen hs1).trans g0
      have g1' := (k2.frozen hs1).trans g1
      have HK2 := Lib.hid (HK.out.trans k2 fun _ _ _ h => h)
      clear HK hb2 k2 r0 r1 g0 g1
      go_wp2
      rw [E.out]
      refine bodyPost_ret (by simp [results, Try.results51, go_sem, r0', r1', hs1, n1']; rfl) rfl ?_
      exact ⟨rfl, by have HK := HK2; (repeat' (first | (with_reducible assumption) | (with_reducible exact HK.out) | (with_reducible exact Keep.refl _ _) | (with_reducible refine Keep.alloc ?_ _) | (with_reducible refine Keep.setCell ?_ _ (fun h => absurd h (by omega))) | (with_reducible refine Keep.drewN ?_ _) | (with_reducible refine Keep.drew ?_)))⟩
  · have E : Hid (faultV (ckC n1 d1 n2 d2) (ckA n1 d1 n2 d2) = faultV 3 0) := Lib.hid (by simp [ckC, ckA, h1])
    have H1 := Lib.hid h1
    clear h1
    go_enter Try.func51, Try.ntmps51
    go_wp2_with fail
    refine wp_loop_rounds 3 ?_
    rw [rounds_succ]
    go_wp2_with fail
    refine (check_no n1 d1 _ H1.out).mono ?_
    rintro e w1 ⟨rfl, hb1⟩
    obtain ⟨hsz, b1, b2, f1, f2, hk⟩ := blocks2 (Below.keep hb1)
    have c2' := (hk.cell hg).trans c2
    have c3' := (hk.cell hg).trans c3
    have r0 := b1 0
    have r1 := b1 1
    have g0 := f1 0
    have g1 := f1 1
    simp at r0 r1
    have hs1 : w.heap.size < w1.heap.size := by omega
    have hg1 : g < w1.heap.size := by omega
    have n1' : ¬ w1.heap.size = w.heap.size := by omega
    have HK := Lib.hid hk
    clear b1 b2 f1 f2 hb1 hk c0 c1 c2 c3
    go_wp2
    rw [E.out]
    refine bodyPost_ret (by simp [results, Try.results51, go_sem, r0, r1, hs1, n1']; rfl) rfl ?_
    exact ⟨rfl, by (repeat' (first | (with_reducible assumption) | (with_reducible exact HK.out) | (with_reducible exact Keep.refl _ _) | (with_reducible refine Keep.alloc ?_ _) | (with_reducible refine Keep.setCell ?_ _ (fun h => absurd h (by omega))) | (with_reducible refine Keep.drewN ?_ _) | (with_reducible refine Keep.drew ?_)))⟩


/-- Block k is a row of these cells. -/
def Blk (w : World) (k : Nat) (A : Array Value) : Prop := ∃ t, w.heap[k]? = some (.cells A t (0, 0))
theorem blk_at {w : World} (A : Array Value) (t : TypeId) {k : Nat} (h : k = w.heap.size) : Blk (w.alloc (.cells A t)) k A := ⟨t, heap_alloc_at _ _ _ h⟩
theorem Blk.lt {w : World} {k : Nat} {A : Array Value} (h : Blk w k A) : k < w.heap.size := by obtain ⟨t, h⟩ := h; exact lt_of_heap h
theorem Blk.old {w : World} {k : Nat} {A : Array Value} (h : Blk w k A) (o : Obj) : Blk (w.alloc o) k A := by
  have hl := h.lt
  obtain ⟨t, h⟩ := h
  exact ⟨t, (heap_alloc_old _ _ _ hl).trans h⟩
theorem Blk.keep {w w' : World} {k : Nat} {A : Array Value} (h : Blk w k A) (hk : Keep NoS w w') : Blk w' k A := by
  have hl := h.lt
  obtain ⟨t, h⟩ := h
  exact ⟨t, (hk.block k hl fun _ h => h).trans h⟩
theorem Blk.cell {w : World} {k : Nat} {A : Array Value} (h : Blk w k A) (i : Nat) : w.cell? ⟨k, i, none⟩ = A[i]? := by obtain ⟨t, h⟩ := h; simp [World.cell?, h]
theorem Blk.free {w : World} {k : Nat} {A : Array Value} (h : Blk w k A) (i : Nat) : w.frozen? ⟨k, i, none⟩ = false := by obtain ⟨t, h⟩ := h; simp [World.frozen?, h]
theorem Blk.two {w : World} {k : Nat} {x y : Value} (h : Blk w k #[x, y]) :
    w.cell? ⟨k, 0, none⟩ = some x ∧ w.cell? ⟨k, 1, none⟩ = some y ∧ w.frozen? ⟨k, 0, none⟩ = false ∧ w.frozen? ⟨k, 1, none⟩ = false ∧ k < w.heap.size :=
  ⟨h.cell 0, h.cell 1, h.free 0, h.free 1, h.lt⟩

/-- What an operation of two fractions returns: x/y, or the operands' fault. -/
def opV (n1 d1 n2 d2 x y : Int) : Value := if ckC n1 d1 n2 d2 = 0 then makeV x y else .tuple #[fracV 0 0, faultV (ckC n1 d1 n2 d2) (ckA n1 d1 n2 d2)]

theorem ck_ok {n1 d1 n2 d2 : Int} (h1 : FracOK n1 d1) (h2 : FracOK n2 d2) : ckC n1 d1 n2 d2 = 0 ∧ ckA n1 d1 n2 d2 = 0 := by simp [ckC, ckA, h1, h2]
theorem ck_no {n1 d1 n2 d2 : Int} (h : ¬ (FracOK n1 d1 ∧ FracOK n2 d2)) : ckC n1 d1 n2 d2 = 3 := by
  unfold ckC
  by_cases h1 : FracOK n1 d1
  · rw [if_pos h1, if_neg fun h2 => h ⟨h1, h2⟩]
  · rw [if_neg h1]

theorem mul_bd (a b : Int) (ha : -1073741824 ≤ a ∧ a ≤ 1073741824) (hb : -1073741824 ≤ b ∧ b ≤ 1073741824) : -1152921504606846976 ≤ a * b ∧ a * b ≤ 1152921504606846976 := by
  have h1 : (a * b).natAbs ≤ 1073741824 * 1073741824 := by
    rw [Int.natAbs_mul]; exact Nat.mul_le_mul (by omega) (by omega)
  omega

theorem ret_tuple2 {k j : IntKind} {a b c d : Int} (h1 : a = c) (h2 : b = d) : Ending.returned (.tuple #[.int k a, .int j b]) = .returned (.tuple #[.int k c, .int j d]) := by rw [h1, h2]

theorem Add_bd (n1 d1 n2 d2 : Int) (h1 : FracOK n1 d1) (h2 : FracOK n2 d2) : I64 (n1 * d2 + n2 * d1) ∧ I64 (d1 * d2) := by
  obtain ⟨a1, a2, a3, a4, _⟩ := h1
  obtain ⟨b1, b2, b3, b4, _⟩ := h2
  have m1 := mul_bd n1 d2 ⟨a3, a4⟩ ⟨by omega, b2⟩
  have m2 := mul_bd n2 d1 ⟨b3, b4⟩ ⟨by omega, a2⟩
  have m3 := mul_bd d1 d2 ⟨by omega, a2⟩ ⟨by omega, b2⟩
  have m4 := mul_bd n1 n2 ⟨a3, a4⟩ ⟨b3, b4⟩
  have m5 := mul_bd d1 n2 ⟨by omega, a2⟩ ⟨b3, b4⟩
  unfold I64
  constructor <;> constructor <;> omega

set_option maxRecDepth 100000 in
set_option maxHeartbeats 8000000 in
theorem Add_do (n1 d1 n2 d2 : Int) (h1 : FracOK n1 d1) (h2 : FracOK n2 d2) (w : World) :
    Calls Try.prog 53 #[.agg #[.int .i64 n1, .int .i64 d1], .agg #[.int .i64 n2, .int .i64 d2]] w fun e w' => e = .returned (.tuple #[.int .i64 (n1 * d2 + n2 * d1), .int .i64 (d1 * d2)]) ∧ Keep NoS w w' := by
  obtain ⟨a1, a2, a3, a4, _⟩ := h1
  obtain ⟨b1, b2, b3, b4, _⟩ := h2
  have m1 := mul_bd n1 d2 ⟨a3, a4⟩ ⟨by omega, b2⟩
  have m2 := mul_bd n2 d1 ⟨b3, b4⟩ ⟨by omega, a2⟩
  have m3 := mul_bd d1 d2 ⟨by omega, a2⟩ ⟨by omega, b2⟩
  have m4 := mul_bd n1 n2 ⟨a3, a4⟩ ⟨b3, b4⟩
  have m5 := mul_bd d1 n2 ⟨by omega, a2⟩ ⟨b3, b4⟩
  obtain ⟨m11, m12⟩ := m1
  obtain ⟨m21, m22⟩ := m2
  obtain ⟨m31, m32⟩ := m3
  obtain ⟨m41, m42⟩ := m4
  obtain ⟨m51, m52⟩ := m5
  go_enter Try.func53, Try.ntmps53
  go_wp2
  go_quiet (fail)
  go_wp2
  go_returns
  refine ⟨ret_tuple2 ?_ ?_, by (repeat' (first | (with_reducible assumption) | (with_reducible exact HK.out) | (with_reducible exact Keep.refl _ _) | (with_reducible refine Keep.alloc ?_ _) | (with_reducible refine Keep.setCell ?_ _ (fun h => absurd h (by omega))) | (with_reducible refine Keep.drewN ?_ _) | (with_reducible refine Keep.drew ?_)))⟩
  · first | rfl | (unfold wrap64; omega)
  · first | rfl | (unfold wrap64; omega)

theorem Sub_bd (n1 d1 n2 d2 : Int) (h1 : FracOK n1 d1) (h2 : FracOK n2 d2) : I64 (n1 * d2 - n2 * d1) ∧ I64 (d1 * d2) := by
  obtain ⟨a1, a2, a3, a4, _⟩ := h1
  obtain ⟨b1, b2, b3, b4, _⟩ := h2
  have m1 := mul_bd n1 d2 ⟨a3, a4⟩ ⟨by omega, b2⟩
  have m2 := mul_bd n2 d1 ⟨b3, b4⟩ ⟨by omega, a2⟩
  have m3 := mul_bd d1 d2 ⟨by omega, a2⟩ ⟨by omega, b2⟩
  have m4 := mul_bd n1 n2 ⟨a3, a4⟩ ⟨b3, b4⟩
  have m5 := mul_bd d1 n2 ⟨by omega, a2⟩ ⟨b3, b4⟩
  unfold I64
  constructor <;> constructor <;> omega

set_option maxRecDepth 100000 in
set_option maxHeartbeats 8000000 in
theorem Sub_do (n1 d1 n2 d2 : Int) (h1 : FracOK n1 d1) (h2 : FracOK n2 d2) (w : World) :
    Calls Try.prog 55 #[.agg #[.int .i64 n1, .int .i64 d1], .agg #[.int .i64 n2, .int .i64 d2]] w fun e w' => e = .returned (.tuple #[.int .i64 (n1 * d2 - n2 * d1), .int .i64 (d1 * d2)]) ∧ Keep NoS w w' := by
  obtain ⟨a1, a2, a3, a4, _⟩ := h1
  obtain ⟨b1, b2, b3, b4, _⟩ := h2
  have m1 := mul_bd n1 d2 ⟨a3, a4⟩ ⟨by omega, b2⟩
  have m2 := mul_bd n2 d1 ⟨b3, b4⟩ ⟨by omega, a2⟩
  have m3 := mul_bd d1 d2 ⟨by omega, a2⟩ ⟨by omega, b2⟩
  have m4 := mul_bd n1 n2 ⟨a3, a4⟩ ⟨b3, b4⟩
  have m5 := mul_bd d1 n2 ⟨by omega, a2⟩ ⟨b3, b4⟩
  obtain ⟨m11, m12⟩ := m1
  obtain ⟨m21, m22⟩ := m2
  obtain ⟨m31, m32⟩ := m3
  obtain ⟨m41, m42⟩ := m4
  obtain ⟨m51, m52⟩ := m5
  go_enter Try.func55, Try.ntmps55
  go_wp2
  go_quiet (fail)
  go_wp2
  go_returns
  refine ⟨ret_tuple2 ?_ ?_, by (repeat' (first | (with_reducible assumption) | (with_reducible exact HK.out) | (with_reducible exact Keep.refl _ _) | (with_reducible refine Keep.alloc ?_ _) | (with_reducible refine Keep.setCell ?_ _ (fun h => absurd h (by omega))) | (with_reducible refine Keep.drewN ?_ _) | (with_reducible refine Keep.drew ?_)))⟩
  · first | rfl | (unfold wrap64; omega)
  · first | rfl | (unfold wrap64; omega)

theorem Times_bd (n1 d1 n2 d2 : Int) (h1 : FracOK n1 d1) (h2 : FracOK n2 d2) : I64 (n1 * n2) ∧ I64 (d1 * d2) := by
  obtain ⟨a1, a2, a3, a4, _⟩ := h1
  obtain ⟨b1, b2, b3, b4, _⟩ := h2
  have m1 := mul_bd n1 d2 ⟨a3, a4⟩ ⟨by omega, b2⟩
  have m2 := mul_bd n2 d1 ⟨b3, b4⟩ ⟨by omega, a2⟩
  have m3 := mul_bd d1 d2 ⟨by omega, a2⟩ ⟨by omega, b2⟩
  have m4 := mul_bd n1 n2 ⟨a3, a4⟩ ⟨b3, b4⟩
  have m5 := mul_bd d1 n2 ⟨by omega, a2⟩ ⟨b3, b4⟩
  unfold I64
  constructor <;> constructor <;> omega

set_option maxRecDepth 100000 in
set_option maxHeartbeats 8000000 in
theorem Times_do (n1 d1 n2 d2 : Int) (h1 : FracOK n1 d1) (h2 : FracOK n2 d2) (w : World) :
    Calls Try.prog 54 #[.agg #[.int .i64 n1, .int .i64 d1], .agg #[.int .i64 n2, .int .i64 d2]] w fun e w' => e = .returned (.tuple #[.int .i64 (n1 * n2), .int .i64 (d1 * d2)]) ∧ Keep NoS w w' := by
  obtain ⟨a1, a2, a3, a4, _⟩ := h1
  obtain ⟨b1, b2, b3, b4, _⟩ := h2
  have m1 := mul_bd n1 d2 ⟨a3, a4⟩ ⟨by omega, b2⟩
  have m2 := mul_bd n2 d1 ⟨b3, b4⟩ ⟨by omega, a2⟩
  have m3 := mul_bd d1 d2 ⟨by omega, a2⟩ ⟨by omega, b2⟩
  have m4 := mul_bd n1 n2 ⟨a3, a4⟩ ⟨b3, b4⟩
  have m5 := mul_bd d1 n2 ⟨by omega, a2⟩ ⟨b3, b4⟩
  obtain ⟨m11, m12⟩ := m1
  obtain ⟨m21, m22⟩ := m2
  obtain ⟨m31, m32⟩ := m3
  obtain ⟨m41, m42⟩ := m4
  obtain ⟨m51, m52⟩ := m5
  go_enter Try.func54, Try.ntmps54
  go_wp2
  go_quiet (fail)
  go_wp2
  go_returns
  refine ⟨ret_tuple2 ?_ ?_, by (repeat' (first | (with_reducible assumption) | (with_reducible exact HK.out) | (with_reducible exact Keep.refl _ _) | (with_reducible refine Keep.alloc ?_ _) | (with_reducible refine Keep.setCell ?_ _ (fun h => absurd h (by omega))) | (with_reducible refine Keep.drewN ?_ _) | (with_reducible refine Keep.drew ?_)))⟩
  · first | rfl | (unfold wrap64; omega)
  · first | rfl | (unfold wrap64; omega)

theorem Over_bd (n1 d1 n2 d2 : Int) (h1 : FracOK n1 d1) (h2 : FracOK n2 d2) : I64 (n1 * d2) ∧ I64 (d1 * n2) := by
  obtain ⟨a1, a2, a3, a4, _⟩ := h1
  obtain ⟨b1, b2, b3, b4, _⟩ := h2
  have m1 := mul_bd n1 d2 ⟨a3, a4⟩ ⟨by omega, b2⟩
  have m2 := mul_bd n2 d1 ⟨b3, b4⟩ ⟨by omega, a2⟩
  have m3 := mul_bd d1 d2 ⟨by omega, a2⟩ ⟨by omega, b2⟩
  have m4 := mul_bd n1 n2 ⟨a3, a4⟩ ⟨b3, b4⟩
  have m5 := mul_bd d1 n2 ⟨by omega, a2⟩ ⟨b3, b4⟩
  unfold I64
  constructor <;> constructor <;> omega

set_option maxRecDepth 100000 in
set_option maxHeartbeats 8000000 in
theorem Over_do (n1 d1 n2 d2 : Int) (h1 : FracOK n1 d1) (h2 : FracOK n2 d2) (w : World) :
    Calls Try.prog 56 #[.agg #[.int .i64 n1, .int .i64 d1], .agg #[.int .i64 n2, .int .i64 d2]] w fun e w' => e = .returned (.tuple #[.int .i64 (n1 * d2), .int .i64 (d1 * n2)]) ∧ Keep NoS w w' := by
  obtain ⟨a1, a2, a3, a4, _⟩ := h1
  obtain ⟨b1, b2, b3, b4, _⟩ := h2
  have m1 := mul_bd n1 d2 ⟨a3, a4⟩ ⟨by omega, b2⟩
  have m2 := mul_bd n2 d1 ⟨b3, b4⟩ ⟨by omega, a2⟩
  have m3 := mul_bd d1 d2 ⟨by omega, a2⟩ ⟨by omega, b2⟩
  have m4 := mul_bd n1 n2 ⟨a3, a4⟩ ⟨b3, b4⟩
  have m5 := mul_bd d1 n2 ⟨by omega, a2⟩ ⟨b3, b4⟩
  obtain ⟨m11, m12⟩ := m1
  obtain ⟨m21, m22⟩ := m2
  obtain ⟨m31, m32⟩ := m3
  obtain ⟨m41, m42⟩ := m4
  obtain ⟨m51, m52⟩ := m5
  go_enter Try.func56, Try.ntmps56
  go_wp2
  go_quiet (fail)
  go_wp2
  go_returns
  refine ⟨ret_tuple2 ?_ ?_, by (repeat' (first | (with_reducible assumption) | (with_reducible exact HK.out) | (with_reducible exact Keep.refl _ _) | (with_reducible refine Keep.alloc ?_ _) | (with_reducible refine Keep.setCell ?_ _ (fun h => absurd h (by omega))) | (with_reducible refine Keep.drewN ?_ _) | (with_reducible refine Keep.drew ?_)))⟩
  · first | rfl | (unfold wrap64; omega)
  · first | rfl | (unfold wrap64; omega)

end Go.Proofs.Ytnmklgigmmlgeaa
