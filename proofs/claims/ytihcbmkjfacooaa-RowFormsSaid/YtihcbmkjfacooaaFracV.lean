/- Fractions of the program: what the operations answer, and what they mean in Lean's own fractions. -/
import Derived.Test.YtihcbmkjfacooaaRatB
namespace Go.Proofs.Ytihcbmkjfacooaa
open Go.ChangeShapes Go.WideShapes Go.RowKit
set_option linter.unusedVariables false
set_option linter.unusedSimpArgs false

theorem Below.keep {w w' : World} (h : Below w.heap.size w w') : Keep NoS w w' := Keep.of_below h (Nat.le_refl _)
theorem Keep.bel {w w' : World} (h : Keep NoS w w') : Below w.heap.size w w' := h.below (Nat.le_refl _) fun _ _ h => h.elim

@[go_sem] theorem fault_field0 (a b : Int) (w : World) : (Instr.field 26 (.agg #[.int .i64 a, .int .i64 b]) 0).run Try.prog w = .ok (.int .i64 a) w := by kernel_rfl
@[go_sem] theorem fault_field1 (a b : Int) (w : World) : (Instr.field 26 (.agg #[.int .i64 a, .int .i64 b]) 1).run Try.prog w = .ok (.int .i64 b) w := by kernel_rfl

/-- The fault of two operands: its code, its place. -/
def ckC (n1 d1 n2 d2 : Int) : Int := if FracOK n1 d1 then if FracOK n2 d2 then 0 else 3 else 3
def ckA (n1 d1 n2 d2 : Int) : Int := if FracOK n1 d1 then if FracOK n2 d2 then 0 else 1 else 0

/-- Block k is a row of these cells. -/
def Blk (w : World) (k : Nat) (A : Array Value) : Prop := ∃ t, w.heap[k]? = some (.cells A t (0, 0))
theorem blk_at {w : World} (A : Array Value) (t : TypeId) {k : Nat} (h : k = w.heap.size) : Blk (w.alloc (.cells A t)) k A := ⟨t, heap_alloc_at _ _ _ h⟩
theorem Blk.lt {w : World} {k : Nat} {A : Array Value} (h : Blk w k A) : k < w.heap.size := by obtain ⟨t, h⟩ := h; exact lt_of_heap h
theorem Blk.old {w : World} {k : Nat} {A : Array Value} (h : Blk w k A) (o : Obj) : Blk (w.alloc o) k A := by
  have hl := h.lt
  obtain ⟨t, h⟩ := h
  exact ⟨t, (heap_alloc_old _ _ _ hl).trans h⟩
theorem Blk.keep {w w' : World} {k : Nat} {A : Array Value} (h : Blk w k A) (hk : Keep NoS w w') : Blk w' k A := by
  have hl := h.lt
  obtain ⟨t, h⟩ := h
  exact ⟨t, (hk.block k hl fun _ h => h).trans h⟩
theorem Blk.cell {w : World} {k : Nat} {A : Array Value} (h : Blk w k A) (i : Nat) : w.cell? ⟨k, i, none⟩ = A[i]? := by obtain ⟨t, h⟩ := h; simp [World.cell?, h]
theorem Blk.free {w : World} {k : Nat} {A : Array Value} (h : Blk w k A) (i : Nat) : w.frozen? ⟨k, i, none⟩ = false := by obtain ⟨t, h⟩ := h; simp [World.frozen?, h]
theorem Blk.two {w : World} {k : Nat} {x y : Value} (h : Blk w k #[x, y]) :
    w.cell? ⟨k, 0, none⟩ = some x ∧ w.cell? ⟨k, 1, none⟩ = some y ∧ w.frozen? ⟨k, 0, none⟩ = false ∧ w.frozen? ⟨k, 1, none⟩ = false ∧ k < w.heap.size :=
  ⟨h.cell 0, h.cell 1, h.free 0, h.free 1, h.lt⟩

/-- What an operation of two fractions returns: x/y, or the operands' fault. -/
def opV (n1 d1 n2 d2 x y : Int) : Value := if ckC n1 d1 n2 d2 = 0 then makeV x y else .tuple #[fracV 0 0, faultV (ckC n1 d1 n2 d2) (ckA n1 d1 n2 d2)]

theorem ck_ok {n1 d1 n2 d2 : Int} (h1 : FracOK n1 d1) (h2 : FracOK n2 d2) : ckC n1 d1 n2 d2 = 0 ∧ ckA n1 d1 n2 d2 = 0 := by simp [ckC, ckA, h1, h2]
theorem ck_no {n1 d1 n2 d2 : Int} (h : ¬ (FracOK n1 d1 ∧ FracOK n2 d2)) : ckC n1 d1 n2 d2 = 3 := by
  unfold ckC
  by_cases h1 : FracOK n1 d1
  · rw [if_pos h1, if_neg fun h2 => h ⟨h1, h2⟩]
  · rw [if_neg h1]

theorem mul_bd (a b : Int) (ha : -1073741824 ≤ a ∧ a ≤ 1073741824) (hb : -1073741824 ≤ b ∧ b ≤ 1073741824) : -1152921504606846976 ≤ a * b ∧ a * b ≤ 1152921504606846976 := by
  have h1 : (a * b).natAbs ≤ 1073741824 * 1073741824 := by
    rw [Int.natAbs_mul]; exact Nat.mul_le_mul (by omega) (by omega)
  omega

theorem ret_tuple2 {k j : IntKind} {a b c d : Int} (h1 : a = c) (h2 : b = d) : Ending.returned (.tuple #[.int k a, .int j b]) = .returned (.tuple #[.int k c, .int j d]) := by rw [h1, h2]

theorem make_parts (num den : Int) (h : den ≠ 0) : (Rat.divInt num den).num = (if (num < 0) ≠ (den < 0) then -(mA num den : Int) else mA num den) ∧ (Rat.divInt num den).den = mB num den := by
  have key : ∀ a b : Int, 0 < b → (Rat.divInt a b).num = (if a < 0 then -(mA a b : Int) else mA a b) ∧ (Rat.divInt a b).den = mB a b := by
    intro a b hb
    obtain ⟨h1, h2⟩ := rat_pos a b hb
    have hb' : b = (b.natAbs : Int) := by omega
    refine ⟨?_, ?_⟩
    · rw [h1]
      by_cases ha : a < 0
      · rw [if_pos ha]
        have : a = -(a.natAbs : Int) := by omega
        conv => lhs; rw [this, Int.neg_tdiv]
        simp [mA]
      · rw [if_neg ha]
        have : a = (a.natAbs : Int) := by omega
        conv => lhs; rw [this]
        simp [mA]
    · have h3 : ((Rat.divInt a b).den : Int) = ((mB a b : Nat) : Int) := by
        rw [h2]
        conv => lhs; rw [hb']
        simp [mB]
      omega
  rcases Int.lt_or_le den 0 with hd | hd
  · have h1 := key (-num) (-den) (by omega)
    rw [Rat.neg_divInt_neg] at h1
    have e1 : mA (-num) (-den) = mA num den := by simp [mA]
    have e2 : mB (-num) (-den) = mB num den := by simp [mB]
    rw [e1, e2] at h1
    refine ⟨h1.1.trans ?_, h1.2⟩
    by_cases h0 : num < 0
    · rw [if_neg (by omega), if_neg (by simp [h0, hd])]
    · by_cases h00 : num = 0
      · subst h00; simp [mA]
      · rw [if_pos (by omega), if_pos (by simp [h0, hd])]
  · have h1 := key num den (by omega)
    refine ⟨h1.1.trans ?_, h1.2⟩
    have hd' : ¬ den < 0 := by omega
    by_cases h0 : num < 0 <;> simp [h0, hd']

theorem make_eq (num den : Int) (h : den ≠ 0) : makeV num den = fracMadeV (Rat.divInt num den) := by
  obtain ⟨h1, h2⟩ := make_parts num den h
  have hn : (Rat.divInt num den).num.natAbs = mA num den := by rw [h1]; split <;> simp
  have hf : Fits (Rat.divInt num den) ↔ mFits num den := by unfold Fits mFits; rw [hn, h2]
  unfold makeV fracMadeV mN mD mC
  rw [if_neg h]
  by_cases hm : mFits num den
  · rw [if_pos hm, if_pos (hf.2 hm)]
    simp only [if_true, h1, h2]
  · rw [if_neg hm, if_neg (fun h => hm (hf.1 h))]
    simp

def lessB (n1 d1 n2 d2 : Int) : Bool := if ckC n1 d1 n2 d2 = 0 then decide (n1 * d2 < n2 * d1) else false
def lessV (n1 d1 n2 d2 : Int) : Value := .tuple #[.bool (lessB n1 d1 n2 d2), faultV (ckC n1 d1 n2 d2) (ckA n1 d1 n2 d2)]

def floorV (n d : Int) : Value := if FracOK n d then .tuple #[.int .i64 (n / d), faultV 0 0] else .tuple #[.int .i64 0, faultV 3 0]

theorem rlt_trans {a b c : Rat} (h : a < b) (h' : b < c) : a < c := Rat.not_le.1 fun h'' => Rat.not_le.2 h (Rat.le_trans (Rat.le_of_lt h') h'')
theorem rlt_asymm {a b : Rat} (h : a < b) : ¬ b < a := fun h' => Rat.not_le.2 h (Rat.le_of_lt h')
theorem req_of {a b : Rat} (h : ¬ a < b) (h' : ¬ b < a) : a = b := Rat.le_antisymm (Rat.not_lt.1 h') (Rat.not_lt.1 h)

/-- The fraction n/d. -/
def fr (n d : Int) : Rat := Rat.divInt n d

theorem fr_parts {n d : Int} (h : FracOK n d) : (fr n d).num = n ∧ ((fr n d).den : Int) = d := by
  obtain ⟨h1, h2, h3, h4, h5⟩ := h
  have := rat_pos n d (by omega)
  unfold fr
  rw [h5] at this
  simpa using this

theorem fr_inj {n d n' d' : Int} (h : FracOK n d) (h' : FracOK n' d') (e : fr n d = fr n' d') : n = n' ∧ d = d' := by
  obtain ⟨a, b⟩ := fr_parts h
  obtain ⟨a', b'⟩ := fr_parts h'
  rw [e] at a b
  exact ⟨a.symm.trans a', b.symm.trans b'⟩

theorem fr_lt {n d n' d' : Int} (h : FracOK n d) (h' : FracOK n' d') : fr n d < fr n' d' ↔ n * d' < n' * d := by
  obtain ⟨a, b⟩ := fr_parts h
  obtain ⟨a', b'⟩ := fr_parts h'
  rw [Rat.lt_iff, a, b, a', b']

theorem fr_zero {n d : Int} (h : FracOK n d) : fr n d = 0 ↔ n = 0 := by
  obtain ⟨a, b⟩ := fr_parts h
  constructor
  · intro e; rw [e] at a; exact a.symm
  · rintro rfl; exact Rat.zero_divInt d

theorem fr_pos {n d : Int} (h : FracOK n d) : 0 < fr n d ↔ 0 < n := by
  obtain ⟨a, b⟩ := fr_parts h
  rw [Rat.lt_iff, a]; simp

/-- A fraction that fits is valid. -/
theorem ok_of_fits {q : Rat} (h : Fits q) : FracOK q.num q.den := by
  obtain ⟨h1, h2⟩ := h
  have := q.den_pos
  refine ⟨by omega, by omega, by omega, by omega, ?_⟩
  have := q.reduced
  simpa [Nat.Coprime] using this

theorem fr_self (q : Rat) : fr q.num q.den = q := Rat.num_divInt_den q

/-- What a made fraction looks like. -/
theorem made_form (q : Rat) : ∃ N D C, fracMadeV q = .tuple #[.agg #[.int .i64 N, .int .i64 D], .agg #[.int .i64 C, .int .i64 0]] ∧ ((C = 0 ∧ FracOK N D ∧ fr N D = q) ∨ (C = 10 ∧ N = 0 ∧ D = 0)) := by
  by_cases h : Fits q
  · exact ⟨q.num, q.den, 0, by unfold fracMadeV; rw [if_pos h]; rfl, .inl ⟨rfl, ok_of_fits h, fr_self q⟩⟩
  · exact ⟨0, 0, 10, by unfold fracMadeV; rw [if_neg h]; rfl, .inr ⟨rfl, rfl, rfl⟩⟩

theorem made_of_ok {n d : Int} (h : FracOK n d) : fracMadeV (fr n d) = .tuple #[.agg #[.int .i64 n, .int .i64 d], .agg #[.int .i64 0, .int .i64 0]] := by
  obtain ⟨a, b⟩ := fr_parts h
  have hf : Fits (fr n d) := by
    obtain ⟨h1, h2, h3, h4, _⟩ := h
    unfold Fits; rw [a]; omega
  unfold fracMadeV
  rw [if_pos hf, a, b]; rfl

section
variable {n1 d1 n2 d2 : Int} (h1 : FracOK n1 d1) (h2 : FracOK n2 d2)

theorem op_made {x y : Int} (hy : y ≠ 0) (h1 : FracOK n1 d1) (h2 : FracOK n2 d2) : opV n1 d1 n2 d2 x y = fracMadeV (Rat.divInt x y) := by
  unfold opV
  rw [if_pos (ck_ok h1 h2).1, make_eq x y hy]

include h1 h2 in
theorem add_made : opV n1 d1 n2 d2 (n1 * d2 + n2 * d1) (d1 * d2) = fracMadeV (fr n1 d1 + fr n2 d2) := by
  have e1 : d1 ≠ 0 := by have := h1.1; omega
  have e2 : d2 ≠ 0 := by have := h2.1; omega
  rw [op_made (Int.mul_ne_zero e1 e2) h1 h2, fr, fr, Rat.divInt_add_divInt _ _ e1 e2]

include h1 h2 in
theorem sub_made : opV n1 d1 n2 d2 (n1 * d2 - n2 * d1) (d1 * d2) = fracMadeV (fr n1 d1 - fr n2 d2) := by
  have e1 : d1 ≠ 0 := by have := h1.1; omega
  have e2 : d2 ≠ 0 := by have := h2.1; omega
  rw [op_made (Int.mul_ne_zero e1 e2) h1 h2, fr, fr, Rat.divInt_sub_divInt _ _ e1 e2]

include h1 h2 in
theorem mul_made : opV n1 d1 n2 d2 (n1 * n2) (d1 * d2) = fracMadeV (fr n1 d1 * fr n2 d2) := by
  have e1 : d1 ≠ 0 := by have := h1.1; omega
  have e2 : d2 ≠ 0 := by have := h2.1; omega
  rw [op_made (Int.mul_ne_zero e1 e2) h1 h2, fr, fr, Rat.divInt_mul_divInt]

include h1 h2 in
theorem over_made (hn : n2 ≠ 0) : opV n1 d1 n2 d2 (n1 * d2) (d1 * n2) = fracMadeV (fr n1 d1 / fr n2 d2) := by
  have e1 : d1 ≠ 0 := by have := h1.1; omega
  have e2 : d2 ≠ 0 := by have := h2.1; omega
  rw [op_made (Int.mul_ne_zero e1 hn) h1 h2, fr, fr, Rat.div_def, Rat.inv_divInt, Rat.divInt_mul_divInt]

include h1 h2 in
theorem over_zero (hn : n2 = 0) : opV n1 d1 n2 d2 (n1 * d2) (d1 * n2) = .tuple #[.agg #[.int .i64 0, .int .i64 0], .agg #[.int .i64 6, .int .i64 0]] := by
  subst hn
  unfold opV
  rw [if_pos (ck_ok h1 h2).1]
  simp [makeV, mN, mD, mC, fracV, faultV]

include h1 h2 in
theorem less_made : lessV n1 d1 n2 d2 = .tuple #[.bool (decide (fr n1 d1 < fr n2 d2)), .agg #[.int .i64 0, .int .i64 0]] := by
  obtain ⟨hc, ha⟩ := ck_ok h1 h2
  unfold lessV lessB
  rw [if_pos hc, hc, ha]
  simp only [fr_lt h1 h2]; rfl
end

theorem op_bad {n1 d1 n2 d2 : Int} (h : ¬ (FracOK n1 d1 ∧ FracOK n2 d2)) (x y : Int) : opV n1 d1 n2 d2 x y = .tuple #[.agg #[.int .i64 0, .int .i64 0], .agg #[.int .i64 3, .int .i64 (ckA n1 d1 n2 d2)]] := by
  have hc := ck_no h
  unfold opV; rw [if_neg (by rw [hc]; omega), hc]; rfl
theorem less_bad {n1 d1 n2 d2 : Int} (h : ¬ (FracOK n1 d1 ∧ FracOK n2 d2)) : lessV n1 d1 n2 d2 = .tuple #[.bool false, .agg #[.int .i64 3, .int .i64 (ckA n1 d1 n2 d2)]] := by
  have hc := ck_no h
  unfold lessV lessB; rw [if_neg (by rw [hc]; omega), hc]; rfl

end Go.Proofs.Ytihcbmkjfacooaa
