/- What the walks are told of arguments that are slices of fractions. What the walks are told of arguments that are lists of rows, tables of fractions. Package row's check of a row and a point. Package row's sum of a row at a point. The reference's sum of a row at a point. Package row's Value and Holds. Package row's Holds. The reference's RowPoint and RowHolds. -/
import Derived.Test.YtamjmcdlddocgaaBaseB
import Derived.Test.YtamjmcdlddocgaaBaseA
import Derived.Test.YtamjmcdlddocgaaRowAA
import Derived.Test.YtamjmcdlddocgaaExAA
namespace Go.Proofs.Ytamjmcdlddocgaa
open Go.ChangeShapes Go.WideShapes Go.ChangeAt Go.RowKit Go.Joins Go.Deep
set_option linter.unusedVariables false
set_option linter.unusedSimpArgs false

/-- A fraction, plainly. -/
structure Fq where
  N : Int
  D : Int
instance : Inhabited Fq := ⟨⟨0, 0⟩⟩

/-- A slice of fractions, as it lies. -/
def IsFracs (w : World) (v : Value) (l : List Fq) : Prop :=
  ∃ oa cap, v = .slice oa l.length cap ∧ l.length ≤ cap ∧ cap ≤ maxLen ∧ (∀ g ∈ l, I64 g.N ∧ I64 g.D) ∧ (l ≠ [] → ∃ b o, oa = some ⟨b, o, none⟩ ∧ b < w.heap.size ∧
    ∀ i g, l[i]? = some g → w.cell? ⟨b, o + i * 2, none⟩ = some (.int .i64 g.N) ∧ w.cell? ⟨b, o + i * 2 + 1, none⟩ = some (.int .i64 g.D))

theorem IsFracs.keep {w w' : World} {v : Value} {l : List Fq} (h : IsFracs w v l) (k : Keep NoS w w') : IsFracs w' v l := by
  obtain ⟨oa, cap, h1, h2, h2', h3, h4⟩ := h
  refine ⟨oa, cap, h1, h2, h2', h3, fun hne => ?_⟩
  obtain ⟨b, o, e, hb, hc⟩ := h4 hne
  exact ⟨b, o, e, Nat.lt_of_lt_of_le hb k.size, fun i g hg => by simp only [k.cell hb]; exact hc i g hg⟩
theorem IsFracs.len {w : World} {v : Value} {l : List Fq} (h : IsFracs w v l) : ∃ oa cap, v = .slice oa l.length cap ∧ l.length ≤ cap ∧ cap ≤ maxLen := by
  obtain ⟨oa, cap, h1, h2, h2', _⟩ := h
  exact ⟨oa, cap, h1, h2, h2'⟩
theorem IsFracs.all {w : World} {v : Value} {l : List Fq} (h : IsFracs w v l) : ∀ g ∈ l, I64 g.N ∧ I64 g.D := by obtain ⟨_, _, _, _, _, h, _⟩ := h; exact h
theorem IsFracs.at {w : World} {oa : Option Addr} {n cap : Nat} {l : List Fq} (h : IsFracs w (.slice oa n cap) l) {k : Nat} (hk : k < l.length) :
    ∃ b o, oa = some ⟨b, o, none⟩ ∧ b < w.heap.size ∧ w.cell? ⟨b, o + k * 2, none⟩ = some (.int .i64 l[k].N) ∧ w.cell? ⟨b, o + k * 2 + 1, none⟩ = some (.int .i64 l[k].D) := by
  obtain ⟨oa', cap', hv, _, _, _, h4⟩ := h
  cases hv
  obtain ⟨b, o, e, hb, hc⟩ := h4 (by rintro rfl; simp at hk)
  obtain ⟨h1, h2⟩ := hc k l[k] (by simp [hk])
  exact ⟨b, o, e, hb, h1, h2⟩

section
variable {H : Type} {enc : TypeId × Value → H} {W : World} {base : Nat} {d : DataW H} {p : List MemPlace} {v : Value}
end
end Go.Proofs.Ytamjmcdlddocgaa

namespace Go.Proofs.Ytamjmcdlddocgaa
open Go.ChangeShapes Go.WideShapes Go.ChangeAt Go.RowKit Go.Joins Go.Deep
set_option linter.unusedVariables false
set_option linter.unusedSimpArgs false

instance : Inhabited Rw := ⟨⟨[], 0, 0⟩⟩
/-- A row's three cells. -/
def RowAt (w : World) (b o : Nat) (r : Rw) : Prop := ∃ sv, w.cell? ⟨b, o, none⟩ = some sv ∧ w.cell? ⟨b, o + 1, none⟩ = some (.int .i64 r.kind) ∧ w.cell? ⟨b, o + 2, none⟩ = some (.int .i64 r.to) ∧ IsInts w sv r.of ∧ I64 r.kind ∧ I64 r.to ∧ CapOK sv
/-- A slice of rows, as it lies. -/
def IsRows (w : World) (v : Value) (l : List Rw) : Prop :=
  ∃ oa cap, v = .slice oa l.length cap ∧ l.length ≤ cap ∧ cap ≤ maxLen ∧ (l ≠ [] → ∃ b o, oa = some ⟨b, o, none⟩ ∧ b < w.heap.size ∧ ∀ i r, l[i]? = some r → RowAt w b (o + i * 3) r)
/-- A table of fractions, as it lies. -/
def IsTab (w : World) (v : Value) (l : List (List Fq)) : Prop :=
  ∃ oa cap, v = .slice oa l.length cap ∧ l.length ≤ cap ∧ cap ≤ maxLen ∧ (l ≠ [] → ∃ b o, oa = some ⟨b, o, none⟩ ∧ b < w.heap.size ∧ ∀ i r, l[i]? = some r → ∃ sv, w.cell? ⟨b, o + i, none⟩ = some sv ∧ IsFracs w sv r)

theorem IsRows.keep {w w' : World} {v : Value} {l : List Rw} (h : IsRows w v l) (k : Keep NoS w w') : IsRows w' v l := by
  obtain ⟨oa, cap, h1, h2, h3, h4⟩ := h
  refine ⟨oa, cap, h1, h2, h3, fun hne => ?_⟩
  obtain ⟨b, o, e, hb, hc⟩ := h4 hne
  refine ⟨b, o, e, Nat.lt_of_lt_of_le hb k.size, fun i r hr => ?_⟩
  obtain ⟨sv, c0, c1, c2, hi, h5⟩ := hc i r hr
  exact ⟨sv, by rw [k.cell hb]; exact c0, by rw [k.cell hb]; exact c1, by rw [k.cell hb]; exact c2, hi.keep k, h5⟩
theorem IsTab.keep {w w' : World} {v : Value} {l : List (List Fq)} (h : IsTab w v l) (k : Keep NoS w w') : IsTab w' v l := by
  obtain ⟨oa, cap, h1, h2, h3, h4⟩ := h
  refine ⟨oa, cap, h1, h2, h3, fun hne => ?_⟩
  obtain ⟨b, o, e, hb, hc⟩ := h4 hne
  refine ⟨b, o, e, Nat.lt_of_lt_of_le hb k.size, fun i r hr => ?_⟩
  obtain ⟨sv, c0, hi⟩ := hc i r hr
  exact ⟨sv, by rw [k.cell hb]; exact c0, hi.keep k⟩
theorem IsRows.len {w : World} {v : Value} {l : List Rw} (h : IsRows w v l) : ∃ oa cap, v = .slice oa l.length cap ∧ l.length ≤ cap ∧ cap ≤ maxLen := by
  obtain ⟨oa, cap, h1, h2, h3, _⟩ := h
  exact ⟨oa, cap, h1, h2, h3⟩
theorem IsTab.len {w : World} {v : Value} {l : List (List Fq)} (h : IsTab w v l) : ∃ oa cap, v = .slice oa l.length cap ∧ l.length ≤ cap ∧ cap ≤ maxLen := by
  obtain ⟨oa, cap, h1, h2, h3, _⟩ := h
  exact ⟨oa, cap, h1, h2, h3⟩
theorem IsRows.at {w : World} {oa : Option Addr} {n cap : Nat} {l : List Rw} (h : IsRows w (.slice oa n cap) l) {k : Nat} (hk : k < l.length) :
    ∃ b o, oa = some ⟨b, o, none⟩ ∧ b < w.heap.size ∧ RowAt w b (o + k * 3) l[k] := by
  obtain ⟨oa', cap', hv, _, _, h4⟩ := h
  cases hv
  obtain ⟨b, o, e, hb, hc⟩ := h4 (by rintro rfl; simp at hk)
  exact ⟨b, o, e, hb, hc k l[k] (by simp [hk])⟩
theorem IsTab.at {w : World} {oa : Option Addr} {n cap : Nat} {l : List (List Fq)} (h : IsTab w (.slice oa n cap) l) {k : Nat} (hk : k < l.length) :
    ∃ b o sv, oa = some ⟨b, o, none⟩ ∧ b < w.heap.size ∧ w.cell? ⟨b, o + k, none⟩ = some sv ∧ IsFracs w sv l[k] := by
  obtain ⟨oa', cap', hv, _, _, h4⟩ := h
  cases hv
  obtain ⟨b, o, e, hb, hc⟩ := h4 (by rintro rfl; simp at hk)
  obtain ⟨sv, h1, h2⟩ := hc k l[k] (by simp [hk])
  exact ⟨b, o, sv, e, hb, h1, h2⟩
theorem RowAt.row {w : World} {b o : Nat} {r : Rw} (h : RowAt w b o r) : ∃ os cs, w.cell? ⟨b, o, none⟩ = some (.slice os r.of.length cs) ∧ w.cell? ⟨b, o + 1, none⟩ = some (.int .i64 r.kind) ∧ w.cell? ⟨b, o + 2, none⟩ = some (.int .i64 r.to) ∧ IsRow w (.agg #[.slice os r.of.length cs, .int .i64 r.kind, .int .i64 r.to]) r := by
  obtain ⟨sv, c0, c1, c2, hi, h5⟩ := h
  obtain ⟨os, cs, rfl, _⟩ := hi.len
  exact ⟨os, cs, c0, c1, c2, _, rfl, hi, h5⟩

section
variable {H : Type} {enc : TypeId × Value → H} {W : World} {base : Nat} {d : DataW H} {p : List MemPlace} {v : Value}
end
end Go.Proofs.Ytamjmcdlddocgaa

namespace Go.Proofs.Ytamjmcdlddocgaa
open Go.ChangeShapes Go.WideShapes Go.RowKit
set_option linter.unusedVariables false
set_option linter.unusedSimpArgs false
end Go.Proofs.Ytamjmcdlddocgaa

namespace Go.Proofs.Ytamjmcdlddocgaa
open Go.ChangeShapes Go.WideShapes Go.RowKit
set_option linter.unusedVariables false
set_option linter.unusedSimpArgs false
theorem Blk.set4 {w : World} {b : Nat} {x y z u : Value} (h : Blk w b #[x, y, z, u]) (p q r s : Value) : Blk ((((w.setCell ⟨b, 0, none⟩ p).setCell ⟨b, 1, none⟩ q).setCell ⟨b, 2, none⟩ r).setCell ⟨b, 3, none⟩ s) b #[p, q, r, s] := by
  obtain ⟨t, h⟩ := h
  exact ⟨t, heap_setCell_same 3 s (heap_setCell_same 2 r (heap_setCell_same 1 q (heap_setCell_same 0 p h)))⟩
theorem numV_00 : numV 0 0 = .agg #[.bool false, .string ⟨#[]⟩, .bool false, .string ⟨#[]⟩] := by
  unfold numV
  rw [show digN (0 : Int).natAbs = [] from digN_zero]
  rfl
/-- The rational number of a fraction. -/
def Fq.q (g : Fq) : Rat := Rat.divInt g.N g.D
end Go.Proofs.Ytamjmcdlddocgaa

namespace Go.Proofs.Ytamjmcdlddocgaa
open Go.ChangeShapes Go.WideShapes Go.RowKit
set_option linter.unusedVariables false
set_option linter.unusedSimpArgs false
end Go.Proofs.Ytamjmcdlddocgaa

namespace Go.Proofs.Ytamjmcdlddocgaa
open Go.ChangeShapes Go.WideShapes Go.RowKit
set_option linter.unusedVariables false
set_option linter.unusedSimpArgs false
/-- What a row that is right is like. -/
structure RowOK (r : Rw) (n : Int) : Prop where
  n0 : 0 ≤ n
  n12 : n ≤ 12
  kind : r.kind = 1 ∨ r.kind = 2 ∨ r.kind = 3
  len : (r.of.length : Int) ≤ n
  fit : ∀ x ∈ r.of, fitI x
  fto : fitI r.to
end Go.Proofs.Ytamjmcdlddocgaa

namespace Go.Proofs.Ytamjmcdlddocgaa
open Go.ChangeShapes Go.WideShapes Go.RowKit
set_option linter.unusedVariables false
set_option linter.unusedSimpArgs false
end Go.Proofs.Ytamjmcdlddocgaa

namespace Go.Proofs.Ytamjmcdlddocgaa
open Go.ChangeShapes Go.WideShapes Go.RowKit
set_option linter.unusedVariables false
set_option linter.unusedSimpArgs false
end Go.Proofs.Ytamjmcdlddocgaa
