/- What the walks are told of arguments that are slices: of integers, of gaps. -/
import Derived.Test.YtnmklgigmmlgeaaOpen
import Derived.Test.YtnmklgigmmlgeaaFracOps
namespace Go.Proofs.Ytnmklgigmmlgeaa
open Go.ChangeShapes Go.WideShapes Go.ChangeAt Go.RowKit Go.Joins Go.Deep
set_option linter.unusedVariables false
set_option linter.unusedSimpArgs false

/-- A slice of integers, as it lies. -/
def IsInts (w : World) (v : Value) (l : List Int) : Prop :=
  ∃ oa cap, v = .slice oa l.length cap ∧ l.length ≤ maxLen ∧ (∀ x ∈ l, I64 x) ∧ (l ≠ [] → ∃ b o, oa = some ⟨b, o, none⟩ ∧ b < w.heap.size ∧ ∀ i x, l[i]? = some x → w.cell? ⟨b, o + i, none⟩ = some (.int .i64 x))

structure Gp where
  A : Int
  B : Int
  By : Int

/-- A slice of gaps, as it lies. -/
def IsGaps (w : World) (v : Value) (l : List Gp) : Prop :=
  ∃ oa cap, v = .slice oa l.length cap ∧ l.length ≤ maxLen ∧ (∀ g ∈ l, I64 g.A ∧ I64 g.B ∧ I64 g.By) ∧ (l ≠ [] → ∃ b o, oa = some ⟨b, o, none⟩ ∧ b < w.heap.size ∧
    ∀ i g, l[i]? = some g → w.cell? ⟨b, o + i * 3, none⟩ = some (.int .i64 g.A) ∧ w.cell? ⟨b, o + i * 3 + 1, none⟩ = some (.int .i64 g.B) ∧ w.cell? ⟨b, o + i * 3 + 2, none⟩ = some (.int .i64 g.By))

theorem cell_lt {w : World} {b o : Nat} {s : Option Nat} {v : Value} (h : w.cell? ⟨b, o, s⟩ = some v) : b < w.heap.size := by
  apply Classical.byContradiction
  intro h'
  rw [World.cell?, Array.getElem?_eq_none (Nat.le_of_not_lt h')] at h
  cases h

theorem IsInts.keep {w w' : World} {v : Value} {l : List Int} (h : IsInts w v l) (k : Keep NoS w w') : IsInts w' v l := by
  obtain ⟨oa, cap, h1, h2, h3, h4⟩ := h
  refine ⟨oa, cap, h1, h2, h3, fun hne => ?_⟩
  obtain ⟨b, o, e, hb, hc⟩ := h4 hne
  exact ⟨b, o, e, Nat.lt_of_lt_of_le hb k.size, fun i x hx => by rw [k.cell hb]; exact hc i x hx⟩

theorem IsGaps.keep {w w' : World} {v : Value} {l : List Gp} (h : IsGaps w v l) (k : Keep NoS w w') : IsGaps w' v l := by
  obtain ⟨oa, cap, h1, h2, h3, h4⟩ := h
  refine ⟨oa, cap, h1, h2, h3, fun hne => ?_⟩
  obtain ⟨b, o, e, hb, hc⟩ := h4 hne
  exact ⟨b, o, e, Nat.lt_of_lt_of_le hb k.size, fun i g hg => by simp only [k.cell hb]; exact hc i g hg⟩

section
variable {H : Type} {enc : TypeId × Value → H} {W : World} {base : Nat} {d : DataW H} {p : List MemPlace} {v : Value}

set_option maxRecDepth 100000 in
theorem in_ints (hv : Value.okWide Try.prog W .any base 40 v) (h : DataW.Trod enc Try.prog W 0 (fun _ => true) true 40 v d p) : ∃ l, IsInts W v l := by
  obtain ⟨a0, len, cap, rfl⟩ := okWide_slice Try.underlying40 hv
  obtain ⟨fuel, hf⟩ := h
  rcases open_ints Try.underlying40 Try.underlying3 (by kernel_rfl) hf with ⟨hcs, _⟩ | ⟨a, len', cap', zs, hcs, _, hl, hm, hz, _, hc, hwf⟩
  · simp [Value.cells] at hcs
    obtain ⟨rfl, rfl, rfl⟩ := hcs
    exact ⟨[], none, 0, rfl, by simp, by simp, fun h => absurd rfl h⟩
  · simp [Value.cells] at hcs
    obtain ⟨rfl, rfl, rfl⟩ := hcs
    simp at hz
    refine ⟨zs.take len, some a, cap, by rw [List.length_take]; congr 1; omega, by rw [List.length_take]; omega, fun x hx => i64_of_wf (hwf x (List.mem_of_mem_take hx)), fun hne => ?_⟩
    have hp : 0 < zs.length := by
      rcases zs with _ | ⟨z, zs⟩
      · simp at hne
      · simp
    obtain ⟨b, off, rfl, hq⟩ := ints_at hc hp
    have hx : ∀ i x, (zs.take len)[i]? = some x → W.cell? ⟨b, off + i, none⟩ = some (.int .i64 x) := by
      intro i x hx
      obtain ⟨hi, hx⟩ := List.getElem?_eq_some_iff.1 hx
      rw [List.length_take] at hi
      rw [hq i (by omega), List.getD_eq_getElem?_getD, List.getElem?_eq_getElem (by omega)]
      rw [List.getElem_take] at hx
      simp [hx]
    exact ⟨b, off, rfl, cell_lt (hq 0 hp), hx⟩

set_option maxRecDepth 100000 in
theorem in_gap {spare : Nat → Bool} {held : Bool} {base n : Nat} {cs : List Value} {y : DataW H × List MemPlace} (h : DataW.trod enc Try.prog W base spare held n 44 cs = some y) :
    ∃ g : Gp, cs = [.int .i64 g.A, .int .i64 g.B, .int .i64 g.By] ∧ I64 g.A ∧ I64 g.B ∧ I64 g.By := by
  obtain ⟨xs, n', _, _, hlen, hxl, hf⟩ := DataW.trod_struct Try.underlying44 h
  have hc : Try.prog.cellsOf 44 = 3 := by kernel_rfl
  have hi : Try.prog.cellsOf 3 = 1 := by kernel_rfl
  rw [hc] at hlen
  match cs, hlen, xs, hxl with
  | [c0, c1, c2], _, [x0, x1, x2], _ =>
    have h0 := hf 0 _ rfl
    have h1 := hf 1 _ rfl
    have h2 := hf 2 _ rfl
    simp [hi] at h0 h1 h2
    obtain ⟨a, e0, _, wa⟩ := DataW.trod_int Try.underlying3 h0
    obtain ⟨b, e1, _, wb⟩ := DataW.trod_int Try.underlying3 h1
    obtain ⟨c, e2, _, wc⟩ := DataW.trod_int Try.underlying3 h2
    simp at e0 e1 e2
    subst e0 e1 e2
    exact ⟨⟨a, b, c⟩, rfl, i64_of_wf wa, i64_of_wf wb, i64_of_wf wc⟩

instance : Inhabited Gp := ⟨⟨0, 0, 0⟩⟩

set_option maxRecDepth 100000 in
theorem in_gaps (hv : Value.okWide Try.prog W .any base 39 v) (h : DataW.Trod enc Try.prog W 0 (fun _ => true) true 39 v d p) : ∃ l, IsGaps W v l := by
  obtain ⟨a0, len, cap, rfl⟩ := okWide_slice Try.underlying39 hv
  obtain ⟨fuel, hf⟩ := h
  have hc : Try.prog.cellsOf 44 = 3 := by kernel_rfl
  rcases open_slice Try.underlying39 hf with ⟨hcs, _⟩ | ⟨a, len', cap', m, n, D, Pl, hcs, _, hl, hm, hmm, _, hi⟩
  · simp [Value.cells] at hcs
    obtain ⟨rfl, rfl, rfl⟩ := hcs
    exact ⟨[], none, 0, rfl, by simp, by simp, fun h => absurd rfl h⟩
  · simp [Value.cells] at hcs
    obtain ⟨rfl, rfl, rfl⟩ := hcs
    simp at hmm
    subst hmm
    have hq : ∀ i, i < len → ∃ g : Gp, (W.cell? (a.add (i * 3)) = some (.int .i64 g.A) ∧ W.cell? ((a.add (i * 3)).add 1) = some (.int .i64 g.B) ∧ W.cell? ((a.add (i * 3)).add 2) = some (.int .i64 g.By)) ∧ I64 g.A ∧ I64 g.B ∧ I64 g.By := by
      intro i hil
      obtain ⟨cs', h1, h2⟩ := hi i (by omega)
      obtain ⟨g, rfl, hg⟩ := in_gap h2
      rw [hc] at h1
      obtain ⟨_, _, hat⟩ := World.cells?_some h1
      exact ⟨g, ⟨by simpa [Addr.add] using hat 0 (by omega), hat 1 (by omega), hat 2 (by omega)⟩, hg⟩
    obtain ⟨f, hf⟩ := choose_lt hq
    refine ⟨(List.range len).map f, some a, m, by simp, by simp; omega, ?_, fun hne => ?_⟩
    · intro g hg
      obtain ⟨i, hi, rfl⟩ := List.mem_map.1 hg
      exact (hf i (by simpa using hi)).2
    · have hp : 0 < len := by
        rcases len with _ | n
        · simp at hne
        · omega
      obtain ⟨b, off, spot⟩ := a
      have h0 := (hf 0 hp).1.1
      have hspot : spot = none := by simpa [Addr.add] using World.cell?_spot h0
      subst hspot
      refine ⟨b, off, rfl, cell_lt (s := none) (by simpa [Addr.add] using h0), fun i g hg => ?_⟩
      obtain ⟨hi, rfl⟩ := List.getElem?_eq_some_iff.1 hg
      simp at hi
      have hh := (hf i hi).1
      simp only [add_add, add_plain] at hh
      simpa using hh
end
end Go.Proofs.Ytnmklgigmmlgeaa
