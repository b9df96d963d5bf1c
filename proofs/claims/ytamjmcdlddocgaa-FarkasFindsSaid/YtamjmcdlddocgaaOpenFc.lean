/- Fractions that come in. -/
import Derived.Test.YtamjmcdlddocgaaPtAA
import Derived.Test.YtamjmcdlddocgaaPtAA
namespace Go.Proofs.Ytamjmcdlddocgaa
open Go.ChangeShapes Go.WideShapes Go.ChangeAt Go.RowKit Go.Joins Go.Deep
set_option linter.unusedVariables false
set_option linter.unusedSimpArgs false

section
variable {H : Type} {enc : TypeId × Value → H} {W : World} {base : Nat} {d : DataW H} {p : List MemPlace} {v : Value}

set_option maxRecDepth 100000 in
theorem frac_trod1C {spare : Nat → Bool} {held : Bool} {base n : Nat} {cs : List Value} {y : DataW H × List MemPlace} (h : DataW.trod enc Try.prog W base spare held n 28 cs = some y) :
    ∃ g : Fq, cs = [.int .i64 g.N, .int .i64 g.D] ∧ I64 g.N ∧ I64 g.D := by
  obtain ⟨xs, n', _, _, hlen, hxl, hf⟩ := DataW.trod_struct Try.underlying28 h
  have hc : Try.prog.cellsOf 28 = 2 := by kernel_rfl
  have hi : Try.prog.cellsOf 3 = 1 := by kernel_rfl
  rw [hc] at hlen
  match cs, hlen, xs, hxl with
  | [c0, c1], _, [x0, x1], _ =>
    have h0 := hf 0 _ rfl
    have h1 := hf 1 _ rfl
    simp [hi] at h0 h1
    obtain ⟨a, e0, _, wa⟩ := DataW.trod_int Try.underlying3 h0
    obtain ⟨b, e1, _, wb⟩ := DataW.trod_int Try.underlying3 h1
    simp at e0 e1
    subst e0 e1
    exact ⟨⟨a, b⟩, rfl, i64_of_wf wa, i64_of_wf wb⟩

set_option maxRecDepth 100000 in
theorem fracs_trodC {n0 : Nat} {c : Value} {y : DataW H × List MemPlace} (hf : DataW.trod enc Try.prog W 0 (fun _ => true) true n0 29 [c] = some y) : ∃ l, IsFracs W c l := by
  have hc : Try.prog.cellsOf 28 = 2 := by kernel_rfl
  rcases open_slice Try.underlying29 hf with ⟨hcs, _⟩ | ⟨a, len, cap', m, n, D, Pl, hcs, _, hl, hm, hmm, _, hi⟩
  · simp at hcs
    subst hcs
    exact ⟨[], none, 0, rfl, by simp, by simp, by simp, fun h => absurd rfl h⟩
  · simp at hcs
    subst hcs
    have hmm' : m = cap' := by simp at hmm; exact hmm
    subst hmm'
    have hq : ∀ i, i < len → ∃ g : Fq, (W.cell? (a.add (i * 2)) = some (.int .i64 g.N) ∧ W.cell? ((a.add (i * 2)).add 1) = some (.int .i64 g.D)) ∧ I64 g.N ∧ I64 g.D := by
      intro i hil
      obtain ⟨cs', h1, h2⟩ := hi i (by omega)
      obtain ⟨g, rfl, hg⟩ := frac_trod1C h2
      rw [hc] at h1
      obtain ⟨_, _, hat⟩ := World.cells?_some h1
      exact ⟨g, ⟨by simpa [Addr.add] using hat 0 (by omega), hat 1 (by omega)⟩, hg⟩
    obtain ⟨f, hf⟩ := choose_lt hq
    refine ⟨(List.range len).map f, some a, m, by simp, by simp; omega, by omega, ?_, fun hne => ?_⟩
    · intro g hg
      obtain ⟨i, hi, rfl⟩ := List.mem_map.1 hg
      exact (hf i (by simpa using hi)).2
    · have hp : 0 < len := by
        rcases len with _ | n
        · simp at hne
        · omega
      obtain ⟨b, off, spot⟩ := a
      have h0 := (hf 0 hp).1.1
      have hspot : spot = none := by simpa [Addr.add] using World.cell?_spot h0
      subst hspot
      refine ⟨b, off, rfl, cell_lt (s := none) (by simpa [Addr.add] using h0), fun i g hg => ?_⟩
      obtain ⟨hi, rfl⟩ := List.getElem?_eq_some_iff.1 hg
      simp at hi
      have hh := (hf i hi).1
      simp only [add_add, add_plain] at hh
      simpa using hh

set_option maxRecDepth 100000 in
theorem in_fracsC (hv : Value.okWide Try.prog W .any base 29 v) (h : DataW.Trod enc Try.prog W 0 (fun _ => true) true 29 v d p) : ∃ l, IsFracs W v l := by
  obtain ⟨a0, len, cap, rfl⟩ := okWide_slice Try.underlying29 hv
  obtain ⟨fuel, hf⟩ := h
  exact fracs_trodC (by simpa [Value.cells] using hf)
end
end Go.Proofs.Ytamjmcdlddocgaa
