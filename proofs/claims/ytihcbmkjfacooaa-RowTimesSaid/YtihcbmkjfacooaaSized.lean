/- The reach of a row's numbers. -/
import Derived.Test.YtihcbmkjfacooaaBaseB
import Derived.SizedLaws
namespace Go.Proofs.Ytihcbmkjfacooaa
open Go.ChangeShapes Go.WideShapes Go.ChangeAt Go.RowKit Go.Joins Go.Deep
set_option linter.unusedVariables false
set_option linter.unusedSimpArgs false
section
variable {H : Type} {enc : TypeId × Value → H} {W : World} {base : Nat} {d : DataW H} {p : List MemPlace} {v : Value}
theorem bytes_int : Try.prog.bytesOf 3 = 8 := by kernel_rfl

set_option maxRecDepth 100000 in
theorem row_reach {r : Rw} (hr : IsRow W v r) (hv : Value.okWide Try.prog W .any base 24 v) (h : DataW.Trod enc Try.prog W 0 (fun _ => true) true 24 v d p)
    (hw : ∀ n ∈ d.weights Try.prog 24, n ≤ reachBytes) : r.of.length * 8 ≤ 140737488355328 := by
  obtain ⟨c0, c1, c2, y0, y1, y2, m, rfl, rfl, _, hy0, hy1, hy2⟩ := open_agg3 Try.underlying24 (by kernel_rfl) (by kernel_rfl) hv h
  obtain ⟨sv, he, hi, _⟩ := hr
  obtain ⟨oa, cap, rfl, _⟩ := hi.len
  rcases open_ints Try.underlying22 Try.underlying3 (by kernel_rfl) hy0 with ⟨hcs, _⟩ | ⟨a, len, cap', zs, hcs, _, hl, hm, hz, hx, hc, hwf⟩
  · simp at hcs
    subst hcs
    simp at he
    omega
  · simp at hcs
    subst hcs
    simp at he hz
    have hlen : r.of.length = len := he.1.2.1.symm
    have hn := hw (((lits (H := H) .i64 (zs.take len)).length + (lits (H := H) .i64 (zs.drop len)).length) * Try.prog.bytesOf 3) (by
      rw [hx]
      simp [DataW.weights, Try.underlying24, DataW.weightsEach, Try.underlying22])
    rw [bytes_int] at hn
    simp only [lits, List.length_map, List.length_take, List.length_drop, reachBytes] at hn
    omega
end
end Go.Proofs.Ytihcbmkjfacooaa
