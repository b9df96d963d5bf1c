/- The law TopTerms: its walk. -/
import Derived.Test.YtnndmdfjdodiiaaGreatTtTd
namespace Go.Proofs.YtnndmdfjdodiiaaGreat
open Go.ChangeShapes Go.WideShapes Go.RowKit Go.Maps

theorem topTerms_walk (w : World) (v u : Value) (raw ps : List Int) (h : IsInts w v raw) (k : IsInts w u ps) :
    Calls Tryz.prog 3 #[v, u] w fun e w' => e = .returned (.bool true) ∧ Below w.heap.size w w' :=
  (topTerms_any w v u raw ps h k).mono fun _ _ ⟨he, hk⟩ => ⟨he, hk.bel⟩
end Go.Proofs.YtnndmdfjdodiiaaGreat
