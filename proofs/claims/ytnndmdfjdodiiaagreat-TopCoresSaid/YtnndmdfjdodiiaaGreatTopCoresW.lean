/- The law TopCores: its walk. -/
import Derived.Test.YtnndmdfjdodiiaaGreatTtWq
namespace Go.Proofs.YtnndmdfjdodiiaaGreat
open Go.ChangeShapes Go.WideShapes Go.RowKit Go.Maps

theorem topCores_walk (w : World) (v : Value) (raw : List Int) (o : Int) (h : IsInts w v raw) (ho : I64 o) :
    Calls Tryz.prog 4 #[v, .int .i64 o] w fun e w' => e = .returned (.bool true) ∧ Below w.heap.size w w' :=
  (topCores_any w v raw o h ho).mono fun _ _ ⟨he, hk⟩ => ⟨he, hk.bel⟩
end Go.Proofs.YtnndmdfjdodiiaaGreat
