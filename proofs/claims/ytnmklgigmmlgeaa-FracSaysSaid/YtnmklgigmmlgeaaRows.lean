/-
  No cell of these rows narrows 'for every input' (looked for: loops, veiled, ifaces, maps, wideKeys, modest, calm, conditions, laid).
  DERIVED. THE GIVEN ROWS OF THIS SEAT. 11 by the template 'for every input the law returns true; each argument reads behind the call as it read before'; 0 by the template 'total and deterministic' (their statements: YtnmklgigmmlgeaaTotals.lean).
  GIVEN WITH THE SEED: the statements are not yours to turn. If you find one false, say at which input.
  Laid BY PROGRAM, IN A SANDBOX (cutbox-rows.mjs): the forced cells as the released guide's own fill.sh prints them over the translation b705642b7b9a4985… (all of the seat's roots in one cut). By AI agents, Wed Nov 11 2026. No macro, syntax, notation, axiom, sorry.
-/
import Derived.Test.YtnmklgigmmlgeaaChecked
import GoSem.Claim
import GoSem.ClaimJoined
import GoSem.ClaimMapViews
import Derived.JoinedTies
import Derived.KernelRfl
namespace Go.Proofs.Ytnmklgigmmlgeaa
/- THE CELL 'sum', in the pinned program and in every row, IS THE sha256 OF THE DUMP (.gsa) THAT YtnmklgigmmlgeaaProg.lean LOADS. Nothing in Lean hashes anything: it is a label: what it is worth is what the hold of that sum in a sandbox is worth. -/
noncomputable def Try.pinned : Pinned := { name := "ytnmklgigmmlgeaa", sum := "b705642b7b9a4985641d9ae0c4540d85e774e05d65907a6215e05584d919ca0f", checked := Try.checked }
namespace Rows
def none {H : Type} : Left H := { results := [], args := [] }

/-- 'umpiragelaw5.FracMakes': WHATEVER THE INPUT: true; the input reads as it did. -/
def fracMakesSpec : ChangeSpec := { name := "fracMakes", fn := fun _ => fun
  | [d1, d2] => { results := [.lit (.bool true)], args := [d1, d2] }
  | _ => none }
def fracMakesRow : OpenClaim := { program := "ytnmklgigmmlgeaa", sum := "b705642b7b9a4985641d9ae0c4540d85e774e05d65907a6215e05584d919ca0f", func := "umpirage/umpiragelaw5.FracMakes", spec := "fracMakes", apart := false }
def FracMakesSaid : Prop := fracMakesRow.holds Try.pinned (OpenSpec.ofChange fracMakesSpec)

/-- ITS FALSE NEIGHBOUR: 'it returns false'. Refute it at one input. -/
def fracMakesWrong : ChangeSpec := { name := "fracMakes", fn := fun _ => fun
  | [d1, d2] => { results := [.lit (.bool false)], args := [d1, d2] }
  | _ => none }
def FracMakesWrongFalsely : Prop := fracMakesRow.holds Try.pinned (OpenSpec.ofChange fracMakesWrong)

/-- 'umpiragelaw5.GapBads': WHATEVER THE INPUT: true; the input reads as it did. -/
def gapBadsSpec : ChangeSpec := { name := "gapBads", fn := fun _ => fun
  | [d1, d2, d3] => { results := [.lit (.bool true)], args := [d1, d2, d3] }
  | _ => none }
def gapBadsRow : OpenClaim := { program := "ytnmklgigmmlgeaa", sum := "b705642b7b9a4985641d9ae0c4540d85e774e05d65907a6215e05584d919ca0f", func := "umpirage/umpiragelaw5.GapBads", spec := "gapBads", apart := false }
def GapBadsSaid : Prop := gapBadsRow.holds Try.pinned (OpenSpec.ofChange gapBadsSpec)

/-- ITS FALSE NEIGHBOUR: 'it returns false'. Refute it at one input. -/
def gapBadsWrong : ChangeSpec := { name := "gapBads", fn := fun _ => fun
  | [d1, d2, d3] => { results := [.lit (.bool false)], args := [d1, d2, d3] }
  | _ => none }
def GapBadsWrongFalsely : Prop := gapBadsRow.holds Try.pinned (OpenSpec.ofChange gapBadsWrong)

/-- 'umpiragelaw5.GapLast': WHATEVER THE INPUT: true; the input reads as it did. -/
def gapLastSpec : ChangeSpec := { name := "gapLast", fn := fun _ => fun
  | [d1, d2, d3] => { results := [.lit (.bool true)], args := [d1, d2, d3] }
  | _ => none }
def gapLastRow : OpenClaim := { program := "ytnmklgigmmlgeaa", sum := "b705642b7b9a4985641d9ae0c4540d85e774e05d65907a6215e05584d919ca0f", func := "umpirage/umpiragelaw5.GapLast", spec := "gapLast", apart := false }
def GapLastSaid : Prop := gapLastRow.holds Try.pinned (OpenSpec.ofChange gapLastSpec)

/-- ITS FALSE NEIGHBOUR: 'it returns false'. Refute it at one input. -/
def gapLastWrong : ChangeSpec := { name := "gapLast", fn := fun _ => fun
  | [d1, d2, d3] => { results := [.lit (.bool false)], args := [d1, d2, d3] }
  | _ => none }
def GapLastWrongFalsely : Prop := gapLastRow.holds Try.pinned (OpenSpec.ofChange gapLastWrong)

/-- 'umpiragelaw5.FracFloors': WHATEVER THE INPUT: true; the input reads as it did. -/
def fracFloorsSpec : ChangeSpec := { name := "fracFloors", fn := fun _ => fun
  | [d1, d2] => { results := [.lit (.bool true)], args := [d1, d2] }
  | _ => none }
def fracFloorsRow : OpenClaim := { program := "ytnmklgigmmlgeaa", sum := "b705642b7b9a4985641d9ae0c4540d85e774e05d65907a6215e05584d919ca0f", func := "umpirage/umpiragelaw5.FracFloors", spec := "fracFloors", unfollowed := true, recurses := true, apart := false }
def FracFloorsSaid : Prop := fracFloorsRow.holds Try.pinned (OpenSpec.ofChange fracFloorsSpec)

/-- ITS FALSE NEIGHBOUR: 'it returns false'. Refute it at one input. -/
def fracFloorsWrong : ChangeSpec := { name := "fracFloors", fn := fun _ => fun
  | [d1, d2] => { results := [.lit (.bool false)], args := [d1, d2] }
  | _ => none }
def FracFloorsWrongFalsely : Prop := fracFloorsRow.holds Try.pinned (OpenSpec.ofChange fracFloorsWrong)

/-- 'umpiragelaw5.FracOrder': WHATEVER THE INPUT: true; the input reads as it did. -/
def fracOrderSpec : ChangeSpec := { name := "fracOrder", fn := fun _ => fun
  | [d1, d2, d3] => { results := [.lit (.bool true)], args := [d1, d2, d3] }
  | _ => none }
def fracOrderRow : OpenClaim := { program := "ytnmklgigmmlgeaa", sum := "b705642b7b9a4985641d9ae0c4540d85e774e05d65907a6215e05584d919ca0f", func := "umpirage/umpiragelaw5.FracOrder", spec := "fracOrder", unfollowed := true, recurses := true, apart := false }
def FracOrderSaid : Prop := fracOrderRow.holds Try.pinned (OpenSpec.ofChange fracOrderSpec)

/-- ITS FALSE NEIGHBOUR: 'it returns false'. Refute it at one input. -/
def fracOrderWrong : ChangeSpec := { name := "fracOrder", fn := fun _ => fun
  | [d1, d2, d3] => { results := [.lit (.bool false)], args := [d1, d2, d3] }
  | _ => none }
def FracOrderWrongFalsely : Prop := fracOrderRow.holds Try.pinned (OpenSpec.ofChange fracOrderWrong)

/-- 'umpiragelaw5.FracSays': WHATEVER THE INPUT: true; the input reads as it did. -/
def fracSaysSpec : ChangeSpec := { name := "fracSays", fn := fun _ => fun
  | [d1, d2] => { results := [.lit (.bool true)], args := [d1, d2] }
  | _ => none }
def fracSaysRow : OpenClaim := { program := "ytnmklgigmmlgeaa", sum := "b705642b7b9a4985641d9ae0c4540d85e774e05d65907a6215e05584d919ca0f", func := "umpirage/umpiragelaw5.FracSays", spec := "fracSays", unfollowed := true, recurses := true, apart := false }
def FracSaysSaid : Prop := fracSaysRow.holds Try.pinned (OpenSpec.ofChange fracSaysSpec)

/-- ITS FALSE NEIGHBOUR: 'it returns false'. Refute it at one input. -/
def fracSaysWrong : ChangeSpec := { name := "fracSays", fn := fun _ => fun
  | [d1, d2] => { results := [.lit (.bool false)], args := [d1, d2] }
  | _ => none }
def FracSaysWrongFalsely : Prop := fracSaysRow.holds Try.pinned (OpenSpec.ofChange fracSaysWrong)

/-- 'umpiragelaw5.FracField': WHATEVER THE INPUT: true; the input reads as it did. -/
def fracFieldSpec : ChangeSpec := { name := "fracField", fn := fun _ => fun
  | [d1, d2, d3] => { results := [.lit (.bool true)], args := [d1, d2, d3] }
  | _ => none }
def fracFieldRow : OpenClaim := { program := "ytnmklgigmmlgeaa", sum := "b705642b7b9a4985641d9ae0c4540d85e774e05d65907a6215e05584d919ca0f", func := "umpirage/umpiragelaw5.FracField", spec := "fracField", unfollowed := true, recurses := true, apart := false }
def FracFieldSaid : Prop := fracFieldRow.holds Try.pinned (OpenSpec.ofChange fracFieldSpec)

/-- ITS FALSE NEIGHBOUR: 'it returns false'. Refute it at one input. -/
def fracFieldWrong : ChangeSpec := { name := "fracField", fn := fun _ => fun
  | [d1, d2, d3] => { results := [.lit (.bool false)], args := [d1, d2, d3] }
  | _ => none }
def FracFieldWrongFalsely : Prop := fracFieldRow.holds Try.pinned (OpenSpec.ofChange fracFieldWrong)

/-- 'umpiragelaw5.GapHold': WHATEVER THE INPUT: true; the input reads as it did. -/
def gapHoldSpec : ChangeSpec := { name := "gapHold", fn := fun _ => fun
  | [d1, d2] => { results := [.lit (.bool true)], args := [d1, d2] }
  | _ => none }
def gapHoldRow : OpenClaim := { program := "ytnmklgigmmlgeaa", sum := "b705642b7b9a4985641d9ae0c4540d85e774e05d65907a6215e05584d919ca0f", func := "umpirage/umpiragelaw5.GapHold", spec := "gapHold", apart := false }
def GapHoldSaid : Prop := gapHoldRow.holds Try.pinned (OpenSpec.ofChange gapHoldSpec)

/-- ITS FALSE NEIGHBOUR: 'it returns false'. Refute it at one input. -/
def gapHoldWrong : ChangeSpec := { name := "gapHold", fn := fun _ => fun
  | [d1, d2] => { results := [.lit (.bool false)], args := [d1, d2] }
  | _ => none }
def GapHoldWrongFalsely : Prop := gapHoldRow.holds Try.pinned (OpenSpec.ofChange gapHoldWrong)

/-- 'umpiragelaw5.GapSays': WHATEVER THE INPUT: true; the input reads as it did. -/
def gapSaysSpec : ChangeSpec := { name := "gapSays", fn := fun _ => fun
  | [d1, d2] => { results := [.lit (.bool true)], args := [d1, d2] }
  | _ => none }
def gapSaysRow : OpenClaim := { program := "ytnmklgigmmlgeaa", sum := "b705642b7b9a4985641d9ae0c4540d85e774e05d65907a6215e05584d919ca0f", func := "umpirage/umpiragelaw5.GapSays", spec := "gapSays", apart := false }
def GapSaysSaid : Prop := gapSaysRow.holds Try.pinned (OpenSpec.ofChange gapSaysSpec)

/-- ITS FALSE NEIGHBOUR: 'it returns false'. Refute it at one input. -/
def gapSaysWrong : ChangeSpec := { name := "gapSays", fn := fun _ => fun
  | [d1, d2] => { results := [.lit (.bool false)], args := [d1, d2] }
  | _ => none }
def GapSaysWrongFalsely : Prop := gapSaysRow.holds Try.pinned (OpenSpec.ofChange gapSaysWrong)

/-- 'umpiragelaw5.GapTight': WHATEVER THE INPUT: true; the input reads as it did. -/
def gapTightSpec : ChangeSpec := { name := "gapTight", fn := fun _ => fun
  | [d1, d2, d3, d4] => { results := [.lit (.bool true)], args := [d1, d2, d3, d4] }
  | _ => none }
def gapTightRow : OpenClaim := { program := "ytnmklgigmmlgeaa", sum := "b705642b7b9a4985641d9ae0c4540d85e774e05d65907a6215e05584d919ca0f", func := "umpirage/umpiragelaw5.GapTight", spec := "gapTight", apart := false }
def GapTightSaid : Prop := gapTightRow.holds Try.pinned (OpenSpec.ofChange gapTightSpec)

/-- ITS FALSE NEIGHBOUR: 'it returns false'. Refute it at one input. -/
def gapTightWrong : ChangeSpec := { name := "gapTight", fn := fun _ => fun
  | [d1, d2, d3, d4] => { results := [.lit (.bool false)], args := [d1, d2, d3, d4] }
  | _ => none }
def GapTightWrongFalsely : Prop := gapTightRow.holds Try.pinned (OpenSpec.ofChange gapTightWrong)

/-- 'umpiragelaw5.GapAlong': WHATEVER THE INPUT: true; the input reads as it did. -/
def gapAlongSpec : ChangeSpec := { name := "gapAlong", fn := fun _ => fun
  | [d1, d2, d3, d4, d5] => { results := [.lit (.bool true)], args := [d1, d2, d3, d4, d5] }
  | _ => none }
def gapAlongRow : OpenClaim := { program := "ytnmklgigmmlgeaa", sum := "b705642b7b9a4985641d9ae0c4540d85e774e05d65907a6215e05584d919ca0f", func := "umpirage/umpiragelaw5.GapAlong", spec := "gapAlong", apart := false }
def GapAlongSaid : Prop := gapAlongRow.holds Try.pinned (OpenSpec.ofChange gapAlongSpec)

/-- ITS FALSE NEIGHBOUR: 'it returns false'. Refute it at one input. -/
def gapAlongWrong : ChangeSpec := { name := "gapAlong", fn := fun _ => fun
  | [d1, d2, d3, d4, d5] => { results := [.lit (.bool false)], args := [d1, d2, d3, d4, d5] }
  | _ => none }
def GapAlongWrongFalsely : Prop := gapAlongRow.holds Try.pinned (OpenSpec.ofChange gapAlongWrong)

/- THE SECOND FORM. 'bulk': how many values and letters a reading holds, each counted each time it is reached (what is shared counts as often as it is met; a slice's spare places count too). A statement '..UptoSaid' is the law's where the arguments, and the package variables that the reading takes, are together of bulk at most 1048576: NARROWER than '..Said'. Prove '..Said' where nothing that the law and all that it calls make is longer than what came in: it says more and counts as full. Else prove '..UptoSaid'. A law counts once. -/
mutual
def uptoBulk {H : Type} : DataW H → Nat
  | .lit (.string bytes) => bytes.length + 1
  | .lit _ => 1
  | .nil => 1
  | .ptr d => uptoBulk d + 1
  | .slice elems spare => uptoBulkAll elems + uptoBulkAll spare + 1
  | .agg parts => uptoBulkAll parts + 1
  | .iface _ d => uptoBulk d + 1
  | .map entries => uptoBulkEntries entries + 1
  | .held _ => 1
def uptoBulkAll {H : Type} : List (DataW H) → Nat
  | [] => 0
  | d :: r => uptoBulk d + uptoBulkAll r
def uptoBulkEntries {H : Type} : List (Lit × DataW H) → Nat
  | [] => 0
  | x :: r => uptoBulkEntry x + uptoBulkEntries r
def uptoBulkEntry {H : Type} : Lit × DataW H → Nat
  | (.string bytes, d) => bytes.length + uptoBulk d + 1
  | (_, d) => uptoBulk d + 1
 end
def uptoSmall : (H : Type) → List (DataW H) → Bool := fun _ ds => decide (uptoBulkAll ds ≤ 1048576)
def OpenSpec.upto (s : _root_.Go.ChangeSpec) : _root_.Go.OpenSpec := { _root_.Go.OpenSpec.ofChange s with cond := some uptoSmall }

/-- 'umpiragelaw5.FracMakes', WHERE WHAT IT READS IS OF BULK AT MOST 1048576: true; the input reads as it did. -/
def fracMakesUptoRow : OpenClaim := { program := "ytnmklgigmmlgeaa", sum := "b705642b7b9a4985641d9ae0c4540d85e774e05d65907a6215e05584d919ca0f", func := "umpirage/umpiragelaw5.FracMakes", spec := "fracMakes", apart := false, narrowed := true }
def FracMakesUptoSaid : Prop := fracMakesUptoRow.holds Try.pinned (OpenSpec.upto fracMakesSpec)

/-- 'umpiragelaw5.GapBads', WHERE WHAT IT READS IS OF BULK AT MOST 1048576: true; the input reads as it did. -/
def gapBadsUptoRow : OpenClaim := { program := "ytnmklgigmmlgeaa", sum := "b705642b7b9a4985641d9ae0c4540d85e774e05d65907a6215e05584d919ca0f", func := "umpirage/umpiragelaw5.GapBads", spec := "gapBads", apart := false, narrowed := true }
def GapBadsUptoSaid : Prop := gapBadsUptoRow.holds Try.pinned (OpenSpec.upto gapBadsSpec)

/-- 'umpiragelaw5.GapLast', WHERE WHAT IT READS IS OF BULK AT MOST 1048576: true; the input reads as it did. -/
def gapLastUptoRow : OpenClaim := { program := "ytnmklgigmmlgeaa", sum := "b705642b7b9a4985641d9ae0c4540d85e774e05d65907a6215e05584d919ca0f", func := "umpirage/umpiragelaw5.GapLast", spec := "gapLast", apart := false, narrowed := true }
def GapLastUptoSaid : Prop := gapLastUptoRow.holds Try.pinned (OpenSpec.upto gapLastSpec)

/-- 'umpiragelaw5.FracFloors', WHERE WHAT IT READS IS OF BULK AT MOST 1048576: true; the input reads as it did. -/
def fracFloorsUptoRow : OpenClaim := { program := "ytnmklgigmmlgeaa", sum := "b705642b7b9a4985641d9ae0c4540d85e774e05d65907a6215e05584d919ca0f", func := "umpirage/umpiragelaw5.FracFloors", spec := "fracFloors", unfollowed := true, recurses := true, apart := false, narrowed := true }
def FracFloorsUptoSaid : Prop := fracFloorsUptoRow.holds Try.pinned (OpenSpec.upto fracFloorsSpec)

/-- 'umpiragelaw5.FracOrder', WHERE WHAT IT READS IS OF BULK AT MOST 1048576: true; the input reads as it did. -/
def fracOrderUptoRow : OpenClaim := { program := "ytnmklgigmmlgeaa", sum := "b705642b7b9a4985641d9ae0c4540d85e774e05d65907a6215e05584d919ca0f", func := "umpirage/umpiragelaw5.FracOrder", spec := "fracOrder", unfollowed := true, recurses := true, apart := false, narrowed := true }
def FracOrderUptoSaid : Prop := fracOrderUptoRow.holds Try.pinned (OpenSpec.upto fracOrderSpec)

/-- 'umpiragelaw5.FracSays', WHERE WHAT IT READS IS OF BULK AT MOST 1048576: true; the input reads as it did. -/
def fracSaysUptoRow : OpenClaim := { program := "ytnmklgigmmlgeaa", sum := "b705642b7b9a4985641d9ae0c4540d85e774e05d65907a6215e05584d919ca0f", func := "umpirage/umpiragelaw5.FracSays", spec := "fracSays", unfollowed := true, recurses := true, apart := false, narrowed := true }
def FracSaysUptoSaid : Prop := fracSaysUptoRow.holds Try.pinned (OpenSpec.upto fracSaysSpec)

/-- 'umpiragelaw5.FracField', WHERE WHAT IT READS IS OF BULK AT MOST 1048576: true; the input reads as it did. -/
def fracFieldUptoRow : OpenClaim := { program := "ytnmklgigmmlgeaa", sum := "b705642b7b9a4985641d9ae0c4540d85e774e05d65907a6215e05584d919ca0f", func := "umpirage/umpiragelaw5.FracField", spec := "fracField", unfollowed := true, recurses := true, apart := false, narrowed := true }
def FracFieldUptoSaid : Prop := fracFieldUptoRow.holds Try.pinned (OpenSpec.upto fracFieldSpec)

/-- 'umpiragelaw5.GapHold', WHERE WHAT IT READS IS OF BULK AT MOST 1048576: true; the input reads as it did. -/
def gapHoldUptoRow : OpenClaim := { program := "ytnmklgigmmlgeaa", sum := "b705642b7b9a4985641d9ae0c4540d85e774e05d65907a6215e05584d919ca0f", func := "umpirage/umpiragelaw5.GapHold", spec := "gapHold", apart := false, narrowed := true }
def GapHoldUptoSaid : Prop := gapHoldUptoRow.holds Try.pinned (OpenSpec.upto gapHoldSpec)

/-- 'umpiragelaw5.GapSays', WHERE WHAT IT READS IS OF BULK AT MOST 1048576: true; the input reads as it did. -/
def gapSaysUptoRow : OpenClaim := { program := "ytnmklgigmmlgeaa", sum := "b705642b7b9a4985641d9ae0c4540d85e774e05d65907a6215e05584d919ca0f", func := "umpirage/umpiragelaw5.GapSays", spec := "gapSays", apart := false, narrowed := true }
def GapSaysUptoSaid : Prop := gapSaysUptoRow.holds Try.pinned (OpenSpec.upto gapSaysSpec)

/-- 'umpiragelaw5.GapTight', WHERE WHAT IT READS IS OF BULK AT MOST 1048576: true; the input reads as it did. -/
def gapTightUptoRow : OpenClaim := { program := "ytnmklgigmmlgeaa", sum := "b705642b7b9a4985641d9ae0c4540d85e774e05d65907a6215e05584d919ca0f", func := "umpirage/umpiragelaw5.GapTight", spec := "gapTight", apart := false, narrowed := true }
def GapTightUptoSaid : Prop := gapTightUptoRow.holds Try.pinned (OpenSpec.upto gapTightSpec)

/-- 'umpiragelaw5.GapAlong', WHERE WHAT IT READS IS OF BULK AT MOST 1048576: true; the input reads as it did. -/
def gapAlongUptoRow : OpenClaim := { program := "ytnmklgigmmlgeaa", sum := "b705642b7b9a4985641d9ae0c4540d85e774e05d65907a6215e05584d919ca0f", func := "umpirage/umpiragelaw5.GapAlong", spec := "gapAlong", apart := false, narrowed := true }
def GapAlongUptoSaid : Prop := gapAlongUptoRow.holds Try.pinned (OpenSpec.upto gapAlongSpec)

end Rows
end Go.Proofs.Ytnmklgigmmlgeaa
