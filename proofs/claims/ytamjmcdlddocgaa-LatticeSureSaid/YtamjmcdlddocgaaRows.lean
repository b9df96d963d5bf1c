/-
  No cell of these rows narrows 'for every input' (looked for: loops, veiled, ifaces, maps, wideKeys, modest, calm, conditions, laid).
  DERIVED. THE GIVEN ROWS OF THIS SEAT. 5 by the template 'for every input the law returns true; each argument reads behind the call as it read before'; 0 by the template 'total and deterministic' (their statements: YtamjmcdlddocgaaTotals.lean).
  GIVEN WITH THE SEED: the statements are not yours to turn. If you find one false, say at which input.
  Laid BY PROGRAM, IN A SANDBOX (cutbox-rows.mjs): the forced cells as the released guide's own fill.sh prints them over the translation 4817518e7bfa9d79… (all of the seat's roots in one cut). By AI agents, Wed Nov 11 2026. No macro, syntax, notation, axiom, sorry.
-/
import Derived.Test.YtamjmcdlddocgaaChecked
import GoSem.Claim
import GoSem.ClaimJoined
import GoSem.ClaimMapViews
import Derived.JoinedTies
import Derived.KernelRfl
namespace Go.Proofs.Ytamjmcdlddocgaa
/- THE CELL 'sum', in the pinned program and in every row, IS THE sha256 OF THE DUMP (.gsa) THAT YtamjmcdlddocgaaProg.lean LOADS. Nothing in Lean hashes anything: it is a label: what it is worth is what the hold of that sum in a sandbox is worth. -/
noncomputable def Try.pinned : Pinned := { name := "ytamjmcdlddocgaa", sum := "4817518e7bfa9d79dd5cfc51fe42c8b15a6096ae1c1c13c627824ab128c0f0e8", checked := Try.checked }
namespace Rows
def none {H : Type} : Left H := { results := [], args := [] }

/-- 'umpiragelaw5.SimplexPivots': WHATEVER THE INPUT: true; the input reads as it did. -/
def simplexPivotsSpec : ChangeSpec := { name := "simplexPivots", fn := fun _ => fun
  | [d1, d2, d3] => { results := [.lit (.bool true)], args := [d1, d2, d3] }
  | _ => none }
def simplexPivotsRow : OpenClaim := { program := "ytamjmcdlddocgaa", sum := "4817518e7bfa9d79dd5cfc51fe42c8b15a6096ae1c1c13c627824ab128c0f0e8", func := "umpirage/umpiragelaw5.SimplexPivots", spec := "simplexPivots", apart := false }
def SimplexPivotsSaid : Prop := simplexPivotsRow.holds Try.pinned (OpenSpec.ofChange simplexPivotsSpec)

/-- ITS FALSE NEIGHBOUR: 'it returns false'. Refute it at one input. -/
def simplexPivotsWrong : ChangeSpec := { name := "simplexPivots", fn := fun _ => fun
  | [d1, d2, d3] => { results := [.lit (.bool false)], args := [d1, d2, d3] }
  | _ => none }
def SimplexPivotsWrongFalsely : Prop := simplexPivotsRow.holds Try.pinned (OpenSpec.ofChange simplexPivotsWrong)

/-- 'umpiragelaw5.SimplexFaults': WHATEVER THE INPUT: true; the input reads as it did. -/
def simplexFaultsSpec : ChangeSpec := { name := "simplexFaults", fn := fun _ => fun
  | [d1, d2, d3] => { results := [.lit (.bool true)], args := [d1, d2, d3] }
  | _ => none }
def simplexFaultsRow : OpenClaim := { program := "ytamjmcdlddocgaa", sum := "4817518e7bfa9d79dd5cfc51fe42c8b15a6096ae1c1c13c627824ab128c0f0e8", func := "umpirage/umpiragelaw5.SimplexFaults", spec := "simplexFaults", unfollowed := true, recurses := true, apart := false }
def SimplexFaultsSaid : Prop := simplexFaultsRow.holds Try.pinned (OpenSpec.ofChange simplexFaultsSpec)

/-- ITS FALSE NEIGHBOUR: 'it returns false'. Refute it at one input. -/
def simplexFaultsWrong : ChangeSpec := { name := "simplexFaults", fn := fun _ => fun
  | [d1, d2, d3] => { results := [.lit (.bool false)], args := [d1, d2, d3] }
  | _ => none }
def SimplexFaultsWrongFalsely : Prop := simplexFaultsRow.holds Try.pinned (OpenSpec.ofChange simplexFaultsWrong)

/-- 'umpiragelaw5.SimplexLess': WHATEVER THE INPUT: true; the input reads as it did. -/
def simplexLessSpec : ChangeSpec := { name := "simplexLess", fn := fun _ => fun
  | [d1, d2, d3] => { results := [.lit (.bool true)], args := [d1, d2, d3] }
  | _ => none }
def simplexLessRow : OpenClaim := { program := "ytamjmcdlddocgaa", sum := "4817518e7bfa9d79dd5cfc51fe42c8b15a6096ae1c1c13c627824ab128c0f0e8", func := "umpirage/umpiragelaw5.SimplexLess", spec := "simplexLess", unfollowed := true, recurses := true, apart := false }
def SimplexLessSaid : Prop := simplexLessRow.holds Try.pinned (OpenSpec.ofChange simplexLessSpec)

/-- ITS FALSE NEIGHBOUR: 'it returns false'. Refute it at one input. -/
def simplexLessWrong : ChangeSpec := { name := "simplexLess", fn := fun _ => fun
  | [d1, d2, d3] => { results := [.lit (.bool false)], args := [d1, d2, d3] }
  | _ => none }
def SimplexLessWrongFalsely : Prop := simplexLessRow.holds Try.pinned (OpenSpec.ofChange simplexLessWrong)

/-- 'umpiragelaw5.FarkasFinds': WHATEVER THE INPUT: true; the input reads as it did. -/
def farkasFindsSpec : ChangeSpec := { name := "farkasFinds", fn := fun _ => fun
  | [d1, d2, d3] => { results := [.lit (.bool true)], args := [d1, d2, d3] }
  | _ => none }
def farkasFindsRow : OpenClaim := { program := "ytamjmcdlddocgaa", sum := "4817518e7bfa9d79dd5cfc51fe42c8b15a6096ae1c1c13c627824ab128c0f0e8", func := "umpirage/umpiragelaw5.FarkasFinds", spec := "farkasFinds", unfollowed := true, recurses := true, apart := false }
def FarkasFindsSaid : Prop := farkasFindsRow.holds Try.pinned (OpenSpec.ofChange farkasFindsSpec)

/-- ITS FALSE NEIGHBOUR: 'it returns false'. Refute it at one input. -/
def farkasFindsWrong : ChangeSpec := { name := "farkasFinds", fn := fun _ => fun
  | [d1, d2, d3] => { results := [.lit (.bool false)], args := [d1, d2, d3] }
  | _ => none }
def FarkasFindsWrongFalsely : Prop := farkasFindsRow.holds Try.pinned (OpenSpec.ofChange farkasFindsWrong)

/-- 'umpiragelaw5.LatticeSure': WHATEVER THE INPUT: true; the input reads as it did. -/
def latticeSureSpec : ChangeSpec := { name := "latticeSure", fn := fun _ => fun
  | [d1, d2, d3, d4, d5, d6] => { results := [.lit (.bool true)], args := [d1, d2, d3, d4, d5, d6] }
  | _ => none }
def latticeSureRow : OpenClaim := { program := "ytamjmcdlddocgaa", sum := "4817518e7bfa9d79dd5cfc51fe42c8b15a6096ae1c1c13c627824ab128c0f0e8", func := "umpirage/umpiragelaw5.LatticeSure", spec := "latticeSure", unfollowed := true, recurses := true, apart := false }
def LatticeSureSaid : Prop := latticeSureRow.holds Try.pinned (OpenSpec.ofChange latticeSureSpec)

/-- ITS FALSE NEIGHBOUR: 'it returns false'. Refute it at one input. -/
def latticeSureWrong : ChangeSpec := { name := "latticeSure", fn := fun _ => fun
  | [d1, d2, d3, d4, d5, d6] => { results := [.lit (.bool false)], args := [d1, d2, d3, d4, d5, d6] }
  | _ => none }
def LatticeSureWrongFalsely : Prop := latticeSureRow.holds Try.pinned (OpenSpec.ofChange latticeSureWrong)

/- THE SECOND FORM. 'bulk': how many values and letters a reading holds, each counted each time it is reached (what is shared counts as often as it is met; a slice's spare places count too). A statement '..UptoSaid' is the law's where the arguments, and the package variables that the reading takes, are together of bulk at most 1048576: NARROWER than '..Said'. Prove '..Said' where nothing that the law and all that it calls make is longer than what came in: it says more and counts as full. Else prove '..UptoSaid'. A law counts once. -/
mutual
def uptoBulk {H : Type} : DataW H → Nat
  | .lit (.string bytes) => bytes.length + 1
  | .lit _ => 1
  | .nil => 1
  | .ptr d => uptoBulk d + 1
  | .slice elems spare => uptoBulkAll elems + uptoBulkAll spare + 1
  | .agg parts => uptoBulkAll parts + 1
  | .iface _ d => uptoBulk d + 1
  | .map entries => uptoBulkEntries entries + 1
  | .held _ => 1
def uptoBulkAll {H : Type} : List (DataW H) → Nat
  | [] => 0
  | d :: r => uptoBulk d + uptoBulkAll r
def uptoBulkEntries {H : Type} : List (Lit × DataW H) → Nat
  | [] => 0
  | x :: r => uptoBulkEntry x + uptoBulkEntries r
def uptoBulkEntry {H : Type} : Lit × DataW H → Nat
  | (.string bytes, d) => bytes.length + uptoBulk d + 1
  | (_, d) => uptoBulk d + 1
 end
def uptoSmall : (H : Type) → List (DataW H) → Bool := fun _ ds => decide (uptoBulkAll ds ≤ 1048576)
def OpenSpec.upto (s : _root_.Go.ChangeSpec) : _root_.Go.OpenSpec := { _root_.Go.OpenSpec.ofChange s with cond := some uptoSmall }

/-- 'umpiragelaw5.SimplexPivots', WHERE WHAT IT READS IS OF BULK AT MOST 1048576: true; the input reads as it did. -/
def simplexPivotsUptoRow : OpenClaim := { program := "ytamjmcdlddocgaa", sum := "4817518e7bfa9d79dd5cfc51fe42c8b15a6096ae1c1c13c627824ab128c0f0e8", func := "umpirage/umpiragelaw5.SimplexPivots", spec := "simplexPivots", apart := false, narrowed := true }
def SimplexPivotsUptoSaid : Prop := simplexPivotsUptoRow.holds Try.pinned (OpenSpec.upto simplexPivotsSpec)

/-- 'umpiragelaw5.SimplexFaults', WHERE WHAT IT READS IS OF BULK AT MOST 1048576: true; the input reads as it did. -/
def simplexFaultsUptoRow : OpenClaim := { program := "ytamjmcdlddocgaa", sum := "4817518e7bfa9d79dd5cfc51fe42c8b15a6096ae1c1c13c627824ab128c0f0e8", func := "umpirage/umpiragelaw5.SimplexFaults", spec := "simplexFaults", unfollowed := true, recurses := true, apart := false, narrowed := true }
def SimplexFaultsUptoSaid : Prop := simplexFaultsUptoRow.holds Try.pinned (OpenSpec.upto simplexFaultsSpec)

/-- 'umpiragelaw5.SimplexLess', WHERE WHAT IT READS IS OF BULK AT MOST 1048576: true; the input reads as it did. -/
def simplexLessUptoRow : OpenClaim := { program := "ytamjmcdlddocgaa", sum := "4817518e7bfa9d79dd5cfc51fe42c8b15a6096ae1c1c13c627824ab128c0f0e8", func := "umpirage/umpiragelaw5.SimplexLess", spec := "simplexLess", unfollowed := true, recurses := true, apart := false, narrowed := true }
def SimplexLessUptoSaid : Prop := simplexLessUptoRow.holds Try.pinned (OpenSpec.upto simplexLessSpec)

/-- 'umpiragelaw5.FarkasFinds', WHERE WHAT IT READS IS OF BULK AT MOST 1048576: true; the input reads as it did. -/
def farkasFindsUptoRow : OpenClaim := { program := "ytamjmcdlddocgaa", sum := "4817518e7bfa9d79dd5cfc51fe42c8b15a6096ae1c1c13c627824ab128c0f0e8", func := "umpirage/umpiragelaw5.FarkasFinds", spec := "farkasFinds", unfollowed := true, recurses := true, apart := false, narrowed := true }
def FarkasFindsUptoSaid : Prop := farkasFindsUptoRow.holds Try.pinned (OpenSpec.upto farkasFindsSpec)

/-- 'umpiragelaw5.LatticeSure', WHERE WHAT IT READS IS OF BULK AT MOST 1048576: true; the input reads as it did. -/
def latticeSureUptoRow : OpenClaim := { program := "ytamjmcdlddocgaa", sum := "4817518e7bfa9d79dd5cfc51fe42c8b15a6096ae1c1c13c627824ab128c0f0e8", func := "umpirage/umpiragelaw5.LatticeSure", spec := "latticeSure", unfollowed := true, recurses := true, apart := false, narrowed := true }
def LatticeSureUptoSaid : Prop := latticeSureUptoRow.holds Try.pinned (OpenSpec.upto latticeSureSpec)

end Rows
end Go.Proofs.Ytamjmcdlddocgaa
