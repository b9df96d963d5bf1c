/-
  No cell of these rows narrows 'for every input' (looked for: loops, veiled, ifaces, maps, wideKeys, modest, calm, conditions, laid).
  DERIVED. THE GIVEN ROWS OF THIS SEAT. 13 by the template 'for every input the law returns true; each argument reads behind the call as it read before'; 0 by the template 'total and deterministic' (their statements: YtihcbmkjfacooaaTotals.lean).
  GIVEN WITH THE SEED: the statements are not yours to turn. If you find one false, say at which input.
  Laid BY PROGRAM, IN A SANDBOX (cutbox-rows.mjs): the forced cells as the released guide's own fill.sh prints them over the translation 5c6df7f21bf5b347… (all of the seat's roots in one cut). By AI agents, Wed Nov 11 2026. No macro, syntax, notation, axiom, sorry.
-/
import Derived.Test.YtihcbmkjfacooaaChecked
import GoSem.Claim
import GoSem.ClaimJoined
import GoSem.ClaimMapViews
import Derived.JoinedTies
import Derived.KernelRfl
namespace Go.Proofs.Ytihcbmkjfacooaa
/- THE CELL 'sum', in the pinned program and in every row, IS THE sha256 OF THE DUMP (.gsa) THAT YtihcbmkjfacooaaProg.lean LOADS. Nothing in Lean hashes anything: it is a label: what it is worth is what the hold of that sum in a sandbox is worth. -/
noncomputable def Try.pinned : Pinned := { name := "ytihcbmkjfacooaa", sum := "5c6df7f21bf5b3477370f9cdafef7331715bbfb078ce5bd668a30b8f1a37779c", checked := Try.checked }
namespace Rows
def none {H : Type} : Left H := { results := [], args := [] }

/-- 'umpiragelaw5.RowForms': WHATEVER THE INPUT: true; the input reads as it did. -/
def rowFormsSpec : ChangeSpec := { name := "rowForms", fn := fun _ => fun
  | [d] => { results := [.lit (.bool true)], args := [d] }
  | _ => none }
def rowFormsRow : OpenClaim := { program := "ytihcbmkjfacooaa", sum := "5c6df7f21bf5b3477370f9cdafef7331715bbfb078ce5bd668a30b8f1a37779c", func := "umpirage/umpiragelaw5.RowForms", spec := "rowForms", unfollowed := true, recurses := true, apart := false }
def RowFormsSaid : Prop := rowFormsRow.holds Try.pinned (OpenSpec.ofChange rowFormsSpec)

/-- ITS FALSE NEIGHBOUR: 'it returns false'. Refute it at one input. -/
def rowFormsWrong : ChangeSpec := { name := "rowForms", fn := fun _ => fun
  | [d] => { results := [.lit (.bool false)], args := [d] }
  | _ => none }
def RowFormsWrongFalsely : Prop := rowFormsRow.holds Try.pinned (OpenSpec.ofChange rowFormsWrong)

/-- 'umpiragelaw5.SimplexPivots': WHATEVER THE INPUT: true; the input reads as it did. -/
def simplexPivotsSpec : ChangeSpec := { name := "simplexPivots", fn := fun _ => fun
  | [d1, d2, d3] => { results := [.lit (.bool true)], args := [d1, d2, d3] }
  | _ => none }
def simplexPivotsRow : OpenClaim := { program := "ytihcbmkjfacooaa", sum := "5c6df7f21bf5b3477370f9cdafef7331715bbfb078ce5bd668a30b8f1a37779c", func := "umpirage/umpiragelaw5.SimplexPivots", spec := "simplexPivots", apart := false }
def SimplexPivotsSaid : Prop := simplexPivotsRow.holds Try.pinned (OpenSpec.ofChange simplexPivotsSpec)

/-- ITS FALSE NEIGHBOUR: 'it returns false'. Refute it at one input. -/
def simplexPivotsWrong : ChangeSpec := { name := "simplexPivots", fn := fun _ => fun
  | [d1, d2, d3] => { results := [.lit (.bool false)], args := [d1, d2, d3] }
  | _ => none }
def SimplexPivotsWrongFalsely : Prop := simplexPivotsRow.holds Try.pinned (OpenSpec.ofChange simplexPivotsWrong)

/-- 'umpiragelaw5.LatticeTakings': WHATEVER THE INPUT: true; the input reads as it did. -/
def latticeTakingsSpec : ChangeSpec := { name := "latticeTakings", fn := fun _ => fun
  | [d1, d2, d3] => { results := [.lit (.bool true)], args := [d1, d2, d3] }
  | _ => none }
def latticeTakingsRow : OpenClaim := { program := "ytihcbmkjfacooaa", sum := "5c6df7f21bf5b3477370f9cdafef7331715bbfb078ce5bd668a30b8f1a37779c", func := "umpirage/umpiragelaw5.LatticeTakings", spec := "latticeTakings", unfollowed := true, recurses := true, apart := false }
def LatticeTakingsSaid : Prop := latticeTakingsRow.holds Try.pinned (OpenSpec.ofChange latticeTakingsSpec)

/-- ITS FALSE NEIGHBOUR: 'it returns false'. Refute it at one input. -/
def latticeTakingsWrong : ChangeSpec := { name := "latticeTakings", fn := fun _ => fun
  | [d1, d2, d3] => { results := [.lit (.bool false)], args := [d1, d2, d3] }
  | _ => none }
def LatticeTakingsWrongFalsely : Prop := latticeTakingsRow.holds Try.pinned (OpenSpec.ofChange latticeTakingsWrong)

/-- 'umpiragelaw5.FarkasSound': WHATEVER THE INPUT: true; the input reads as it did. -/
def farkasSoundSpec : ChangeSpec := { name := "farkasSound", fn := fun _ => fun
  | [d1, d2, d3, d4] => { results := [.lit (.bool true)], args := [d1, d2, d3, d4] }
  | _ => none }
def farkasSoundRow : OpenClaim := { program := "ytihcbmkjfacooaa", sum := "5c6df7f21bf5b3477370f9cdafef7331715bbfb078ce5bd668a30b8f1a37779c", func := "umpirage/umpiragelaw5.FarkasSound", spec := "farkasSound", unfollowed := true, recurses := true, apart := false }
def FarkasSoundSaid : Prop := farkasSoundRow.holds Try.pinned (OpenSpec.ofChange farkasSoundSpec)

/-- ITS FALSE NEIGHBOUR: 'it returns false'. Refute it at one input. -/
def farkasSoundWrong : ChangeSpec := { name := "farkasSound", fn := fun _ => fun
  | [d1, d2, d3, d4] => { results := [.lit (.bool false)], args := [d1, d2, d3, d4] }
  | _ => none }
def FarkasSoundWrongFalsely : Prop := farkasSoundRow.holds Try.pinned (OpenSpec.ofChange farkasSoundWrong)

/-- 'umpiragelaw5.FarkasScale': WHATEVER THE INPUT: true; the input reads as it did. -/
def farkasScaleSpec : ChangeSpec := { name := "farkasScale", fn := fun _ => fun
  | [d1, d2, d3, d4] => { results := [.lit (.bool true)], args := [d1, d2, d3, d4] }
  | _ => none }
def farkasScaleRow : OpenClaim := { program := "ytihcbmkjfacooaa", sum := "5c6df7f21bf5b3477370f9cdafef7331715bbfb078ce5bd668a30b8f1a37779c", func := "umpirage/umpiragelaw5.FarkasScale", spec := "farkasScale", unfollowed := true, recurses := true, apart := false }
def FarkasScaleSaid : Prop := farkasScaleRow.holds Try.pinned (OpenSpec.ofChange farkasScaleSpec)

/-- ITS FALSE NEIGHBOUR: 'it returns false'. Refute it at one input. -/
def farkasScaleWrong : ChangeSpec := { name := "farkasScale", fn := fun _ => fun
  | [d1, d2, d3, d4] => { results := [.lit (.bool false)], args := [d1, d2, d3, d4] }
  | _ => none }
def FarkasScaleWrongFalsely : Prop := farkasScaleRow.holds Try.pinned (OpenSpec.ofChange farkasScaleWrong)

/-- 'umpiragelaw5.RowSays': WHATEVER THE INPUT: true; the input reads as it did. -/
def rowSaysSpec : ChangeSpec := { name := "rowSays", fn := fun _ => fun
  | [d1, d2, d3] => { results := [.lit (.bool true)], args := [d1, d2, d3] }
  | _ => none }
def rowSaysRow : OpenClaim := { program := "ytihcbmkjfacooaa", sum := "5c6df7f21bf5b3477370f9cdafef7331715bbfb078ce5bd668a30b8f1a37779c", func := "umpirage/umpiragelaw5.RowSays", spec := "rowSays", apart := false }
def RowSaysSaid : Prop := rowSaysRow.holds Try.pinned (OpenSpec.ofChange rowSaysSpec)

/-- ITS FALSE NEIGHBOUR: 'it returns false'. Refute it at one input. -/
def rowSaysWrong : ChangeSpec := { name := "rowSays", fn := fun _ => fun
  | [d1, d2, d3] => { results := [.lit (.bool false)], args := [d1, d2, d3] }
  | _ => none }
def RowSaysWrongFalsely : Prop := rowSaysRow.holds Try.pinned (OpenSpec.ofChange rowSaysWrong)

/-- 'umpiragelaw5.FarkasSays': WHATEVER THE INPUT: true; the input reads as it did. -/
def farkasSaysSpec : ChangeSpec := { name := "farkasSays", fn := fun _ => fun
  | [d1, d2, d3] => { results := [.lit (.bool true)], args := [d1, d2, d3] }
  | _ => none }
def farkasSaysRow : OpenClaim := { program := "ytihcbmkjfacooaa", sum := "5c6df7f21bf5b3477370f9cdafef7331715bbfb078ce5bd668a30b8f1a37779c", func := "umpirage/umpiragelaw5.FarkasSays", spec := "farkasSays", unfollowed := true, recurses := true, apart := false }
def FarkasSaysSaid : Prop := farkasSaysRow.holds Try.pinned (OpenSpec.ofChange farkasSaysSpec)

/-- ITS FALSE NEIGHBOUR: 'it returns false'. Refute it at one input. -/
def farkasSaysWrong : ChangeSpec := { name := "farkasSays", fn := fun _ => fun
  | [d1, d2, d3] => { results := [.lit (.bool false)], args := [d1, d2, d3] }
  | _ => none }
def FarkasSaysWrongFalsely : Prop := farkasSaysRow.holds Try.pinned (OpenSpec.ofChange farkasSaysWrong)

/-- 'umpiragelaw5.RowSame': WHATEVER THE INPUT: true; the input reads as it did. -/
def rowSameSpec : ChangeSpec := { name := "rowSame", fn := fun _ => fun
  | [d1, d2] => { results := [.lit (.bool true)], args := [d1, d2] }
  | _ => none }
def rowSameRow : OpenClaim := { program := "ytihcbmkjfacooaa", sum := "5c6df7f21bf5b3477370f9cdafef7331715bbfb078ce5bd668a30b8f1a37779c", func := "umpirage/umpiragelaw5.RowSame", spec := "rowSame", unfollowed := true, recurses := true, apart := false }
def RowSameSaid : Prop := rowSameRow.holds Try.pinned (OpenSpec.ofChange rowSameSpec)

/-- ITS FALSE NEIGHBOUR: 'it returns false'. Refute it at one input. -/
def rowSameWrong : ChangeSpec := { name := "rowSame", fn := fun _ => fun
  | [d1, d2] => { results := [.lit (.bool false)], args := [d1, d2] }
  | _ => none }
def RowSameWrongFalsely : Prop := rowSameRow.holds Try.pinned (OpenSpec.ofChange rowSameWrong)

/-- 'umpiragelaw5.RowTimes': WHATEVER THE INPUT: true; the input reads as it did. -/
def rowTimesSpec : ChangeSpec := { name := "rowTimes", fn := fun _ => fun
  | [d1, d2] => { results := [.lit (.bool true)], args := [d1, d2] }
  | _ => none }
def rowTimesRow : OpenClaim := { program := "ytihcbmkjfacooaa", sum := "5c6df7f21bf5b3477370f9cdafef7331715bbfb078ce5bd668a30b8f1a37779c", func := "umpirage/umpiragelaw5.RowTimes", spec := "rowTimes", unfollowed := true, recurses := true, apart := false }
def RowTimesSaid : Prop := rowTimesRow.holds Try.pinned (OpenSpec.ofChange rowTimesSpec)

/-- ITS FALSE NEIGHBOUR: 'it returns false'. Refute it at one input. -/
def rowTimesWrong : ChangeSpec := { name := "rowTimes", fn := fun _ => fun
  | [d1, d2] => { results := [.lit (.bool false)], args := [d1, d2] }
  | _ => none }
def RowTimesWrongFalsely : Prop := rowTimesRow.holds Try.pinned (OpenSpec.ofChange rowTimesWrong)

/-- 'umpiragelaw5.RowWholes': WHATEVER THE INPUT: true; the input reads as it did. -/
def rowWholesSpec : ChangeSpec := { name := "rowWholes", fn := fun _ => fun
  | [d1, d2] => { results := [.lit (.bool true)], args := [d1, d2] }
  | _ => none }
def rowWholesRow : OpenClaim := { program := "ytihcbmkjfacooaa", sum := "5c6df7f21bf5b3477370f9cdafef7331715bbfb078ce5bd668a30b8f1a37779c", func := "umpirage/umpiragelaw5.RowWholes", spec := "rowWholes", unfollowed := true, recurses := true, apart := false }
def RowWholesSaid : Prop := rowWholesRow.holds Try.pinned (OpenSpec.ofChange rowWholesSpec)

/-- ITS FALSE NEIGHBOUR: 'it returns false'. Refute it at one input. -/
def rowWholesWrong : ChangeSpec := { name := "rowWholes", fn := fun _ => fun
  | [d1, d2] => { results := [.lit (.bool false)], args := [d1, d2] }
  | _ => none }
def RowWholesWrongFalsely : Prop := rowWholesRow.holds Try.pinned (OpenSpec.ofChange rowWholesWrong)

/-- 'umpiragelaw5.RowPlus': WHATEVER THE INPUT: true; the input reads as it did. -/
def rowPlusSpec : ChangeSpec := { name := "rowPlus", fn := fun _ => fun
  | [d1, d2, d3] => { results := [.lit (.bool true)], args := [d1, d2, d3] }
  | _ => none }
def rowPlusRow : OpenClaim := { program := "ytihcbmkjfacooaa", sum := "5c6df7f21bf5b3477370f9cdafef7331715bbfb078ce5bd668a30b8f1a37779c", func := "umpirage/umpiragelaw5.RowPlus", spec := "rowPlus", unfollowed := true, recurses := true, apart := false }
def RowPlusSaid : Prop := rowPlusRow.holds Try.pinned (OpenSpec.ofChange rowPlusSpec)

/-- ITS FALSE NEIGHBOUR: 'it returns false'. Refute it at one input. -/
def rowPlusWrong : ChangeSpec := { name := "rowPlus", fn := fun _ => fun
  | [d1, d2, d3] => { results := [.lit (.bool false)], args := [d1, d2, d3] }
  | _ => none }
def RowPlusWrongFalsely : Prop := rowPlusRow.holds Try.pinned (OpenSpec.ofChange rowPlusWrong)

/-- 'umpiragelaw5.RowNot': WHATEVER THE INPUT: true; the input reads as it did. -/
def rowNotSpec : ChangeSpec := { name := "rowNot", fn := fun _ => fun
  | [d1, d2] => { results := [.lit (.bool true)], args := [d1, d2] }
  | _ => none }
def rowNotRow : OpenClaim := { program := "ytihcbmkjfacooaa", sum := "5c6df7f21bf5b3477370f9cdafef7331715bbfb078ce5bd668a30b8f1a37779c", func := "umpirage/umpiragelaw5.RowNot", spec := "rowNot", unfollowed := true, recurses := true, apart := false }
def RowNotSaid : Prop := rowNotRow.holds Try.pinned (OpenSpec.ofChange rowNotSpec)

/-- ITS FALSE NEIGHBOUR: 'it returns false'. Refute it at one input. -/
def rowNotWrong : ChangeSpec := { name := "rowNot", fn := fun _ => fun
  | [d1, d2] => { results := [.lit (.bool false)], args := [d1, d2] }
  | _ => none }
def RowNotWrongFalsely : Prop := rowNotRow.holds Try.pinned (OpenSpec.ofChange rowNotWrong)

/-- 'umpiragelaw5.RowValue': WHATEVER THE INPUT: true; the input reads as it did. -/
def rowValueSpec : ChangeSpec := { name := "rowValue", fn := fun _ => fun
  | [d1, d2, d3] => { results := [.lit (.bool true)], args := [d1, d2, d3] }
  | _ => none }
def rowValueRow : OpenClaim := { program := "ytihcbmkjfacooaa", sum := "5c6df7f21bf5b3477370f9cdafef7331715bbfb078ce5bd668a30b8f1a37779c", func := "umpirage/umpiragelaw5.RowValue", spec := "rowValue", unfollowed := true, recurses := true, apart := false }
def RowValueSaid : Prop := rowValueRow.holds Try.pinned (OpenSpec.ofChange rowValueSpec)

/-- ITS FALSE NEIGHBOUR: 'it returns false'. Refute it at one input. -/
def rowValueWrong : ChangeSpec := { name := "rowValue", fn := fun _ => fun
  | [d1, d2, d3] => { results := [.lit (.bool false)], args := [d1, d2, d3] }
  | _ => none }
def RowValueWrongFalsely : Prop := rowValueRow.holds Try.pinned (OpenSpec.ofChange rowValueWrong)

/- THE SECOND FORM. 'bulk': how many values and letters a reading holds, each counted each time it is reached (what is shared counts as often as it is met; a slice's spare places count too). A statement '..UptoSaid' is the law's where the arguments, and the package variables that the reading takes, are together of bulk at most 1048576: NARROWER than '..Said'. Prove '..Said' where nothing that the law and all that it calls make is longer than what came in: it says more and counts as full. Else prove '..UptoSaid'. A law counts once. -/
mutual
def uptoBulk {H : Type} : DataW H → Nat
  | .lit (.string bytes) => bytes.length + 1
  | .lit _ => 1
  | .nil => 1
  | .ptr d => uptoBulk d + 1
  | .slice elems spare => uptoBulkAll elems + uptoBulkAll spare + 1
  | .agg parts => uptoBulkAll parts + 1
  | .iface _ d => uptoBulk d + 1
  | .map entries => uptoBulkEntries entries + 1
  | .held _ => 1
def uptoBulkAll {H : Type} : List (DataW H) → Nat
  | [] => 0
  | d :: r => uptoBulk d + uptoBulkAll r
def uptoBulkEntries {H : Type} : List (Lit × DataW H) → Nat
  | [] => 0
  | x :: r => uptoBulkEntry x + uptoBulkEntries r
def uptoBulkEntry {H : Type} : Lit × DataW H → Nat
  | (.string bytes, d) => bytes.length + uptoBulk d + 1
  | (_, d) => uptoBulk d + 1
 end
def uptoSmall : (H : Type) → List (DataW H) → Bool := fun _ ds => decide (uptoBulkAll ds ≤ 1048576)
def OpenSpec.upto (s : _root_.Go.ChangeSpec) : _root_.Go.OpenSpec := { _root_.Go.OpenSpec.ofChange s with cond := some uptoSmall }

/-- 'umpiragelaw5.RowForms', WHERE WHAT IT READS IS OF BULK AT MOST 1048576: true; the input reads as it did. -/
def rowFormsUptoRow : OpenClaim := { program := "ytihcbmkjfacooaa", sum := "5c6df7f21bf5b3477370f9cdafef7331715bbfb078ce5bd668a30b8f1a37779c", func := "umpirage/umpiragelaw5.RowForms", spec := "rowForms", unfollowed := true, recurses := true, apart := false, narrowed := true }
def RowFormsUptoSaid : Prop := rowFormsUptoRow.holds Try.pinned (OpenSpec.upto rowFormsSpec)

/-- 'umpiragelaw5.SimplexPivots', WHERE WHAT IT READS IS OF BULK AT MOST 1048576: true; the input reads as it did. -/
def simplexPivotsUptoRow : OpenClaim := { program := "ytihcbmkjfacooaa", sum := "5c6df7f21bf5b3477370f9cdafef7331715bbfb078ce5bd668a30b8f1a37779c", func := "umpirage/umpiragelaw5.SimplexPivots", spec := "simplexPivots", apart := false, narrowed := true }
def SimplexPivotsUptoSaid : Prop := simplexPivotsUptoRow.holds Try.pinned (OpenSpec.upto simplexPivotsSpec)

/-- 'umpiragelaw5.LatticeTakings', WHERE WHAT IT READS IS OF BULK AT MOST 1048576: true; the input reads as it did. -/
def latticeTakingsUptoRow : OpenClaim := { program := "ytihcbmkjfacooaa", sum := "5c6df7f21bf5b3477370f9cdafef7331715bbfb078ce5bd668a30b8f1a37779c", func := "umpirage/umpiragelaw5.LatticeTakings", spec := "latticeTakings", unfollowed := true, recurses := true, apart := false, narrowed := true }
def LatticeTakingsUptoSaid : Prop := latticeTakingsUptoRow.holds Try.pinned (OpenSpec.upto latticeTakingsSpec)

/-- 'umpiragelaw5.FarkasSound', WHERE WHAT IT READS IS OF BULK AT MOST 1048576: true; the input reads as it did. -/
def farkasSoundUptoRow : OpenClaim := { program := "ytihcbmkjfacooaa", sum := "5c6df7f21bf5b3477370f9cdafef7331715bbfb078ce5bd668a30b8f1a37779c", func := "umpirage/umpiragelaw5.FarkasSound", spec := "farkasSound", unfollowed := true, recurses := true, apart := false, narrowed := true }
def FarkasSoundUptoSaid : Prop := farkasSoundUptoRow.holds Try.pinned (OpenSpec.upto farkasSoundSpec)

/-- 'umpiragelaw5.FarkasScale', WHERE WHAT IT READS IS OF BULK AT MOST 1048576: true; the input reads as it did. -/
def farkasScaleUptoRow : OpenClaim := { program := "ytihcbmkjfacooaa", sum := "5c6df7f21bf5b3477370f9cdafef7331715bbfb078ce5bd668a30b8f1a37779c", func := "umpirage/umpiragelaw5.FarkasScale", spec := "farkasScale", unfollowed := true, recurses := true, apart := false, narrowed := true }
def FarkasScaleUptoSaid : Prop := farkasScaleUptoRow.holds Try.pinned (OpenSpec.upto farkasScaleSpec)

/-- 'umpiragelaw5.RowSays', WHERE WHAT IT READS IS OF BULK AT MOST 1048576: true; the input reads as it did. -/
def rowSaysUptoRow : OpenClaim := { program := "ytihcbmkjfacooaa", sum := "5c6df7f21bf5b3477370f9cdafef7331715bbfb078ce5bd668a30b8f1a37779c", func := "umpirage/umpiragelaw5.RowSays", spec := "rowSays", apart := false, narrowed := true }
def RowSaysUptoSaid : Prop := rowSaysUptoRow.holds Try.pinned (OpenSpec.upto rowSaysSpec)

/-- 'umpiragelaw5.FarkasSays', WHERE WHAT IT READS IS OF BULK AT MOST 1048576: true; the input reads as it did. -/
def farkasSaysUptoRow : OpenClaim := { program := "ytihcbmkjfacooaa", sum := "5c6df7f21bf5b3477370f9cdafef7331715bbfb078ce5bd668a30b8f1a37779c", func := "umpirage/umpiragelaw5.FarkasSays", spec := "farkasSays", unfollowed := true, recurses := true, apart := false, narrowed := true }
def FarkasSaysUptoSaid : Prop := farkasSaysUptoRow.holds Try.pinned (OpenSpec.upto farkasSaysSpec)

/-- 'umpiragelaw5.RowSame', WHERE WHAT IT READS IS OF BULK AT MOST 1048576: true; the input reads as it did. -/
def rowSameUptoRow : OpenClaim := { program := "ytihcbmkjfacooaa", sum := "5c6df7f21bf5b3477370f9cdafef7331715bbfb078ce5bd668a30b8f1a37779c", func := "umpirage/umpiragelaw5.RowSame", spec := "rowSame", unfollowed := true, recurses := true, apart := false, narrowed := true }
def RowSameUptoSaid : Prop := rowSameUptoRow.holds Try.pinned (OpenSpec.upto rowSameSpec)

/-- 'umpiragelaw5.RowTimes', WHERE WHAT IT READS IS OF BULK AT MOST 1048576: true; the input reads as it did. -/
def rowTimesUptoRow : OpenClaim := { program := "ytihcbmkjfacooaa", sum := "5c6df7f21bf5b3477370f9cdafef7331715bbfb078ce5bd668a30b8f1a37779c", func := "umpirage/umpiragelaw5.RowTimes", spec := "rowTimes", unfollowed := true, recurses := true, apart := false, narrowed := true }
def RowTimesUptoSaid : Prop := rowTimesUptoRow.holds Try.pinned (OpenSpec.upto rowTimesSpec)

/-- 'umpiragelaw5.RowWholes', WHERE WHAT IT READS IS OF BULK AT MOST 1048576: true; the input reads as it did. -/
def rowWholesUptoRow : OpenClaim := { program := "ytihcbmkjfacooaa", sum := "5c6df7f21bf5b3477370f9cdafef7331715bbfb078ce5bd668a30b8f1a37779c", func := "umpirage/umpiragelaw5.RowWholes", spec := "rowWholes", unfollowed := true, recurses := true, apart := false, narrowed := true }
def RowWholesUptoSaid : Prop := rowWholesUptoRow.holds Try.pinned (OpenSpec.upto rowWholesSpec)

/-- 'umpiragelaw5.RowPlus', WHERE WHAT IT READS IS OF BULK AT MOST 1048576: true; the input reads as it did. -/
def rowPlusUptoRow : OpenClaim := { program := "ytihcbmkjfacooaa", sum := "5c6df7f21bf5b3477370f9cdafef7331715bbfb078ce5bd668a30b8f1a37779c", func := "umpirage/umpiragelaw5.RowPlus", spec := "rowPlus", unfollowed := true, recurses := true, apart := false, narrowed := true }
def RowPlusUptoSaid : Prop := rowPlusUptoRow.holds Try.pinned (OpenSpec.upto rowPlusSpec)

/-- 'umpiragelaw5.RowNot', WHERE WHAT IT READS IS OF BULK AT MOST 1048576: true; the input reads as it did. -/
def rowNotUptoRow : OpenClaim := { program := "ytihcbmkjfacooaa", sum := "5c6df7f21bf5b3477370f9cdafef7331715bbfb078ce5bd668a30b8f1a37779c", func := "umpirage/umpiragelaw5.RowNot", spec := "rowNot", unfollowed := true, recurses := true, apart := false, narrowed := true }
def RowNotUptoSaid : Prop := rowNotUptoRow.holds Try.pinned (OpenSpec.upto rowNotSpec)

/-- 'umpiragelaw5.RowValue', WHERE WHAT IT READS IS OF BULK AT MOST 1048576: true; the input reads as it did. -/
def rowValueUptoRow : OpenClaim := { program := "ytihcbmkjfacooaa", sum := "5c6df7f21bf5b3477370f9cdafef7331715bbfb078ce5bd668a30b8f1a37779c", func := "umpirage/umpiragelaw5.RowValue", spec := "rowValue", unfollowed := true, recurses := true, apart := false, narrowed := true }
def RowValueUptoSaid : Prop := rowValueUptoRow.holds Try.pinned (OpenSpec.upto rowValueSpec)

end Rows
end Go.Proofs.Ytihcbmkjfacooaa
