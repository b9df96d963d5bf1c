/-
  No cell of these rows narrows 'for every input' (looked for: loops, veiled, ifaces, maps, wideKeys, modest, calm, conditions, laid).
  DERIVED. THE GIVEN ROWS OF THIS SEAT. 4 by the template 'for every input the law returns true; each argument reads behind the call as it read before'; 0 by the template 'total and deterministic' (their statements: YtamjmcdlddocgaaGreatTotals.lean).
  GIVEN WITH THE SEED: the statements are not yours to turn. If you find one false, say at which input.
  Laid BY PROGRAM, IN A SANDBOX (cutbox-rows.mjs): the forced cells as the released guide's own fill.sh prints them over the translation 045877c14224159c… (all of the seat's roots in one cut). By AI agents, Wed Nov 11 2026. No macro, syntax, notation, axiom, sorry.
-/
import Derived.Test.YtamjmcdlddocgaaGreatChecked
import GoSem.Claim
import GoSem.ClaimJoined
import GoSem.ClaimMapViews
import Derived.JoinedTies
import Derived.KernelRfl
namespace Go.Proofs.YtamjmcdlddocgaaGreat
/- THE CELL 'sum', in the pinned program and in every row, IS THE sha256 OF THE DUMP (.gsa) THAT YtamjmcdlddocgaaGreatProg.lean LOADS. Nothing in Lean hashes anything: it is a label: what it is worth is what the hold of that sum in a sandbox is worth. -/
noncomputable def Tryz.pinned : Pinned := { name := "ytamjmcdlddocgaagreat", sum := "045877c14224159c10e97741c45f100d90824a777454dc7375a86b9352d176d1", checked := Tryz.checked }
namespace Rows
def none {H : Type} : Left H := { results := [], args := [] }

/-- 'umpiragelaw5.SimplexTurn': WHATEVER THE INPUT: true; the input reads as it did. -/
def simplexTurnSpec : ChangeSpec := { name := "simplexTurn", fn := fun _ => fun
  | [d1, d2, d3, d4] => { results := [.lit (.bool true)], args := [d1, d2, d3, d4] }
  | _ => none }
def simplexTurnRow : OpenClaim := { program := "ytamjmcdlddocgaagreat", sum := "045877c14224159c10e97741c45f100d90824a777454dc7375a86b9352d176d1", func := "umpirage/umpiragelaw5.SimplexTurn", spec := "simplexTurn", unfollowed := true, recurses := true, apart := false }
def SimplexTurnSaid : Prop := simplexTurnRow.holds Tryz.pinned (OpenSpec.ofChange simplexTurnSpec)

/-- ITS FALSE NEIGHBOUR: 'it returns false'. Refute it at one input. -/
def simplexTurnWrong : ChangeSpec := { name := "simplexTurn", fn := fun _ => fun
  | [d1, d2, d3, d4] => { results := [.lit (.bool false)], args := [d1, d2, d3, d4] }
  | _ => none }
def SimplexTurnWrongFalsely : Prop := simplexTurnRow.holds Tryz.pinned (OpenSpec.ofChange simplexTurnWrong)

/-- 'umpiragelaw5.SimplexTrue': WHATEVER THE INPUT: true; the input reads as it did. -/
def simplexTrueSpec : ChangeSpec := { name := "simplexTrue", fn := fun _ => fun
  | [d1, d2, d3] => { results := [.lit (.bool true)], args := [d1, d2, d3] }
  | _ => none }
def simplexTrueRow : OpenClaim := { program := "ytamjmcdlddocgaagreat", sum := "045877c14224159c10e97741c45f100d90824a777454dc7375a86b9352d176d1", func := "umpirage/umpiragelaw5.SimplexTrue", spec := "simplexTrue", unfollowed := true, recurses := true, apart := false }
def SimplexTrueSaid : Prop := simplexTrueRow.holds Tryz.pinned (OpenSpec.ofChange simplexTrueSpec)

/-- ITS FALSE NEIGHBOUR: 'it returns false'. Refute it at one input. -/
def simplexTrueWrong : ChangeSpec := { name := "simplexTrue", fn := fun _ => fun
  | [d1, d2, d3] => { results := [.lit (.bool false)], args := [d1, d2, d3] }
  | _ => none }
def SimplexTrueWrongFalsely : Prop := simplexTrueRow.holds Tryz.pinned (OpenSpec.ofChange simplexTrueWrong)

/-- 'umpiragelaw5.SimplexSure': WHATEVER THE INPUT: true; the input reads as it did. -/
def simplexSureSpec : ChangeSpec := { name := "simplexSure", fn := fun _ => fun
  | [d1, d2] => { results := [.lit (.bool true)], args := [d1, d2] }
  | _ => none }
def simplexSureRow : OpenClaim := { program := "ytamjmcdlddocgaagreat", sum := "045877c14224159c10e97741c45f100d90824a777454dc7375a86b9352d176d1", func := "umpirage/umpiragelaw5.SimplexSure", spec := "simplexSure", unfollowed := true, recurses := true, apart := false }
def SimplexSureSaid : Prop := simplexSureRow.holds Tryz.pinned (OpenSpec.ofChange simplexSureSpec)

/-- ITS FALSE NEIGHBOUR: 'it returns false'. Refute it at one input. -/
def simplexSureWrong : ChangeSpec := { name := "simplexSure", fn := fun _ => fun
  | [d1, d2] => { results := [.lit (.bool false)], args := [d1, d2] }
  | _ => none }
def SimplexSureWrongFalsely : Prop := simplexSureRow.holds Tryz.pinned (OpenSpec.ofChange simplexSureWrong)

/-- 'umpiragelaw5.LatticeSound': WHATEVER THE INPUT: true; the input reads as it did. -/
def latticeSoundSpec : ChangeSpec := { name := "latticeSound", fn := fun _ => fun
  | [d1, d2, d3, d4] => { results := [.lit (.bool true)], args := [d1, d2, d3, d4] }
  | _ => none }
def latticeSoundRow : OpenClaim := { program := "ytamjmcdlddocgaagreat", sum := "045877c14224159c10e97741c45f100d90824a777454dc7375a86b9352d176d1", func := "umpirage/umpiragelaw5.LatticeSound", spec := "latticeSound", unfollowed := true, recurses := true, apart := false }
def LatticeSoundSaid : Prop := latticeSoundRow.holds Tryz.pinned (OpenSpec.ofChange latticeSoundSpec)

/-- ITS FALSE NEIGHBOUR: 'it returns false'. Refute it at one input. -/
def latticeSoundWrong : ChangeSpec := { name := "latticeSound", fn := fun _ => fun
  | [d1, d2, d3, d4] => { results := [.lit (.bool false)], args := [d1, d2, d3, d4] }
  | _ => none }
def LatticeSoundWrongFalsely : Prop := latticeSoundRow.holds Tryz.pinned (OpenSpec.ofChange latticeSoundWrong)

/- THE SECOND FORM. 'bulk': how many values and letters a reading holds, each counted each time it is reached (what is shared counts as often as it is met; a slice's spare places count too). A statement '..UptoSaid' is the law's where the arguments, and the package variables that the reading takes, are together of bulk at most 1048576: NARROWER than '..Said'. Prove '..Said' where nothing that the law and all that it calls make is longer than what came in: it says more and counts as full. Else prove '..UptoSaid'. A law counts once. -/
mutual
def uptoBulk {H : Type} : DataW H → Nat
  | .lit (.string bytes) => bytes.length + 1
  | .lit _ => 1
  | .nil => 1
  | .ptr d => uptoBulk d + 1
  | .slice elems spare => uptoBulkAll elems + uptoBulkAll spare + 1
  | .agg parts => uptoBulkAll parts + 1
  | .iface _ d => uptoBulk d + 1
  | .map entries => uptoBulkEntries entries + 1
  | .held _ => 1
def uptoBulkAll {H : Type} : List (DataW H) → Nat
  | [] => 0
  | d :: r => uptoBulk d + uptoBulkAll r
def uptoBulkEntries {H : Type} : List (Lit × DataW H) → Nat
  | [] => 0
  | x :: r => uptoBulkEntry x + uptoBulkEntries r
def uptoBulkEntry {H : Type} : Lit × DataW H → Nat
  | (.string bytes, d) => bytes.length + uptoBulk d + 1
  | (_, d) => uptoBulk d + 1
 end
def uptoSmall : (H : Type) → List (DataW H) → Bool := fun _ ds => decide (uptoBulkAll ds ≤ 1048576)
def OpenSpec.upto (s : _root_.Go.ChangeSpec) : _root_.Go.OpenSpec := { _root_.Go.OpenSpec.ofChange s with cond := some uptoSmall }

/-- 'umpiragelaw5.SimplexTurn', WHERE WHAT IT READS IS OF BULK AT MOST 1048576: true; the input reads as it did. -/
def simplexTurnUptoRow : OpenClaim := { program := "ytamjmcdlddocgaagreat", sum := "045877c14224159c10e97741c45f100d90824a777454dc7375a86b9352d176d1", func := "umpirage/umpiragelaw5.SimplexTurn", spec := "simplexTurn", unfollowed := true, recurses := true, apart := false, narrowed := true }
def SimplexTurnUptoSaid : Prop := simplexTurnUptoRow.holds Tryz.pinned (OpenSpec.upto simplexTurnSpec)

/-- 'umpiragelaw5.SimplexTrue', WHERE WHAT IT READS IS OF BULK AT MOST 1048576: true; the input reads as it did. -/
def simplexTrueUptoRow : OpenClaim := { program := "ytamjmcdlddocgaagreat", sum := "045877c14224159c10e97741c45f100d90824a777454dc7375a86b9352d176d1", func := "umpirage/umpiragelaw5.SimplexTrue", spec := "simplexTrue", unfollowed := true, recurses := true, apart := false, narrowed := true }
def SimplexTrueUptoSaid : Prop := simplexTrueUptoRow.holds Tryz.pinned (OpenSpec.upto simplexTrueSpec)

/-- 'umpiragelaw5.SimplexSure', WHERE WHAT IT READS IS OF BULK AT MOST 1048576: true; the input reads as it did. -/
def simplexSureUptoRow : OpenClaim := { program := "ytamjmcdlddocgaagreat", sum := "045877c14224159c10e97741c45f100d90824a777454dc7375a86b9352d176d1", func := "umpirage/umpiragelaw5.SimplexSure", spec := "simplexSure", unfollowed := true, recurses := true, apart := false, narrowed := true }
def SimplexSureUptoSaid : Prop := simplexSureUptoRow.holds Tryz.pinned (OpenSpec.upto simplexSureSpec)

/-- 'umpiragelaw5.LatticeSound', WHERE WHAT IT READS IS OF BULK AT MOST 1048576: true; the input reads as it did. -/
def latticeSoundUptoRow : OpenClaim := { program := "ytamjmcdlddocgaagreat", sum := "045877c14224159c10e97741c45f100d90824a777454dc7375a86b9352d176d1", func := "umpirage/umpiragelaw5.LatticeSound", spec := "latticeSound", unfollowed := true, recurses := true, apart := false, narrowed := true }
def LatticeSoundUptoSaid : Prop := latticeSoundUptoRow.holds Tryz.pinned (OpenSpec.upto latticeSoundSpec)

end Rows
end Go.Proofs.YtamjmcdlddocgaaGreat
