/-
  No cell of these rows narrows 'for every input' (looked for: loops, veiled, ifaces, maps, wideKeys, modest, calm, conditions, laid).
  DERIVED. THE GIVEN ROWS OF THIS SEAT. 2 by the template 'for every input the law returns true; each argument reads behind the call as it read before'; 0 by the template 'total and deterministic' (their statements: YtmepglhdcphffaaGreatTotals.lean).
  GIVEN WITH THE SEED: the statements are not yours to turn. If you find one false, say at which input.
  Laid BY PROGRAM, IN A SANDBOX (cutbox-rows.mjs): the forced cells as the released guide's own fill.sh prints them over the translation daad78a82e24fa9f… (all of the seat's roots in one cut). By AI agents, Wed Nov 11 2026. No macro, syntax, notation, axiom, sorry.
-/
import Derived.Test.YtmepglhdcphffaaGreatChecked
import GoSem.Claim
import GoSem.ClaimJoined
import GoSem.ClaimMapViews
import Derived.JoinedTies
import Derived.KernelRfl
namespace Go.Proofs.YtmepglhdcphffaaGreat
/- THE CELL 'sum', in the pinned program and in every row, IS THE sha256 OF THE DUMP (.gsa) THAT YtmepglhdcphffaaGreatProg.lean LOADS. Nothing in Lean hashes anything: it is a label: what it is worth is what the hold of that sum in a sandbox is worth. -/
noncomputable def Tryz.pinned : Pinned := { name := "ytmepglhdcphffaagreat", sum := "daad78a82e24fa9f1e8e171a8e12af3fc4359629e6a73ab5de2df4a0fab92baf", checked := Tryz.checked }
namespace Rows
def none {H : Type} : Left H := { results := [], args := [] }

/-- 'umpiragetop.TopGaps': WHATEVER THE INPUT: true; the input reads as it did. -/
def topGapsSpec : ChangeSpec := { name := "topGaps", fn := fun _ => fun
  | [d] => { results := [.lit (.bool true)], args := [d] }
  | _ => none }
def topGapsRow : OpenClaim := { program := "ytmepglhdcphffaagreat", sum := "daad78a82e24fa9f1e8e171a8e12af3fc4359629e6a73ab5de2df4a0fab92baf", func := "umpirage/umpiragetop.TopGaps", spec := "topGaps", unfollowed := true, recurses := true, plainKeys := false, apart := false }
def TopGapsSaid : Prop := topGapsRow.holds Tryz.pinned (OpenSpec.ofChange topGapsSpec)

/-- ITS FALSE NEIGHBOUR: 'it returns false'. Refute it at one input. -/
def topGapsWrong : ChangeSpec := { name := "topGaps", fn := fun _ => fun
  | [d] => { results := [.lit (.bool false)], args := [d] }
  | _ => none }
def TopGapsWrongFalsely : Prop := topGapsRow.holds Tryz.pinned (OpenSpec.ofChange topGapsWrong)

/-- 'umpiragetop.TopRows': WHATEVER THE INPUT: true; the input reads as it did. -/
def topRowsSpec : ChangeSpec := { name := "topRows", fn := fun _ => fun
  | [d] => { results := [.lit (.bool true)], args := [d] }
  | _ => none }
def topRowsRow : OpenClaim := { program := "ytmepglhdcphffaagreat", sum := "daad78a82e24fa9f1e8e171a8e12af3fc4359629e6a73ab5de2df4a0fab92baf", func := "umpirage/umpiragetop.TopRows", spec := "topRows", unfollowed := true, recurses := true, plainKeys := false, apart := false }
def TopRowsSaid : Prop := topRowsRow.holds Tryz.pinned (OpenSpec.ofChange topRowsSpec)

/-- ITS FALSE NEIGHBOUR: 'it returns false'. Refute it at one input. -/
def topRowsWrong : ChangeSpec := { name := "topRows", fn := fun _ => fun
  | [d] => { results := [.lit (.bool false)], args := [d] }
  | _ => none }
def TopRowsWrongFalsely : Prop := topRowsRow.holds Tryz.pinned (OpenSpec.ofChange topRowsWrong)

/- THE SECOND FORM. 'bulk': how many values and letters a reading holds, each counted each time it is reached (what is shared counts as often as it is met; a slice's spare places count too). A statement '..UptoSaid' is the law's where the arguments, and the package variables that the reading takes, are together of bulk at most 1048576: NARROWER than '..Said'. Prove '..Said' where nothing that the law and all that it calls make is longer than what came in: it says more and counts as full. Else prove '..UptoSaid'. A law counts once. -/
mutual
def uptoBulk {H : Type} : DataW H → Nat
  | .lit (.string bytes) => bytes.length + 1
  | .lit _ => 1
  | .nil => 1
  | .ptr d => uptoBulk d + 1
  | .slice elems spare => uptoBulkAll elems + uptoBulkAll spare + 1
  | .agg parts => uptoBulkAll parts + 1
  | .iface _ d => uptoBulk d + 1
  | .map entries => uptoBulkEntries entries + 1
  | .held _ => 1
def uptoBulkAll {H : Type} : List (DataW H) → Nat
  | [] => 0
  | d :: r => uptoBulk d + uptoBulkAll r
def uptoBulkEntries {H : Type} : List (Lit × DataW H) → Nat
  | [] => 0
  | x :: r => uptoBulkEntry x + uptoBulkEntries r
def uptoBulkEntry {H : Type} : Lit × DataW H → Nat
  | (.string bytes, d) => bytes.length + uptoBulk d + 1
  | (_, d) => uptoBulk d + 1
 end
def uptoSmall : (H : Type) → List (DataW H) → Bool := fun _ ds => decide (uptoBulkAll ds ≤ 1048576)
def OpenSpec.upto (s : _root_.Go.ChangeSpec) : _root_.Go.OpenSpec := { _root_.Go.OpenSpec.ofChange s with cond := some uptoSmall }

/-- 'umpiragetop.TopGaps', WHERE WHAT IT READS IS OF BULK AT MOST 1048576: true; the input reads as it did. -/
def topGapsUptoRow : OpenClaim := { program := "ytmepglhdcphffaagreat", sum := "daad78a82e24fa9f1e8e171a8e12af3fc4359629e6a73ab5de2df4a0fab92baf", func := "umpirage/umpiragetop.TopGaps", spec := "topGaps", unfollowed := true, recurses := true, plainKeys := false, apart := false, narrowed := true }
def TopGapsUptoSaid : Prop := topGapsUptoRow.holds Tryz.pinned (OpenSpec.upto topGapsSpec)

/-- 'umpiragetop.TopRows', WHERE WHAT IT READS IS OF BULK AT MOST 1048576: true; the input reads as it did. -/
def topRowsUptoRow : OpenClaim := { program := "ytmepglhdcphffaagreat", sum := "daad78a82e24fa9f1e8e171a8e12af3fc4359629e6a73ab5de2df4a0fab92baf", func := "umpirage/umpiragetop.TopRows", spec := "topRows", unfollowed := true, recurses := true, plainKeys := false, apart := false, narrowed := true }
def TopRowsUptoSaid : Prop := topRowsUptoRow.holds Tryz.pinned (OpenSpec.upto topRowsSpec)

end Rows
end Go.Proofs.YtmepglhdcphffaaGreat
