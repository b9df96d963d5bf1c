/-
  No cell of these rows narrows 'for every input' (looked for: loops, veiled, ifaces, maps, wideKeys, modest, calm, conditions, laid).
  DERIVED. THE GIVEN ROWS OF THIS SEAT. 5 by the template 'for every input the law returns true; each argument reads behind the call as it read before'; 0 by the template 'total and deterministic' (their statements: YtaiffmebphhdaaaGreatTotals.lean).
  GIVEN WITH THE SEED: the statements are not yours to turn. If you find one false, say at which input.
  Laid BY PROGRAM, IN A SANDBOX (cutbox-rows.mjs): the forced cells as the released guide's own fill.sh prints them over the translation 76ba33ff66db135c… (all of the seat's roots in one cut). By AI agents, Wed Nov 11 2026. No macro, syntax, notation, axiom, sorry.
-/
import Derived.Test.YtaiffmebphhdaaaGreatChecked
import GoSem.Claim
import GoSem.ClaimJoined
import GoSem.ClaimMapViews
import Derived.JoinedTies
import Derived.KernelRfl
namespace Go.Proofs.YtaiffmebphhdaaaGreat
/- THE CELL 'sum', in the pinned program and in every row, IS THE sha256 OF THE DUMP (.gsa) THAT YtaiffmebphhdaaaGreatProg.lean LOADS. Nothing in Lean hashes anything: it is a label: what it is worth is what the hold of that sum in a sandbox is worth. -/
noncomputable def Tryz.pinned : Pinned := { name := "ytaiffmebphhdaaagreat", sum := "76ba33ff66db135c30f47e9e16d393da84b876d9bcb8a3b00de6481f635d9a77", checked := Tryz.checked }
namespace Rows
def none {H : Type} : Left H := { results := [], args := [] }

/-- 'umpiragelaw5.CutFaults': WHATEVER THE INPUT: true; the input reads as it did. -/
def cutFaultsSpec : ChangeSpec := { name := "cutFaults", fn := fun _ => fun
  | [d1, d2, d3] => { results := [.lit (.bool true)], args := [d1, d2, d3] }
  | _ => none }
def cutFaultsRow : OpenClaim := { program := "ytaiffmebphhdaaagreat", sum := "76ba33ff66db135c30f47e9e16d393da84b876d9bcb8a3b00de6481f635d9a77", func := "umpirage/umpiragelaw5.CutFaults", spec := "cutFaults", unfollowed := true, recurses := true, plainKeys := false, apart := false }
def CutFaultsSaid : Prop := cutFaultsRow.holds Tryz.pinned (OpenSpec.ofChange cutFaultsSpec)

/-- ITS FALSE NEIGHBOUR: 'it returns false'. Refute it at one input. -/
def cutFaultsWrong : ChangeSpec := { name := "cutFaults", fn := fun _ => fun
  | [d1, d2, d3] => { results := [.lit (.bool false)], args := [d1, d2, d3] }
  | _ => none }
def CutFaultsWrongFalsely : Prop := cutFaultsRow.holds Tryz.pinned (OpenSpec.ofChange cutFaultsWrong)

/-- 'umpiragelaw5.CutTrue': WHATEVER THE INPUT: true; the input reads as it did. -/
def cutTrueSpec : ChangeSpec := { name := "cutTrue", fn := fun _ => fun
  | [d1, d2, d3] => { results := [.lit (.bool true)], args := [d1, d2, d3] }
  | _ => none }
def cutTrueRow : OpenClaim := { program := "ytaiffmebphhdaaagreat", sum := "76ba33ff66db135c30f47e9e16d393da84b876d9bcb8a3b00de6481f635d9a77", func := "umpirage/umpiragelaw5.CutTrue", spec := "cutTrue", unfollowed := true, recurses := true, plainKeys := false, apart := false }
def CutTrueSaid : Prop := cutTrueRow.holds Tryz.pinned (OpenSpec.ofChange cutTrueSpec)

/-- ITS FALSE NEIGHBOUR: 'it returns false'. Refute it at one input. -/
def cutTrueWrong : ChangeSpec := { name := "cutTrue", fn := fun _ => fun
  | [d1, d2, d3] => { results := [.lit (.bool false)], args := [d1, d2, d3] }
  | _ => none }
def CutTrueWrongFalsely : Prop := cutTrueRow.holds Tryz.pinned (OpenSpec.ofChange cutTrueWrong)

/-- 'umpiragelaw5.CutSure': WHATEVER THE INPUT: true; the input reads as it did. -/
def cutSureSpec : ChangeSpec := { name := "cutSure", fn := fun _ => fun
  | [d1, d2] => { results := [.lit (.bool true)], args := [d1, d2] }
  | _ => none }
def cutSureRow : OpenClaim := { program := "ytaiffmebphhdaaagreat", sum := "76ba33ff66db135c30f47e9e16d393da84b876d9bcb8a3b00de6481f635d9a77", func := "umpirage/umpiragelaw5.CutSure", spec := "cutSure", unfollowed := true, recurses := true, plainKeys := false, apart := false }
def CutSureSaid : Prop := cutSureRow.holds Tryz.pinned (OpenSpec.ofChange cutSureSpec)

/-- ITS FALSE NEIGHBOUR: 'it returns false'. Refute it at one input. -/
def cutSureWrong : ChangeSpec := { name := "cutSure", fn := fun _ => fun
  | [d1, d2] => { results := [.lit (.bool false)], args := [d1, d2] }
  | _ => none }
def CutSureWrongFalsely : Prop := cutSureRow.holds Tryz.pinned (OpenSpec.ofChange cutSureWrong)

/-- 'umpiragelaw5.CutMore': WHATEVER THE INPUT: true; the input reads as it did. -/
def cutMoreSpec : ChangeSpec := { name := "cutMore", fn := fun _ => fun
  | [d1, d2, d3] => { results := [.lit (.bool true)], args := [d1, d2, d3] }
  | _ => none }
def cutMoreRow : OpenClaim := { program := "ytaiffmebphhdaaagreat", sum := "76ba33ff66db135c30f47e9e16d393da84b876d9bcb8a3b00de6481f635d9a77", func := "umpirage/umpiragelaw5.CutMore", spec := "cutMore", unfollowed := true, recurses := true, plainKeys := false, apart := false }
def CutMoreSaid : Prop := cutMoreRow.holds Tryz.pinned (OpenSpec.ofChange cutMoreSpec)

/-- ITS FALSE NEIGHBOUR: 'it returns false'. Refute it at one input. -/
def cutMoreWrong : ChangeSpec := { name := "cutMore", fn := fun _ => fun
  | [d1, d2, d3] => { results := [.lit (.bool false)], args := [d1, d2, d3] }
  | _ => none }
def CutMoreWrongFalsely : Prop := cutMoreRow.holds Tryz.pinned (OpenSpec.ofChange cutMoreWrong)

/-- 'umpiragelaw5.CutNone': WHATEVER THE INPUT: true; the input reads as it did. -/
def cutNoneSpec : ChangeSpec := { name := "cutNone", fn := fun _ => fun
  | [d1, d2] => { results := [.lit (.bool true)], args := [d1, d2] }
  | _ => none }
def cutNoneRow : OpenClaim := { program := "ytaiffmebphhdaaagreat", sum := "76ba33ff66db135c30f47e9e16d393da84b876d9bcb8a3b00de6481f635d9a77", func := "umpirage/umpiragelaw5.CutNone", spec := "cutNone", unfollowed := true, recurses := true, plainKeys := false, apart := false }
def CutNoneSaid : Prop := cutNoneRow.holds Tryz.pinned (OpenSpec.ofChange cutNoneSpec)

/-- ITS FALSE NEIGHBOUR: 'it returns false'. Refute it at one input. -/
def cutNoneWrong : ChangeSpec := { name := "cutNone", fn := fun _ => fun
  | [d1, d2] => { results := [.lit (.bool false)], args := [d1, d2] }
  | _ => none }
def CutNoneWrongFalsely : Prop := cutNoneRow.holds Tryz.pinned (OpenSpec.ofChange cutNoneWrong)

/- THE SECOND FORM. 'bulk': how many values and letters a reading holds, each counted each time it is reached (what is shared counts as often as it is met; a slice's spare places count too). A statement '..UptoSaid' is the law's where the arguments, and the package variables that the reading takes, are together of bulk at most 1048576: NARROWER than '..Said'. Prove '..Said' where nothing that the law and all that it calls make is longer than what came in: it says more and counts as full. Else prove '..UptoSaid'. A law counts once. -/
mutual
def uptoBulk {H : Type} : DataW H → Nat
  | .lit (.string bytes) => bytes.length + 1
  | .lit _ => 1
  | .nil => 1
  | .ptr d => uptoBulk d + 1
  | .slice elems spare => uptoBulkAll elems + uptoBulkAll spare + 1
  | .agg parts => uptoBulkAll parts + 1
  | .iface _ d => uptoBulk d + 1
  | .map entries => uptoBulkEntries entries + 1
  | .held _ => 1
def uptoBulkAll {H : Type} : List (DataW H) → Nat
  | [] => 0
  | d :: r => uptoBulk d + uptoBulkAll r
def uptoBulkEntries {H : Type} : List (Lit × DataW H) → Nat
  | [] => 0
  | x :: r => uptoBulkEntry x + uptoBulkEntries r
def uptoBulkEntry {H : Type} : Lit × DataW H → Nat
  | (.string bytes, d) => bytes.length + uptoBulk d + 1
  | (_, d) => uptoBulk d + 1
 end
def uptoSmall : (H : Type) → List (DataW H) → Bool := fun _ ds => decide (uptoBulkAll ds ≤ 1048576)
def OpenSpec.upto (s : _root_.Go.ChangeSpec) : _root_.Go.OpenSpec := { _root_.Go.OpenSpec.ofChange s with cond := some uptoSmall }

/-- 'umpiragelaw5.CutFaults', WHERE WHAT IT READS IS OF BULK AT MOST 1048576: true; the input reads as it did. -/
def cutFaultsUptoRow : OpenClaim := { program := "ytaiffmebphhdaaagreat", sum := "76ba33ff66db135c30f47e9e16d393da84b876d9bcb8a3b00de6481f635d9a77", func := "umpirage/umpiragelaw5.CutFaults", spec := "cutFaults", unfollowed := true, recurses := true, plainKeys := false, apart := false, narrowed := true }
def CutFaultsUptoSaid : Prop := cutFaultsUptoRow.holds Tryz.pinned (OpenSpec.upto cutFaultsSpec)

/-- 'umpiragelaw5.CutTrue', WHERE WHAT IT READS IS OF BULK AT MOST 1048576: true; the input reads as it did. -/
def cutTrueUptoRow : OpenClaim := { program := "ytaiffmebphhdaaagreat", sum := "76ba33ff66db135c30f47e9e16d393da84b876d9bcb8a3b00de6481f635d9a77", func := "umpirage/umpiragelaw5.CutTrue", spec := "cutTrue", unfollowed := true, recurses := true, plainKeys := false, apart := false, narrowed := true }
def CutTrueUptoSaid : Prop := cutTrueUptoRow.holds Tryz.pinned (OpenSpec.upto cutTrueSpec)

/-- 'umpiragelaw5.CutSure', WHERE WHAT IT READS IS OF BULK AT MOST 1048576: true; the input reads as it did. -/
def cutSureUptoRow : OpenClaim := { program := "ytaiffmebphhdaaagreat", sum := "76ba33ff66db135c30f47e9e16d393da84b876d9bcb8a3b00de6481f635d9a77", func := "umpirage/umpiragelaw5.CutSure", spec := "cutSure", unfollowed := true, recurses := true, plainKeys := false, apart := false, narrowed := true }
def CutSureUptoSaid : Prop := cutSureUptoRow.holds Tryz.pinned (OpenSpec.upto cutSureSpec)

/-- 'umpiragelaw5.CutMore', WHERE WHAT IT READS IS OF BULK AT MOST 1048576: true; the input reads as it did. -/
def cutMoreUptoRow : OpenClaim := { program := "ytaiffmebphhdaaagreat", sum := "76ba33ff66db135c30f47e9e16d393da84b876d9bcb8a3b00de6481f635d9a77", func := "umpirage/umpiragelaw5.CutMore", spec := "cutMore", unfollowed := true, recurses := true, plainKeys := false, apart := false, narrowed := true }
def CutMoreUptoSaid : Prop := cutMoreUptoRow.holds Tryz.pinned (OpenSpec.upto cutMoreSpec)

/-- 'umpiragelaw5.CutNone', WHERE WHAT IT READS IS OF BULK AT MOST 1048576: true; the input reads as it did. -/
def cutNoneUptoRow : OpenClaim := { program := "ytaiffmebphhdaaagreat", sum := "76ba33ff66db135c30f47e9e16d393da84b876d9bcb8a3b00de6481f635d9a77", func := "umpirage/umpiragelaw5.CutNone", spec := "cutNone", unfollowed := true, recurses := true, plainKeys := false, apart := false, narrowed := true }
def CutNoneUptoSaid : Prop := cutNoneUptoRow.holds Tryz.pinned (OpenSpec.upto cutNoneSpec)

end Rows
end Go.Proofs.YtaiffmebphhdaaaGreat
