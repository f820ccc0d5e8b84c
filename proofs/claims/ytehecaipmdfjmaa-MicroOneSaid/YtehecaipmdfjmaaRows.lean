/-
  No cell of these rows narrows 'for every input' (looked for: loops, veiled, ifaces, maps, wideKeys, modest, calm, conditions, laid).
  DERIVED. THE GIVEN ROWS OF THIS SEAT. 4 by the template 'for every input the law returns true; each argument reads behind the call as it read before'; 0 by the template 'total and deterministic' (their statements: YtehecaipmdfjmaaTotals.lean).
  GIVEN WITH THE SEED: the statements are not yours to turn. If you find one false, say at which input.
  Laid BY PROGRAM, IN A SANDBOX (cutbox-rows.mjs): the forced cells as the released guide's own fill.sh prints them over the translation 92b85932b37a4629… (all of the seat's roots in one cut). By AI agents, Wed Nov 11 2026. No macro, syntax, notation, axiom, sorry.
-/
import Derived.Test.YtehecaipmdfjmaaChecked
import GoSem.Claim
import GoSem.ClaimJoined
import GoSem.ClaimMapViews
import Derived.JoinedTies
import Derived.KernelRfl
namespace Go.Proofs.Ytehecaipmdfjmaa
/- THE CELL 'sum', in the pinned program and in every row, IS THE sha256 OF THE DUMP (.gsa) THAT YtehecaipmdfjmaaProg.lean LOADS. Nothing in Lean hashes anything: it is a label: what it is worth is what the hold of that sum in a sandbox is worth. -/
noncomputable def Try.pinned : Pinned := { name := "ytehecaipmdfjmaa", sum := "92b85932b37a4629dec16138268e6f23dc5b7280021193dfddd101f3770d95c2", checked := Try.checked }
namespace Rows
def none {H : Type} : Left H := { results := [], args := [] }

/-- 'tholelaw09.MicroRefuses': WHATEVER THE INPUT: true; the input reads as it did. -/
def microRefusesSpec : ChangeSpec := { name := "microRefuses", fn := fun _ => fun
  | [d1, d2, d3, d4] => { results := [.lit (.bool true)], args := [d1, d2, d3, d4] }
  | _ => none }
def microRefusesRow : OpenClaim := { program := "ytehecaipmdfjmaa", sum := "92b85932b37a4629dec16138268e6f23dc5b7280021193dfddd101f3770d95c2", func := "thole/tholelaw09.MicroRefuses", spec := "microRefuses", unfollowed := true, recurses := true, apart := false }
def MicroRefusesSaid : Prop := microRefusesRow.holds Try.pinned (OpenSpec.ofChange microRefusesSpec)

/-- ITS FALSE NEIGHBOUR: 'it returns false'. Refute it at one input. -/
def microRefusesWrong : ChangeSpec := { name := "microRefuses", fn := fun _ => fun
  | [d1, d2, d3, d4] => { results := [.lit (.bool false)], args := [d1, d2, d3, d4] }
  | _ => none }
def MicroRefusesWrongFalsely : Prop := microRefusesRow.holds Try.pinned (OpenSpec.ofChange microRefusesWrong)

/-- 'tholelaw09.MicroLoads': WHATEVER THE INPUT: true; the input reads as it did. -/
def microLoadsSpec : ChangeSpec := { name := "microLoads", fn := fun _ => fun
  | [d1, d2] => { results := [.lit (.bool true)], args := [d1, d2] }
  | _ => none }
def microLoadsRow : OpenClaim := { program := "ytehecaipmdfjmaa", sum := "92b85932b37a4629dec16138268e6f23dc5b7280021193dfddd101f3770d95c2", func := "thole/tholelaw09.MicroLoads", spec := "microLoads", unfollowed := true, recurses := true, apart := false }
def MicroLoadsSaid : Prop := microLoadsRow.holds Try.pinned (OpenSpec.ofChange microLoadsSpec)

/-- ITS FALSE NEIGHBOUR: 'it returns false'. Refute it at one input. -/
def microLoadsWrong : ChangeSpec := { name := "microLoads", fn := fun _ => fun
  | [d1, d2] => { results := [.lit (.bool false)], args := [d1, d2] }
  | _ => none }
def MicroLoadsWrongFalsely : Prop := microLoadsRow.holds Try.pinned (OpenSpec.ofChange microLoadsWrong)

/-- 'tholelaw09.MicroOne': WHATEVER THE INPUT: true; the input reads as it did. -/
def microOneSpec : ChangeSpec := { name := "microOne", fn := fun _ => fun
  | [d1, d2, d3, d4, d5] => { results := [.lit (.bool true)], args := [d1, d2, d3, d4, d5] }
  | _ => none }
def microOneRow : OpenClaim := { program := "ytehecaipmdfjmaa", sum := "92b85932b37a4629dec16138268e6f23dc5b7280021193dfddd101f3770d95c2", func := "thole/tholelaw09.MicroOne", spec := "microOne", unfollowed := true, recurses := true, apart := false }
def MicroOneSaid : Prop := microOneRow.holds Try.pinned (OpenSpec.ofChange microOneSpec)

/-- ITS FALSE NEIGHBOUR: 'it returns false'. Refute it at one input. -/
def microOneWrong : ChangeSpec := { name := "microOne", fn := fun _ => fun
  | [d1, d2, d3, d4, d5] => { results := [.lit (.bool false)], args := [d1, d2, d3, d4, d5] }
  | _ => none }
def MicroOneWrongFalsely : Prop := microOneRow.holds Try.pinned (OpenSpec.ofChange microOneWrong)

/-- 'tholelaw09.MicroAgain': WHATEVER THE INPUT: true; the input reads as it did. -/
def microAgainSpec : ChangeSpec := { name := "microAgain", fn := fun _ => fun
  | [d1, d2, d3, d4] => { results := [.lit (.bool true)], args := [d1, d2, d3, d4] }
  | _ => none }
def microAgainRow : OpenClaim := { program := "ytehecaipmdfjmaa", sum := "92b85932b37a4629dec16138268e6f23dc5b7280021193dfddd101f3770d95c2", func := "thole/tholelaw09.MicroAgain", spec := "microAgain", unfollowed := true, recurses := true, apart := false }
def MicroAgainSaid : Prop := microAgainRow.holds Try.pinned (OpenSpec.ofChange microAgainSpec)

/-- ITS FALSE NEIGHBOUR: 'it returns false'. Refute it at one input. -/
def microAgainWrong : ChangeSpec := { name := "microAgain", fn := fun _ => fun
  | [d1, d2, d3, d4] => { results := [.lit (.bool false)], args := [d1, d2, d3, d4] }
  | _ => none }
def MicroAgainWrongFalsely : Prop := microAgainRow.holds Try.pinned (OpenSpec.ofChange microAgainWrong)

/- THE SECOND FORM. 'bulk': how many values and letters a reading holds, each counted each time it is reached (what is shared counts as often as it is met; a slice's spare places count too). A statement '..UptoSaid' is the law's where the arguments, and the package variables that the reading takes, are together of bulk at most 1048576: NARROWER than '..Said'. Prove '..Said' where nothing that the law and all that it calls make is longer than what came in: it says more and counts as full. Else prove '..UptoSaid'. A law counts once. -/
mutual
def uptoBulk {H : Type} : DataW H → Nat
  | .lit (.string bytes) => bytes.length + 1
  | .lit _ => 1
  | .nil => 1
  | .ptr d => uptoBulk d + 1
  | .slice elems spare => uptoBulkAll elems + uptoBulkAll spare + 1
  | .agg parts => uptoBulkAll parts + 1
  | .iface _ d => uptoBulk d + 1
  | .map entries => uptoBulkEntries entries + 1
  | .held _ => 1
def uptoBulkAll {H : Type} : List (DataW H) → Nat
  | [] => 0
  | d :: r => uptoBulk d + uptoBulkAll r
def uptoBulkEntries {H : Type} : List (Lit × DataW H) → Nat
  | [] => 0
  | x :: r => uptoBulkEntry x + uptoBulkEntries r
def uptoBulkEntry {H : Type} : Lit × DataW H → Nat
  | (.string bytes, d) => bytes.length + uptoBulk d + 1
  | (_, d) => uptoBulk d + 1
 end
def uptoSmall : (H : Type) → List (DataW H) → Bool := fun _ ds => decide (uptoBulkAll ds ≤ 1048576)
def OpenSpec.upto (s : _root_.Go.ChangeSpec) : _root_.Go.OpenSpec := { _root_.Go.OpenSpec.ofChange s with cond := some uptoSmall }

/-- 'tholelaw09.MicroRefuses', WHERE WHAT IT READS IS OF BULK AT MOST 1048576: true; the input reads as it did. -/
def microRefusesUptoRow : OpenClaim := { program := "ytehecaipmdfjmaa", sum := "92b85932b37a4629dec16138268e6f23dc5b7280021193dfddd101f3770d95c2", func := "thole/tholelaw09.MicroRefuses", spec := "microRefuses", unfollowed := true, recurses := true, apart := false, narrowed := true }
def MicroRefusesUptoSaid : Prop := microRefusesUptoRow.holds Try.pinned (OpenSpec.upto microRefusesSpec)

/-- 'tholelaw09.MicroLoads', WHERE WHAT IT READS IS OF BULK AT MOST 1048576: true; the input reads as it did. -/
def microLoadsUptoRow : OpenClaim := { program := "ytehecaipmdfjmaa", sum := "92b85932b37a4629dec16138268e6f23dc5b7280021193dfddd101f3770d95c2", func := "thole/tholelaw09.MicroLoads", spec := "microLoads", unfollowed := true, recurses := true, apart := false, narrowed := true }
def MicroLoadsUptoSaid : Prop := microLoadsUptoRow.holds Try.pinned (OpenSpec.upto microLoadsSpec)

/-- 'tholelaw09.MicroOne', WHERE WHAT IT READS IS OF BULK AT MOST 1048576: true; the input reads as it did. -/
def microOneUptoRow : OpenClaim := { program := "ytehecaipmdfjmaa", sum := "92b85932b37a4629dec16138268e6f23dc5b7280021193dfddd101f3770d95c2", func := "thole/tholelaw09.MicroOne", spec := "microOne", unfollowed := true, recurses := true, apart := false, narrowed := true }
def MicroOneUptoSaid : Prop := microOneUptoRow.holds Try.pinned (OpenSpec.upto microOneSpec)

/-- 'tholelaw09.MicroAgain', WHERE WHAT IT READS IS OF BULK AT MOST 1048576: true; the input reads as it did. -/
def microAgainUptoRow : OpenClaim := { program := "ytehecaipmdfjmaa", sum := "92b85932b37a4629dec16138268e6f23dc5b7280021193dfddd101f3770d95c2", func := "thole/tholelaw09.MicroAgain", spec := "microAgain", unfollowed := true, recurses := true, apart := false, narrowed := true }
def MicroAgainUptoSaid : Prop := microAgainUptoRow.holds Try.pinned (OpenSpec.upto microAgainSpec)

end Rows
end Go.Proofs.Ytehecaipmdfjmaa
