/-
  No cell of these rows narrows 'for every input' (looked for: loops, veiled, ifaces, maps, wideKeys, modest, calm, conditions, laid).
  DERIVED. THE GIVEN ROWS OF THIS SEAT. 6 by the template 'for every input the law returns true; each argument reads behind the call as it read before'; 0 by the template 'total and deterministic' (their statements: YtnenbngjdekegaaTotals.lean).
  GIVEN WITH THE SEED: the statements are not yours to turn. If you find one false, say at which input.
  Laid BY PROGRAM, IN A SANDBOX (cutbox-rows.mjs): the forced cells as the released guide's own fill.sh prints them over the translation 0cf5aae447006813… (all of the seat's roots in one cut). By AI agents, Wed Nov 11 2026. No macro, syntax, notation, axiom, sorry.
-/
import Derived.Test.YtnenbngjdekegaaChecked
import GoSem.Claim
import GoSem.ClaimJoined
import GoSem.ClaimMapViews
import Derived.JoinedTies
import Derived.KernelRfl
namespace Go.Proofs.Ytnenbngjdekegaa
/- THE CELL 'sum', in the pinned program and in every row, IS THE sha256 OF THE DUMP (.gsa) THAT YtnenbngjdekegaaProg.lean LOADS. Nothing in Lean hashes anything: it is a label: what it is worth is what the hold of that sum in a sandbox is worth. -/
noncomputable def Try.pinned : Pinned := { name := "ytnenbngjdekegaa", sum := "0cf5aae4470068139ba208f73d6c9a1fb47563ab7edec0f2c0a303966774b72f", checked := Try.checked }
namespace Rows
def none {H : Type} : Left H := { results := [], args := [] }

/-- 'tholelaw10.ModelBack': WHATEVER THE INPUT: true; the input reads as it did. -/
def modelBackSpec : ChangeSpec := { name := "modelBack", fn := fun _ => fun
  | [d1, d2, d3] => { results := [.lit (.bool true)], args := [d1, d2, d3] }
  | _ => none }
def modelBackRow : OpenClaim := { program := "ytnenbngjdekegaa", sum := "0cf5aae4470068139ba208f73d6c9a1fb47563ab7edec0f2c0a303966774b72f", func := "thole/tholelaw10.ModelBack", spec := "modelBack", unfollowed := true, recurses := true, apart := false }
def ModelBackSaid : Prop := modelBackRow.holds Try.pinned (OpenSpec.ofChange modelBackSpec)

/-- ITS FALSE NEIGHBOUR: 'it returns false'. Refute it at one input. -/
def modelBackWrong : ChangeSpec := { name := "modelBack", fn := fun _ => fun
  | [d1, d2, d3] => { results := [.lit (.bool false)], args := [d1, d2, d3] }
  | _ => none }
def ModelBackWrongFalsely : Prop := modelBackRow.holds Try.pinned (OpenSpec.ofChange modelBackWrong)

/-- 'tholelaw10.ModelStays': WHATEVER THE INPUT: true; the input reads as it did. -/
def modelStaysSpec : ChangeSpec := { name := "modelStays", fn := fun _ => fun
  | [d1, d2, d3] => { results := [.lit (.bool true)], args := [d1, d2, d3] }
  | _ => none }
def modelStaysRow : OpenClaim := { program := "ytnenbngjdekegaa", sum := "0cf5aae4470068139ba208f73d6c9a1fb47563ab7edec0f2c0a303966774b72f", func := "thole/tholelaw10.ModelStays", spec := "modelStays", unfollowed := true, recurses := true, apart := false }
def ModelStaysSaid : Prop := modelStaysRow.holds Try.pinned (OpenSpec.ofChange modelStaysSpec)

/-- ITS FALSE NEIGHBOUR: 'it returns false'. Refute it at one input. -/
def modelStaysWrong : ChangeSpec := { name := "modelStays", fn := fun _ => fun
  | [d1, d2, d3] => { results := [.lit (.bool false)], args := [d1, d2, d3] }
  | _ => none }
def ModelStaysWrongFalsely : Prop := modelStaysRow.holds Try.pinned (OpenSpec.ofChange modelStaysWrong)

/-- 'tholelaw10.ModelDoes': WHATEVER THE INPUT: true; the input reads as it did. -/
def modelDoesSpec : ChangeSpec := { name := "modelDoes", fn := fun _ => fun
  | [d1, d2, d3, d4, d5] => { results := [.lit (.bool true)], args := [d1, d2, d3, d4, d5] }
  | _ => none }
def modelDoesRow : OpenClaim := { program := "ytnenbngjdekegaa", sum := "0cf5aae4470068139ba208f73d6c9a1fb47563ab7edec0f2c0a303966774b72f", func := "thole/tholelaw10.ModelDoes", spec := "modelDoes", unfollowed := true, recurses := true, apart := false }
def ModelDoesSaid : Prop := modelDoesRow.holds Try.pinned (OpenSpec.ofChange modelDoesSpec)

/-- ITS FALSE NEIGHBOUR: 'it returns false'. Refute it at one input. -/
def modelDoesWrong : ChangeSpec := { name := "modelDoes", fn := fun _ => fun
  | [d1, d2, d3, d4, d5] => { results := [.lit (.bool false)], args := [d1, d2, d3, d4, d5] }
  | _ => none }
def ModelDoesWrongFalsely : Prop := modelDoesRow.holds Try.pinned (OpenSpec.ofChange modelDoesWrong)

/-- 'tholelaw10.ModelCan': WHATEVER THE INPUT: true; the input reads as it did. -/
def modelCanSpec : ChangeSpec := { name := "modelCan", fn := fun _ => fun
  | [d1, d2, d3] => { results := [.lit (.bool true)], args := [d1, d2, d3] }
  | _ => none }
def modelCanRow : OpenClaim := { program := "ytnenbngjdekegaa", sum := "0cf5aae4470068139ba208f73d6c9a1fb47563ab7edec0f2c0a303966774b72f", func := "thole/tholelaw10.ModelCan", spec := "modelCan", unfollowed := true, recurses := true, apart := false }
def ModelCanSaid : Prop := modelCanRow.holds Try.pinned (OpenSpec.ofChange modelCanSpec)

/-- ITS FALSE NEIGHBOUR: 'it returns false'. Refute it at one input. -/
def modelCanWrong : ChangeSpec := { name := "modelCan", fn := fun _ => fun
  | [d1, d2, d3] => { results := [.lit (.bool false)], args := [d1, d2, d3] }
  | _ => none }
def ModelCanWrongFalsely : Prop := modelCanRow.holds Try.pinned (OpenSpec.ofChange modelCanWrong)

/-- 'tholelaw10.ModelHolds': WHATEVER THE INPUT: true; the input reads as it did. -/
def modelHoldsSpec : ChangeSpec := { name := "modelHolds", fn := fun _ => fun
  | [d1, d2] => { results := [.lit (.bool true)], args := [d1, d2] }
  | _ => none }
def modelHoldsRow : OpenClaim := { program := "ytnenbngjdekegaa", sum := "0cf5aae4470068139ba208f73d6c9a1fb47563ab7edec0f2c0a303966774b72f", func := "thole/tholelaw10.ModelHolds", spec := "modelHolds", unfollowed := true, recurses := true, apart := false }
def ModelHoldsSaid : Prop := modelHoldsRow.holds Try.pinned (OpenSpec.ofChange modelHoldsSpec)

/-- ITS FALSE NEIGHBOUR: 'it returns false'. Refute it at one input. -/
def modelHoldsWrong : ChangeSpec := { name := "modelHolds", fn := fun _ => fun
  | [d1, d2] => { results := [.lit (.bool false)], args := [d1, d2] }
  | _ => none }
def ModelHoldsWrongFalsely : Prop := modelHoldsRow.holds Try.pinned (OpenSpec.ofChange modelHoldsWrong)

/-- 'tholelaw10.ModelReads': WHATEVER THE INPUT: true; the input reads as it did. -/
def modelReadsSpec : ChangeSpec := { name := "modelReads", fn := fun _ => fun
  | [d1, d2] => { results := [.lit (.bool true)], args := [d1, d2] }
  | _ => none }
def modelReadsRow : OpenClaim := { program := "ytnenbngjdekegaa", sum := "0cf5aae4470068139ba208f73d6c9a1fb47563ab7edec0f2c0a303966774b72f", func := "thole/tholelaw10.ModelReads", spec := "modelReads", unfollowed := true, recurses := true, apart := false }
def ModelReadsSaid : Prop := modelReadsRow.holds Try.pinned (OpenSpec.ofChange modelReadsSpec)

/-- ITS FALSE NEIGHBOUR: 'it returns false'. Refute it at one input. -/
def modelReadsWrong : ChangeSpec := { name := "modelReads", fn := fun _ => fun
  | [d1, d2] => { results := [.lit (.bool false)], args := [d1, d2] }
  | _ => none }
def ModelReadsWrongFalsely : Prop := modelReadsRow.holds Try.pinned (OpenSpec.ofChange modelReadsWrong)

/- THE SECOND FORM. 'bulk': how many values and letters a reading holds, each counted each time it is reached (what is shared counts as often as it is met; a slice's spare places count too). A statement '..UptoSaid' is the law's where the arguments, and the package variables that the reading takes, are together of bulk at most 1048576: NARROWER than '..Said'. Prove '..Said' where nothing that the law and all that it calls make is longer than what came in: it says more and counts as full. Else prove '..UptoSaid'. A law counts once. -/
mutual
def uptoBulk {H : Type} : DataW H → Nat
  | .lit (.string bytes) => bytes.length + 1
  | .lit _ => 1
  | .nil => 1
  | .ptr d => uptoBulk d + 1
  | .slice elems spare => uptoBulkAll elems + uptoBulkAll spare + 1
  | .agg parts => uptoBulkAll parts + 1
  | .iface _ d => uptoBulk d + 1
  | .map entries => uptoBulkEntries entries + 1
  | .held _ => 1
def uptoBulkAll {H : Type} : List (DataW H) → Nat
  | [] => 0
  | d :: r => uptoBulk d + uptoBulkAll r
def uptoBulkEntries {H : Type} : List (Lit × DataW H) → Nat
  | [] => 0
  | x :: r => uptoBulkEntry x + uptoBulkEntries r
def uptoBulkEntry {H : Type} : Lit × DataW H → Nat
  | (.string bytes, d) => bytes.length + uptoBulk d + 1
  | (_, d) => uptoBulk d + 1
 end
def uptoSmall : (H : Type) → List (DataW H) → Bool := fun _ ds => decide (uptoBulkAll ds ≤ 1048576)
def OpenSpec.upto (s : _root_.Go.ChangeSpec) : _root_.Go.OpenSpec := { _root_.Go.OpenSpec.ofChange s with cond := some uptoSmall }

/-- 'tholelaw10.ModelBack', WHERE WHAT IT READS IS OF BULK AT MOST 1048576: true; the input reads as it did. -/
def modelBackUptoRow : OpenClaim := { program := "ytnenbngjdekegaa", sum := "0cf5aae4470068139ba208f73d6c9a1fb47563ab7edec0f2c0a303966774b72f", func := "thole/tholelaw10.ModelBack", spec := "modelBack", unfollowed := true, recurses := true, apart := false, narrowed := true }
def ModelBackUptoSaid : Prop := modelBackUptoRow.holds Try.pinned (OpenSpec.upto modelBackSpec)

/-- 'tholelaw10.ModelStays', WHERE WHAT IT READS IS OF BULK AT MOST 1048576: true; the input reads as it did. -/
def modelStaysUptoRow : OpenClaim := { program := "ytnenbngjdekegaa", sum := "0cf5aae4470068139ba208f73d6c9a1fb47563ab7edec0f2c0a303966774b72f", func := "thole/tholelaw10.ModelStays", spec := "modelStays", unfollowed := true, recurses := true, apart := false, narrowed := true }
def ModelStaysUptoSaid : Prop := modelStaysUptoRow.holds Try.pinned (OpenSpec.upto modelStaysSpec)

/-- 'tholelaw10.ModelDoes', WHERE WHAT IT READS IS OF BULK AT MOST 1048576: true; the input reads as it did. -/
def modelDoesUptoRow : OpenClaim := { program := "ytnenbngjdekegaa", sum := "0cf5aae4470068139ba208f73d6c9a1fb47563ab7edec0f2c0a303966774b72f", func := "thole/tholelaw10.ModelDoes", spec := "modelDoes", unfollowed := true, recurses := true, apart := false, narrowed := true }
def ModelDoesUptoSaid : Prop := modelDoesUptoRow.holds Try.pinned (OpenSpec.upto modelDoesSpec)

/-- 'tholelaw10.ModelCan', WHERE WHAT IT READS IS OF BULK AT MOST 1048576: true; the input reads as it did. -/
def modelCanUptoRow : OpenClaim := { program := "ytnenbngjdekegaa", sum := "0cf5aae4470068139ba208f73d6c9a1fb47563ab7edec0f2c0a303966774b72f", func := "thole/tholelaw10.ModelCan", spec := "modelCan", unfollowed := true, recurses := true, apart := false, narrowed := true }
def ModelCanUptoSaid : Prop := modelCanUptoRow.holds Try.pinned (OpenSpec.upto modelCanSpec)

/-- 'tholelaw10.ModelHolds', WHERE WHAT IT READS IS OF BULK AT MOST 1048576: true; the input reads as it did. -/
def modelHoldsUptoRow : OpenClaim := { program := "ytnenbngjdekegaa", sum := "0cf5aae4470068139ba208f73d6c9a1fb47563ab7edec0f2c0a303966774b72f", func := "thole/tholelaw10.ModelHolds", spec := "modelHolds", unfollowed := true, recurses := true, apart := false, narrowed := true }
def ModelHoldsUptoSaid : Prop := modelHoldsUptoRow.holds Try.pinned (OpenSpec.upto modelHoldsSpec)

/-- 'tholelaw10.ModelReads', WHERE WHAT IT READS IS OF BULK AT MOST 1048576: true; the input reads as it did. -/
def modelReadsUptoRow : OpenClaim := { program := "ytnenbngjdekegaa", sum := "0cf5aae4470068139ba208f73d6c9a1fb47563ab7edec0f2c0a303966774b72f", func := "thole/tholelaw10.ModelReads", spec := "modelReads", unfollowed := true, recurses := true, apart := false, narrowed := true }
def ModelReadsUptoSaid : Prop := modelReadsUptoRow.holds Try.pinned (OpenSpec.upto modelReadsSpec)

end Rows
end Go.Proofs.Ytnenbngjdekegaa
