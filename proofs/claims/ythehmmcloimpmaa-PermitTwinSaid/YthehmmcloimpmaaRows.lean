/-
  No cell of these rows narrows 'for every input' (looked for: loops, veiled, ifaces, maps, wideKeys, modest, calm, conditions, laid).
  DERIVED. THE GIVEN ROWS OF THIS SEAT. 12 by the template 'for every input the law returns true; each argument reads behind the call as it read before'; 0 by the template 'total and deterministic' (their statements: YthehmmcloimpmaaTotals.lean).
  GIVEN WITH THE SEED: the statements are not yours to turn. If you find one false, say at which input.
  Laid BY PROGRAM, IN A SANDBOX (cutbox-rows.mjs): the forced cells as the released guide's own fill.sh prints them over the translation 5da91ec5e27efb00… (all of the seat's roots in one cut). By AI agents, Wed Nov 11 2026. No macro, syntax, notation, axiom, sorry.
-/
import Derived.Test.YthehmmcloimpmaaChecked
import GoSem.Claim
import GoSem.ClaimJoined
import GoSem.ClaimMapViews
import Derived.JoinedTies
import Derived.KernelRfl
namespace Go.Proofs.Ythehmmcloimpmaa
/- THE CELL 'sum', in the pinned program and in every row, IS THE sha256 OF THE DUMP (.gsa) THAT YthehmmcloimpmaaProg.lean LOADS. Nothing in Lean hashes anything: it is a label: what it is worth is what the hold of that sum in a sandbox is worth. -/
noncomputable def Try.pinned : Pinned := { name := "ythehmmcloimpmaa", sum := "5da91ec5e27efb00f63a2ab5fbc0ba17f12fea54a25f40ee14ed59300ba2f06f", checked := Try.checked }
namespace Rows
def none {H : Type} : Left H := { results := [], args := [] }

/-- 'tholelaw02.ClockParts': WHATEVER THE INPUT: true; the input reads as it did. -/
def clockPartsSpec : ChangeSpec := { name := "clockParts", fn := fun _ => fun
  | [d1, d2] => { results := [.lit (.bool true)], args := [d1, d2] }
  | _ => none }
def clockPartsRow : OpenClaim := { program := "ythehmmcloimpmaa", sum := "5da91ec5e27efb00f63a2ab5fbc0ba17f12fea54a25f40ee14ed59300ba2f06f", func := "thole/tholelaw02.ClockParts", spec := "clockParts", apart := false }
def ClockPartsSaid : Prop := clockPartsRow.holds Try.pinned (OpenSpec.ofChange clockPartsSpec)

/-- ITS FALSE NEIGHBOUR: 'it returns false'. Refute it at one input. -/
def clockPartsWrong : ChangeSpec := { name := "clockParts", fn := fun _ => fun
  | [d1, d2] => { results := [.lit (.bool false)], args := [d1, d2] }
  | _ => none }
def ClockPartsWrongFalsely : Prop := clockPartsRow.holds Try.pinned (OpenSpec.ofChange clockPartsWrong)

/-- 'tholelaw02.ClockDues': WHATEVER THE INPUT: true; the input reads as it did. -/
def clockDuesSpec : ChangeSpec := { name := "clockDues", fn := fun _ => fun
  | [d1, d2] => { results := [.lit (.bool true)], args := [d1, d2] }
  | _ => none }
def clockDuesRow : OpenClaim := { program := "ythehmmcloimpmaa", sum := "5da91ec5e27efb00f63a2ab5fbc0ba17f12fea54a25f40ee14ed59300ba2f06f", func := "thole/tholelaw02.ClockDues", spec := "clockDues", apart := false }
def ClockDuesSaid : Prop := clockDuesRow.holds Try.pinned (OpenSpec.ofChange clockDuesSpec)

/-- ITS FALSE NEIGHBOUR: 'it returns false'. Refute it at one input. -/
def clockDuesWrong : ChangeSpec := { name := "clockDues", fn := fun _ => fun
  | [d1, d2] => { results := [.lit (.bool false)], args := [d1, d2] }
  | _ => none }
def ClockDuesWrongFalsely : Prop := clockDuesRow.holds Try.pinned (OpenSpec.ofChange clockDuesWrong)

/-- 'tholelaw02.ClockAdds': WHATEVER THE INPUT: true; the input reads as it did. -/
def clockAddsSpec : ChangeSpec := { name := "clockAdds", fn := fun _ => fun
  | [d1, d2] => { results := [.lit (.bool true)], args := [d1, d2] }
  | _ => none }
def clockAddsRow : OpenClaim := { program := "ythehmmcloimpmaa", sum := "5da91ec5e27efb00f63a2ab5fbc0ba17f12fea54a25f40ee14ed59300ba2f06f", func := "thole/tholelaw02.ClockAdds", spec := "clockAdds", apart := false }
def ClockAddsSaid : Prop := clockAddsRow.holds Try.pinned (OpenSpec.ofChange clockAddsSpec)

/-- ITS FALSE NEIGHBOUR: 'it returns false'. Refute it at one input. -/
def clockAddsWrong : ChangeSpec := { name := "clockAdds", fn := fun _ => fun
  | [d1, d2] => { results := [.lit (.bool false)], args := [d1, d2] }
  | _ => none }
def ClockAddsWrongFalsely : Prop := clockAddsRow.holds Try.pinned (OpenSpec.ofChange clockAddsWrong)

/-- 'tholelaw02.ClockOn': WHATEVER THE INPUT: true; the input reads as it did. -/
def clockOnSpec : ChangeSpec := { name := "clockOn", fn := fun _ => fun
  | [d1, d2, d3, d4] => { results := [.lit (.bool true)], args := [d1, d2, d3, d4] }
  | _ => none }
def clockOnRow : OpenClaim := { program := "ythehmmcloimpmaa", sum := "5da91ec5e27efb00f63a2ab5fbc0ba17f12fea54a25f40ee14ed59300ba2f06f", func := "thole/tholelaw02.ClockOn", spec := "clockOn", apart := false }
def ClockOnSaid : Prop := clockOnRow.holds Try.pinned (OpenSpec.ofChange clockOnSpec)

/-- ITS FALSE NEIGHBOUR: 'it returns false'. Refute it at one input. -/
def clockOnWrong : ChangeSpec := { name := "clockOn", fn := fun _ => fun
  | [d1, d2, d3, d4] => { results := [.lit (.bool false)], args := [d1, d2, d3, d4] }
  | _ => none }
def ClockOnWrongFalsely : Prop := clockOnRow.holds Try.pinned (OpenSpec.ofChange clockOnWrong)

/-- 'tholelaw01.CellNew': WHATEVER THE INPUT: true; the input reads as it did. -/
def cellNewSpec : ChangeSpec := { name := "cellNew", fn := fun _ => fun
  | [d] => { results := [.lit (.bool true)], args := [d] }
  | _ => none }
def cellNewRow : OpenClaim := { program := "ythehmmcloimpmaa", sum := "5da91ec5e27efb00f63a2ab5fbc0ba17f12fea54a25f40ee14ed59300ba2f06f", func := "thole/tholelaw01.CellNew", spec := "cellNew", apart := false }
def CellNewSaid : Prop := cellNewRow.holds Try.pinned (OpenSpec.ofChange cellNewSpec)

/-- ITS FALSE NEIGHBOUR: 'it returns false'. Refute it at one input. -/
def cellNewWrong : ChangeSpec := { name := "cellNew", fn := fun _ => fun
  | [d] => { results := [.lit (.bool false)], args := [d] }
  | _ => none }
def CellNewWrongFalsely : Prop := cellNewRow.holds Try.pinned (OpenSpec.ofChange cellNewWrong)

/-- 'tholelaw01.CellPlays': WHATEVER THE INPUT: true; the input reads as it did. -/
def cellPlaysSpec : ChangeSpec := { name := "cellPlays", fn := fun _ => fun
  | [d1, d2] => { results := [.lit (.bool true)], args := [d1, d2] }
  | _ => none }
def cellPlaysRow : OpenClaim := { program := "ythehmmcloimpmaa", sum := "5da91ec5e27efb00f63a2ab5fbc0ba17f12fea54a25f40ee14ed59300ba2f06f", func := "thole/tholelaw01.CellPlays", spec := "cellPlays", apart := false }
def CellPlaysSaid : Prop := cellPlaysRow.holds Try.pinned (OpenSpec.ofChange cellPlaysSpec)

/-- ITS FALSE NEIGHBOUR: 'it returns false'. Refute it at one input. -/
def cellPlaysWrong : ChangeSpec := { name := "cellPlays", fn := fun _ => fun
  | [d1, d2] => { results := [.lit (.bool false)], args := [d1, d2] }
  | _ => none }
def CellPlaysWrongFalsely : Prop := cellPlaysRow.holds Try.pinned (OpenSpec.ofChange cellPlaysWrong)

/-- 'tholelaw01.CellNews': WHATEVER THE INPUT: true; the input reads as it did. -/
def cellNewsSpec : ChangeSpec := { name := "cellNews", fn := fun _ => fun
  | [d1, d2, d3] => { results := [.lit (.bool true)], args := [d1, d2, d3] }
  | _ => none }
def cellNewsRow : OpenClaim := { program := "ythehmmcloimpmaa", sum := "5da91ec5e27efb00f63a2ab5fbc0ba17f12fea54a25f40ee14ed59300ba2f06f", func := "thole/tholelaw01.CellNews", spec := "cellNews", apart := false }
def CellNewsSaid : Prop := cellNewsRow.holds Try.pinned (OpenSpec.ofChange cellNewsSpec)

/-- ITS FALSE NEIGHBOUR: 'it returns false'. Refute it at one input. -/
def cellNewsWrong : ChangeSpec := { name := "cellNews", fn := fun _ => fun
  | [d1, d2, d3] => { results := [.lit (.bool false)], args := [d1, d2, d3] }
  | _ => none }
def CellNewsWrongFalsely : Prop := cellNewsRow.holds Try.pinned (OpenSpec.ofChange cellNewsWrong)

/-- 'tholelaw03.PermitNext': WHATEVER THE INPUT: true; the input reads as it did. -/
def permitNextSpec : ChangeSpec := { name := "permitNext", fn := fun _ => fun
  | [d1, d2] => { results := [.lit (.bool true)], args := [d1, d2] }
  | _ => none }
def permitNextRow : OpenClaim := { program := "ythehmmcloimpmaa", sum := "5da91ec5e27efb00f63a2ab5fbc0ba17f12fea54a25f40ee14ed59300ba2f06f", func := "thole/tholelaw03.PermitNext", spec := "permitNext", apart := false }
def PermitNextSaid : Prop := permitNextRow.holds Try.pinned (OpenSpec.ofChange permitNextSpec)

/-- ITS FALSE NEIGHBOUR: 'it returns false'. Refute it at one input. -/
def permitNextWrong : ChangeSpec := { name := "permitNext", fn := fun _ => fun
  | [d1, d2] => { results := [.lit (.bool false)], args := [d1, d2] }
  | _ => none }
def PermitNextWrongFalsely : Prop := permitNextRow.holds Try.pinned (OpenSpec.ofChange permitNextWrong)

/-- 'tholelaw01.CellKeeps': WHATEVER THE INPUT: true; the input reads as it did. -/
def cellKeepsSpec : ChangeSpec := { name := "cellKeeps", fn := fun _ => fun
  | [d1, d2, d3, d4] => { results := [.lit (.bool true)], args := [d1, d2, d3, d4] }
  | _ => none }
def cellKeepsRow : OpenClaim := { program := "ythehmmcloimpmaa", sum := "5da91ec5e27efb00f63a2ab5fbc0ba17f12fea54a25f40ee14ed59300ba2f06f", func := "thole/tholelaw01.CellKeeps", spec := "cellKeeps", apart := false }
def CellKeepsSaid : Prop := cellKeepsRow.holds Try.pinned (OpenSpec.ofChange cellKeepsSpec)

/-- ITS FALSE NEIGHBOUR: 'it returns false'. Refute it at one input. -/
def cellKeepsWrong : ChangeSpec := { name := "cellKeeps", fn := fun _ => fun
  | [d1, d2, d3, d4] => { results := [.lit (.bool false)], args := [d1, d2, d3, d4] }
  | _ => none }
def CellKeepsWrongFalsely : Prop := cellKeepsRow.holds Try.pinned (OpenSpec.ofChange cellKeepsWrong)

/-- 'tholelaw01.CellTwin': WHATEVER THE INPUT: true; the input reads as it did. -/
def cellTwinSpec : ChangeSpec := { name := "cellTwin", fn := fun _ => fun
  | [d1, d2, d3] => { results := [.lit (.bool true)], args := [d1, d2, d3] }
  | _ => none }
def cellTwinRow : OpenClaim := { program := "ythehmmcloimpmaa", sum := "5da91ec5e27efb00f63a2ab5fbc0ba17f12fea54a25f40ee14ed59300ba2f06f", func := "thole/tholelaw01.CellTwin", spec := "cellTwin", apart := false }
def CellTwinSaid : Prop := cellTwinRow.holds Try.pinned (OpenSpec.ofChange cellTwinSpec)

/-- ITS FALSE NEIGHBOUR: 'it returns false'. Refute it at one input. -/
def cellTwinWrong : ChangeSpec := { name := "cellTwin", fn := fun _ => fun
  | [d1, d2, d3] => { results := [.lit (.bool false)], args := [d1, d2, d3] }
  | _ => none }
def CellTwinWrongFalsely : Prop := cellTwinRow.holds Try.pinned (OpenSpec.ofChange cellTwinWrong)

/-- 'tholelaw03.PermitBlocked': WHATEVER THE INPUT: true; the input reads as it did. -/
def permitBlockedSpec : ChangeSpec := { name := "permitBlocked", fn := fun _ => fun
  | [d1, d2] => { results := [.lit (.bool true)], args := [d1, d2] }
  | _ => none }
def permitBlockedRow : OpenClaim := { program := "ythehmmcloimpmaa", sum := "5da91ec5e27efb00f63a2ab5fbc0ba17f12fea54a25f40ee14ed59300ba2f06f", func := "thole/tholelaw03.PermitBlocked", spec := "permitBlocked", apart := false }
def PermitBlockedSaid : Prop := permitBlockedRow.holds Try.pinned (OpenSpec.ofChange permitBlockedSpec)

/-- ITS FALSE NEIGHBOUR: 'it returns false'. Refute it at one input. -/
def permitBlockedWrong : ChangeSpec := { name := "permitBlocked", fn := fun _ => fun
  | [d1, d2] => { results := [.lit (.bool false)], args := [d1, d2] }
  | _ => none }
def PermitBlockedWrongFalsely : Prop := permitBlockedRow.holds Try.pinned (OpenSpec.ofChange permitBlockedWrong)

/-- 'tholelaw03.PermitTwin': WHATEVER THE INPUT: true; the input reads as it did. -/
def permitTwinSpec : ChangeSpec := { name := "permitTwin", fn := fun _ => fun
  | [d1, d2, d3] => { results := [.lit (.bool true)], args := [d1, d2, d3] }
  | _ => none }
def permitTwinRow : OpenClaim := { program := "ythehmmcloimpmaa", sum := "5da91ec5e27efb00f63a2ab5fbc0ba17f12fea54a25f40ee14ed59300ba2f06f", func := "thole/tholelaw03.PermitTwin", spec := "permitTwin", apart := false }
def PermitTwinSaid : Prop := permitTwinRow.holds Try.pinned (OpenSpec.ofChange permitTwinSpec)

/-- ITS FALSE NEIGHBOUR: 'it returns false'. Refute it at one input. -/
def permitTwinWrong : ChangeSpec := { name := "permitTwin", fn := fun _ => fun
  | [d1, d2, d3] => { results := [.lit (.bool false)], args := [d1, d2, d3] }
  | _ => none }
def PermitTwinWrongFalsely : Prop := permitTwinRow.holds Try.pinned (OpenSpec.ofChange permitTwinWrong)

/- THE SECOND FORM. 'bulk': how many values and letters a reading holds, each counted each time it is reached (what is shared counts as often as it is met; a slice's spare places count too). A statement '..UptoSaid' is the law's where the arguments, and the package variables that the reading takes, are together of bulk at most 1048576: NARROWER than '..Said'. Prove '..Said' where nothing that the law and all that it calls make is longer than what came in: it says more and counts as full. Else prove '..UptoSaid'. A law counts once. -/
mutual
def uptoBulk {H : Type} : DataW H → Nat
  | .lit (.string bytes) => bytes.length + 1
  | .lit _ => 1
  | .nil => 1
  | .ptr d => uptoBulk d + 1
  | .slice elems spare => uptoBulkAll elems + uptoBulkAll spare + 1
  | .agg parts => uptoBulkAll parts + 1
  | .iface _ d => uptoBulk d + 1
  | .map entries => uptoBulkEntries entries + 1
  | .held _ => 1
def uptoBulkAll {H : Type} : List (DataW H) → Nat
  | [] => 0
  | d :: r => uptoBulk d + uptoBulkAll r
def uptoBulkEntries {H : Type} : List (Lit × DataW H) → Nat
  | [] => 0
  | x :: r => uptoBulkEntry x + uptoBulkEntries r
def uptoBulkEntry {H : Type} : Lit × DataW H → Nat
  | (.string bytes, d) => bytes.length + uptoBulk d + 1
  | (_, d) => uptoBulk d + 1
 end
def uptoSmall : (H : Type) → List (DataW H) → Bool := fun _ ds => decide (uptoBulkAll ds ≤ 1048576)
def OpenSpec.upto (s : _root_.Go.ChangeSpec) : _root_.Go.OpenSpec := { _root_.Go.OpenSpec.ofChange s with cond := some uptoSmall }

/-- 'tholelaw02.ClockParts', WHERE WHAT IT READS IS OF BULK AT MOST 1048576: true; the input reads as it did. -/
def clockPartsUptoRow : OpenClaim := { program := "ythehmmcloimpmaa", sum := "5da91ec5e27efb00f63a2ab5fbc0ba17f12fea54a25f40ee14ed59300ba2f06f", func := "thole/tholelaw02.ClockParts", spec := "clockParts", apart := false, narrowed := true }
def ClockPartsUptoSaid : Prop := clockPartsUptoRow.holds Try.pinned (OpenSpec.upto clockPartsSpec)

/-- 'tholelaw02.ClockDues', WHERE WHAT IT READS IS OF BULK AT MOST 1048576: true; the input reads as it did. -/
def clockDuesUptoRow : OpenClaim := { program := "ythehmmcloimpmaa", sum := "5da91ec5e27efb00f63a2ab5fbc0ba17f12fea54a25f40ee14ed59300ba2f06f", func := "thole/tholelaw02.ClockDues", spec := "clockDues", apart := false, narrowed := true }
def ClockDuesUptoSaid : Prop := clockDuesUptoRow.holds Try.pinned (OpenSpec.upto clockDuesSpec)

/-- 'tholelaw02.ClockAdds', WHERE WHAT IT READS IS OF BULK AT MOST 1048576: true; the input reads as it did. -/
def clockAddsUptoRow : OpenClaim := { program := "ythehmmcloimpmaa", sum := "5da91ec5e27efb00f63a2ab5fbc0ba17f12fea54a25f40ee14ed59300ba2f06f", func := "thole/tholelaw02.ClockAdds", spec := "clockAdds", apart := false, narrowed := true }
def ClockAddsUptoSaid : Prop := clockAddsUptoRow.holds Try.pinned (OpenSpec.upto clockAddsSpec)

/-- 'tholelaw02.ClockOn', WHERE WHAT IT READS IS OF BULK AT MOST 1048576: true; the input reads as it did. -/
def clockOnUptoRow : OpenClaim := { program := "ythehmmcloimpmaa", sum := "5da91ec5e27efb00f63a2ab5fbc0ba17f12fea54a25f40ee14ed59300ba2f06f", func := "thole/tholelaw02.ClockOn", spec := "clockOn", apart := false, narrowed := true }
def ClockOnUptoSaid : Prop := clockOnUptoRow.holds Try.pinned (OpenSpec.upto clockOnSpec)

/-- 'tholelaw01.CellNew', WHERE WHAT IT READS IS OF BULK AT MOST 1048576: true; the input reads as it did. -/
def cellNewUptoRow : OpenClaim := { program := "ythehmmcloimpmaa", sum := "5da91ec5e27efb00f63a2ab5fbc0ba17f12fea54a25f40ee14ed59300ba2f06f", func := "thole/tholelaw01.CellNew", spec := "cellNew", apart := false, narrowed := true }
def CellNewUptoSaid : Prop := cellNewUptoRow.holds Try.pinned (OpenSpec.upto cellNewSpec)

/-- 'tholelaw01.CellPlays', WHERE WHAT IT READS IS OF BULK AT MOST 1048576: true; the input reads as it did. -/
def cellPlaysUptoRow : OpenClaim := { program := "ythehmmcloimpmaa", sum := "5da91ec5e27efb00f63a2ab5fbc0ba17f12fea54a25f40ee14ed59300ba2f06f", func := "thole/tholelaw01.CellPlays", spec := "cellPlays", apart := false, narrowed := true }
def CellPlaysUptoSaid : Prop := cellPlaysUptoRow.holds Try.pinned (OpenSpec.upto cellPlaysSpec)

/-- 'tholelaw01.CellNews', WHERE WHAT IT READS IS OF BULK AT MOST 1048576: true; the input reads as it did. -/
def cellNewsUptoRow : OpenClaim := { program := "ythehmmcloimpmaa", sum := "5da91ec5e27efb00f63a2ab5fbc0ba17f12fea54a25f40ee14ed59300ba2f06f", func := "thole/tholelaw01.CellNews", spec := "cellNews", apart := false, narrowed := true }
def CellNewsUptoSaid : Prop := cellNewsUptoRow.holds Try.pinned (OpenSpec.upto cellNewsSpec)

/-- 'tholelaw03.PermitNext', WHERE WHAT IT READS IS OF BULK AT MOST 1048576: true; the input reads as it did. -/
def permitNextUptoRow : OpenClaim := { program := "ythehmmcloimpmaa", sum := "5da91ec5e27efb00f63a2ab5fbc0ba17f12fea54a25f40ee14ed59300ba2f06f", func := "thole/tholelaw03.PermitNext", spec := "permitNext", apart := false, narrowed := true }
def PermitNextUptoSaid : Prop := permitNextUptoRow.holds Try.pinned (OpenSpec.upto permitNextSpec)

/-- 'tholelaw01.CellKeeps', WHERE WHAT IT READS IS OF BULK AT MOST 1048576: true; the input reads as it did. -/
def cellKeepsUptoRow : OpenClaim := { program := "ythehmmcloimpmaa", sum := "5da91ec5e27efb00f63a2ab5fbc0ba17f12fea54a25f40ee14ed59300ba2f06f", func := "thole/tholelaw01.CellKeeps", spec := "cellKeeps", apart := false, narrowed := true }
def CellKeepsUptoSaid : Prop := cellKeepsUptoRow.holds Try.pinned (OpenSpec.upto cellKeepsSpec)

/-- 'tholelaw01.CellTwin', WHERE WHAT IT READS IS OF BULK AT MOST 1048576: true; the input reads as it did. -/
def cellTwinUptoRow : OpenClaim := { program := "ythehmmcloimpmaa", sum := "5da91ec5e27efb00f63a2ab5fbc0ba17f12fea54a25f40ee14ed59300ba2f06f", func := "thole/tholelaw01.CellTwin", spec := "cellTwin", apart := false, narrowed := true }
def CellTwinUptoSaid : Prop := cellTwinUptoRow.holds Try.pinned (OpenSpec.upto cellTwinSpec)

/-- 'tholelaw03.PermitBlocked', WHERE WHAT IT READS IS OF BULK AT MOST 1048576: true; the input reads as it did. -/
def permitBlockedUptoRow : OpenClaim := { program := "ythehmmcloimpmaa", sum := "5da91ec5e27efb00f63a2ab5fbc0ba17f12fea54a25f40ee14ed59300ba2f06f", func := "thole/tholelaw03.PermitBlocked", spec := "permitBlocked", apart := false, narrowed := true }
def PermitBlockedUptoSaid : Prop := permitBlockedUptoRow.holds Try.pinned (OpenSpec.upto permitBlockedSpec)

/-- 'tholelaw03.PermitTwin', WHERE WHAT IT READS IS OF BULK AT MOST 1048576: true; the input reads as it did. -/
def permitTwinUptoRow : OpenClaim := { program := "ythehmmcloimpmaa", sum := "5da91ec5e27efb00f63a2ab5fbc0ba17f12fea54a25f40ee14ed59300ba2f06f", func := "thole/tholelaw03.PermitTwin", spec := "permitTwin", apart := false, narrowed := true }
def PermitTwinUptoSaid : Prop := permitTwinUptoRow.holds Try.pinned (OpenSpec.upto permitTwinSpec)

end Rows
end Go.Proofs.Ythehmmcloimpmaa
