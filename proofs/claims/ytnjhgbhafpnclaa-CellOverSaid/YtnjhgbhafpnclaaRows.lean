/-
  No cell of these rows narrows 'for every input' (looked for: loops, veiled, ifaces, maps, wideKeys, modest, calm, conditions, laid).
  DERIVED. THE GIVEN ROWS OF THIS SEAT. 5 by the template 'for every input the law returns true; each argument reads behind the call as it read before'; 0 by the template 'total and deterministic' (their statements: YtnjhgbhafpnclaaTotals.lean).
  GIVEN WITH THE SEED: the statements are not yours to turn. If you find one false, say at which input.
  Laid BY PROGRAM, IN A SANDBOX (cutbox-rows.mjs): the forced cells as the released guide's own fill.sh prints them over the translation f23da2c70aa0ac29… (all of the seat's roots in one cut). By AI agents, Wed Nov 11 2026. No macro, syntax, notation, axiom, sorry.
-/
import Derived.Test.YtnjhgbhafpnclaaChecked
import GoSem.Claim
import GoSem.ClaimJoined
import GoSem.ClaimMapViews
import Derived.JoinedTies
import Derived.KernelRfl
namespace Go.Proofs.Ytnjhgbhafpnclaa
/- THE CELL 'sum', in the pinned program and in every row, IS THE sha256 OF THE DUMP (.gsa) THAT YtnjhgbhafpnclaaProg.lean LOADS. Nothing in Lean hashes anything: it is a label: what it is worth is what the hold of that sum in a sandbox is worth. -/
noncomputable def Try.pinned : Pinned := { name := "ytnjhgbhafpnclaa", sum := "f23da2c70aa0ac294cfa548eb9da234265ad99e28c26f46e33e72007a47d5a3f", checked := Try.checked }
namespace Rows
def none {H : Type} : Left H := { results := [], args := [] }

/-- 'rootcellarlaw9.CellFlat': WHATEVER THE INPUT: true; the input reads as it did. -/
def cellFlatSpec : ChangeSpec := { name := "cellFlat", fn := fun _ => fun
  | [d1, d2] => { results := [.lit (.bool true)], args := [d1, d2] }
  | _ => none }
def cellFlatRow : OpenClaim := { program := "ytnjhgbhafpnclaa", sum := "f23da2c70aa0ac294cfa548eb9da234265ad99e28c26f46e33e72007a47d5a3f", func := "rootcellar/rootcellarlaw9.CellFlat", spec := "cellFlat", inPlace := ["slices.overlaps[rootcellar/cell.Cell]", "internal/abi.NoEscape", "internal/bytealg.MakeNoZero"], unfollowed := true, recurses := true, apart := false }
def CellFlatSaid : Prop := cellFlatRow.holds Try.pinned (OpenSpec.ofChange cellFlatSpec)

/-- ITS FALSE NEIGHBOUR: 'it returns false'. Refute it at one input. -/
def cellFlatWrong : ChangeSpec := { name := "cellFlat", fn := fun _ => fun
  | [d1, d2] => { results := [.lit (.bool false)], args := [d1, d2] }
  | _ => none }
def CellFlatWrongFalsely : Prop := cellFlatRow.holds Try.pinned (OpenSpec.ofChange cellFlatWrong)

/-- 'rootcellarlaw9.CellThrough': WHATEVER THE INPUT: true; the input reads as it did. -/
def cellThroughSpec : ChangeSpec := { name := "cellThrough", fn := fun _ => fun
  | [d1, d2, d3, d4] => { results := [.lit (.bool true)], args := [d1, d2, d3, d4] }
  | _ => none }
def cellThroughRow : OpenClaim := { program := "ytnjhgbhafpnclaa", sum := "f23da2c70aa0ac294cfa548eb9da234265ad99e28c26f46e33e72007a47d5a3f", func := "rootcellar/rootcellarlaw9.CellThrough", spec := "cellThrough", inPlace := ["slices.overlaps[rootcellar/cell.Cell]", "internal/abi.NoEscape", "internal/bytealg.MakeNoZero"], unfollowed := true, recurses := true, apart := false }
def CellThroughSaid : Prop := cellThroughRow.holds Try.pinned (OpenSpec.ofChange cellThroughSpec)

/-- ITS FALSE NEIGHBOUR: 'it returns false'. Refute it at one input. -/
def cellThroughWrong : ChangeSpec := { name := "cellThrough", fn := fun _ => fun
  | [d1, d2, d3, d4] => { results := [.lit (.bool false)], args := [d1, d2, d3, d4] }
  | _ => none }
def CellThroughWrongFalsely : Prop := cellThroughRow.holds Try.pinned (OpenSpec.ofChange cellThroughWrong)

/-- 'rootcellarlaw9.CellOver': WHATEVER THE INPUT: true; the input reads as it did. -/
def cellOverSpec : ChangeSpec := { name := "cellOver", fn := fun _ => fun
  | [d1, d2] => { results := [.lit (.bool true)], args := [d1, d2] }
  | _ => none }
def cellOverRow : OpenClaim := { program := "ytnjhgbhafpnclaa", sum := "f23da2c70aa0ac294cfa548eb9da234265ad99e28c26f46e33e72007a47d5a3f", func := "rootcellar/rootcellarlaw9.CellOver", spec := "cellOver", inPlace := ["slices.overlaps[rootcellar/cell.Cell]", "internal/abi.NoEscape", "internal/bytealg.MakeNoZero"], unfollowed := true, recurses := true, apart := false }
def CellOverSaid : Prop := cellOverRow.holds Try.pinned (OpenSpec.ofChange cellOverSpec)

/-- ITS FALSE NEIGHBOUR: 'it returns false'. Refute it at one input. -/
def cellOverWrong : ChangeSpec := { name := "cellOver", fn := fun _ => fun
  | [d1, d2] => { results := [.lit (.bool false)], args := [d1, d2] }
  | _ => none }
def CellOverWrongFalsely : Prop := cellOverRow.holds Try.pinned (OpenSpec.ofChange cellOverWrong)

/-- 'rootcellarlaw9.CellMarks': WHATEVER THE INPUT: true; the input reads as it did. -/
def cellMarksSpec : ChangeSpec := { name := "cellMarks", fn := fun _ => fun
  | [d1, d2, d3] => { results := [.lit (.bool true)], args := [d1, d2, d3] }
  | _ => none }
def cellMarksRow : OpenClaim := { program := "ytnjhgbhafpnclaa", sum := "f23da2c70aa0ac294cfa548eb9da234265ad99e28c26f46e33e72007a47d5a3f", func := "rootcellar/rootcellarlaw9.CellMarks", spec := "cellMarks", inPlace := ["slices.overlaps[rootcellar/cell.Cell]", "internal/abi.NoEscape", "internal/bytealg.MakeNoZero"], unfollowed := true, recurses := true, apart := false }
def CellMarksSaid : Prop := cellMarksRow.holds Try.pinned (OpenSpec.ofChange cellMarksSpec)

/-- ITS FALSE NEIGHBOUR: 'it returns false'. Refute it at one input. -/
def cellMarksWrong : ChangeSpec := { name := "cellMarks", fn := fun _ => fun
  | [d1, d2, d3] => { results := [.lit (.bool false)], args := [d1, d2, d3] }
  | _ => none }
def CellMarksWrongFalsely : Prop := cellMarksRow.holds Try.pinned (OpenSpec.ofChange cellMarksWrong)

/-- 'rootcellarlaw9.CellPut': WHATEVER THE INPUT: true; the input reads as it did. -/
def cellPutSpec : ChangeSpec := { name := "cellPut", fn := fun _ => fun
  | [d1, d2, d3, d4] => { results := [.lit (.bool true)], args := [d1, d2, d3, d4] }
  | _ => none }
def cellPutRow : OpenClaim := { program := "ytnjhgbhafpnclaa", sum := "f23da2c70aa0ac294cfa548eb9da234265ad99e28c26f46e33e72007a47d5a3f", func := "rootcellar/rootcellarlaw9.CellPut", spec := "cellPut", inPlace := ["slices.overlaps[rootcellar/cell.Cell]", "internal/abi.NoEscape", "internal/bytealg.MakeNoZero"], unfollowed := true, recurses := true, apart := false }
def CellPutSaid : Prop := cellPutRow.holds Try.pinned (OpenSpec.ofChange cellPutSpec)

/-- ITS FALSE NEIGHBOUR: 'it returns false'. Refute it at one input. -/
def cellPutWrong : ChangeSpec := { name := "cellPut", fn := fun _ => fun
  | [d1, d2, d3, d4] => { results := [.lit (.bool false)], args := [d1, d2, d3, d4] }
  | _ => none }
def CellPutWrongFalsely : Prop := cellPutRow.holds Try.pinned (OpenSpec.ofChange cellPutWrong)

/- THE SECOND FORM. 'bulk': how many values and letters a reading holds, each counted each time it is reached (what is shared counts as often as it is met; a slice's spare places count too). A statement '..UptoSaid' is the law's where the arguments, and the package variables that the reading takes, are together of bulk at most 1048576: NARROWER than '..Said'. Prove '..Said' where nothing that the law and all that it calls make is longer than what came in: it says more and counts as full. Else prove '..UptoSaid'. A law counts once. -/
mutual
def uptoBulk {H : Type} : DataW H → Nat
  | .lit (.string bytes) => bytes.length + 1
  | .lit _ => 1
  | .nil => 1
  | .ptr d => uptoBulk d + 1
  | .slice elems spare => uptoBulkAll elems + uptoBulkAll spare + 1
  | .agg parts => uptoBulkAll parts + 1
  | .iface _ d => uptoBulk d + 1
  | .map entries => uptoBulkEntries entries + 1
  | .held _ => 1
def uptoBulkAll {H : Type} : List (DataW H) → Nat
  | [] => 0
  | d :: r => uptoBulk d + uptoBulkAll r
def uptoBulkEntries {H : Type} : List (Lit × DataW H) → Nat
  | [] => 0
  | x :: r => uptoBulkEntry x + uptoBulkEntries r
def uptoBulkEntry {H : Type} : Lit × DataW H → Nat
  | (.string bytes, d) => bytes.length + uptoBulk d + 1
  | (_, d) => uptoBulk d + 1
 end
def uptoSmall : (H : Type) → List (DataW H) → Bool := fun _ ds => decide (uptoBulkAll ds ≤ 1048576)
def OpenSpec.upto (s : _root_.Go.ChangeSpec) : _root_.Go.OpenSpec := { _root_.Go.OpenSpec.ofChange s with cond := some uptoSmall }

/-- 'rootcellarlaw9.CellFlat', WHERE WHAT IT READS IS OF BULK AT MOST 1048576: true; the input reads as it did. -/
def cellFlatUptoRow : OpenClaim := { program := "ytnjhgbhafpnclaa", sum := "f23da2c70aa0ac294cfa548eb9da234265ad99e28c26f46e33e72007a47d5a3f", func := "rootcellar/rootcellarlaw9.CellFlat", spec := "cellFlat", inPlace := ["slices.overlaps[rootcellar/cell.Cell]", "internal/abi.NoEscape", "internal/bytealg.MakeNoZero"], unfollowed := true, recurses := true, apart := false, narrowed := true }
def CellFlatUptoSaid : Prop := cellFlatUptoRow.holds Try.pinned (OpenSpec.upto cellFlatSpec)

/-- 'rootcellarlaw9.CellThrough', WHERE WHAT IT READS IS OF BULK AT MOST 1048576: true; the input reads as it did. -/
def cellThroughUptoRow : OpenClaim := { program := "ytnjhgbhafpnclaa", sum := "f23da2c70aa0ac294cfa548eb9da234265ad99e28c26f46e33e72007a47d5a3f", func := "rootcellar/rootcellarlaw9.CellThrough", spec := "cellThrough", inPlace := ["slices.overlaps[rootcellar/cell.Cell]", "internal/abi.NoEscape", "internal/bytealg.MakeNoZero"], unfollowed := true, recurses := true, apart := false, narrowed := true }
def CellThroughUptoSaid : Prop := cellThroughUptoRow.holds Try.pinned (OpenSpec.upto cellThroughSpec)

/-- 'rootcellarlaw9.CellOver', WHERE WHAT IT READS IS OF BULK AT MOST 1048576: true; the input reads as it did. -/
def cellOverUptoRow : OpenClaim := { program := "ytnjhgbhafpnclaa", sum := "f23da2c70aa0ac294cfa548eb9da234265ad99e28c26f46e33e72007a47d5a3f", func := "rootcellar/rootcellarlaw9.CellOver", spec := "cellOver", inPlace := ["slices.overlaps[rootcellar/cell.Cell]", "internal/abi.NoEscape", "internal/bytealg.MakeNoZero"], unfollowed := true, recurses := true, apart := false, narrowed := true }
def CellOverUptoSaid : Prop := cellOverUptoRow.holds Try.pinned (OpenSpec.upto cellOverSpec)

/-- 'rootcellarlaw9.CellMarks', WHERE WHAT IT READS IS OF BULK AT MOST 1048576: true; the input reads as it did. -/
def cellMarksUptoRow : OpenClaim := { program := "ytnjhgbhafpnclaa", sum := "f23da2c70aa0ac294cfa548eb9da234265ad99e28c26f46e33e72007a47d5a3f", func := "rootcellar/rootcellarlaw9.CellMarks", spec := "cellMarks", inPlace := ["slices.overlaps[rootcellar/cell.Cell]", "internal/abi.NoEscape", "internal/bytealg.MakeNoZero"], unfollowed := true, recurses := true, apart := false, narrowed := true }
def CellMarksUptoSaid : Prop := cellMarksUptoRow.holds Try.pinned (OpenSpec.upto cellMarksSpec)

/-- 'rootcellarlaw9.CellPut', WHERE WHAT IT READS IS OF BULK AT MOST 1048576: true; the input reads as it did. -/
def cellPutUptoRow : OpenClaim := { program := "ytnjhgbhafpnclaa", sum := "f23da2c70aa0ac294cfa548eb9da234265ad99e28c26f46e33e72007a47d5a3f", func := "rootcellar/rootcellarlaw9.CellPut", spec := "cellPut", inPlace := ["slices.overlaps[rootcellar/cell.Cell]", "internal/abi.NoEscape", "internal/bytealg.MakeNoZero"], unfollowed := true, recurses := true, apart := false, narrowed := true }
def CellPutUptoSaid : Prop := cellPutUptoRow.holds Try.pinned (OpenSpec.upto cellPutSpec)

end Rows
end Go.Proofs.Ytnjhgbhafpnclaa
