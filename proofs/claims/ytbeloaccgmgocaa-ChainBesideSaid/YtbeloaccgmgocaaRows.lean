/-
  No cell of these rows narrows 'for every input' (looked for: loops, veiled, ifaces, maps, wideKeys, modest, calm, conditions, laid).
  DERIVED. THE GIVEN ROWS OF THIS SEAT. 6 by the template 'for every input the law returns true; each argument reads behind the call as it read before'; 0 by the template 'total and deterministic' (their statements: YtbeloaccgmgocaaTotals.lean).
  GIVEN WITH THE SEED: the statements are not yours to turn. If you find one false, say at which input.
  Laid BY PROGRAM, IN A SANDBOX (cutbox-rows.mjs): the forced cells as the released guide's own fill.sh prints them over the translation 86505427118acb66… (all of the seat's roots in one cut). By AI agents, Wed Nov 11 2026. No macro, syntax, notation, axiom, sorry.
-/
import Derived.Test.YtbeloaccgmgocaaChecked
import GoSem.Claim
import GoSem.ClaimJoined
import GoSem.ClaimMapViews
import Derived.JoinedTies
import Derived.KernelRfl
namespace Go.Proofs.Ytbeloaccgmgocaa
/- THE CELL 'sum', in the pinned program and in every row, IS THE sha256 OF THE DUMP (.gsa) THAT YtbeloaccgmgocaaProg.lean LOADS. Nothing in Lean hashes anything: it is a label: what it is worth is what the hold of that sum in a sandbox is worth. -/
noncomputable def Try.pinned : Pinned := { name := "ytbeloaccgmgocaa", sum := "86505427118acb660e62445ff47b9408553341cd8f5dea7e3e5eb344544ba1a6", checked := Try.checked }
namespace Rows
def none {H : Type} : Left H := { results := [], args := [] }

/-- 'rootcellarlaw11.ChainRings': WHATEVER THE INPUT: true; the input reads as it did. -/
def chainRingsSpec : ChangeSpec := { name := "chainRings", fn := fun _ => fun
  | [d1, d2] => { results := [.lit (.bool true)], args := [d1, d2] }
  | _ => none }
def chainRingsRow : OpenClaim := { program := "ytbeloaccgmgocaa", sum := "86505427118acb660e62445ff47b9408553341cd8f5dea7e3e5eb344544ba1a6", func := "rootcellar/rootcellarlaw11.ChainRings", spec := "chainRings", inPlace := ["internal/abi.NoEscape", "internal/bytealg.MakeNoZero"], unfollowed := true, recurses := true, apart := false }
def ChainRingsSaid : Prop := chainRingsRow.holds Try.pinned (OpenSpec.ofChange chainRingsSpec)

/-- ITS FALSE NEIGHBOUR: 'it returns false'. Refute it at one input. -/
def chainRingsWrong : ChangeSpec := { name := "chainRings", fn := fun _ => fun
  | [d1, d2] => { results := [.lit (.bool false)], args := [d1, d2] }
  | _ => none }
def ChainRingsWrongFalsely : Prop := chainRingsRow.holds Try.pinned (OpenSpec.ofChange chainRingsWrong)

/-- 'rootcellarlaw11.ChainBeside': WHATEVER THE INPUT: true; the input reads as it did. -/
def chainBesideSpec : ChangeSpec := { name := "chainBeside", fn := fun _ => fun
  | [d1, d2, d3, d4] => { results := [.lit (.bool true)], args := [d1, d2, d3, d4] }
  | _ => none }
def chainBesideRow : OpenClaim := { program := "ytbeloaccgmgocaa", sum := "86505427118acb660e62445ff47b9408553341cd8f5dea7e3e5eb344544ba1a6", func := "rootcellar/rootcellarlaw11.ChainBeside", spec := "chainBeside", inPlace := ["slices.overlaps[rootcellar/cell.Cell]", "internal/abi.NoEscape", "internal/bytealg.MakeNoZero"], unfollowed := true, recurses := true, apart := false }
def ChainBesideSaid : Prop := chainBesideRow.holds Try.pinned (OpenSpec.ofChange chainBesideSpec)

/-- ITS FALSE NEIGHBOUR: 'it returns false'. Refute it at one input. -/
def chainBesideWrong : ChangeSpec := { name := "chainBeside", fn := fun _ => fun
  | [d1, d2, d3, d4] => { results := [.lit (.bool false)], args := [d1, d2, d3, d4] }
  | _ => none }
def ChainBesideWrongFalsely : Prop := chainBesideRow.holds Try.pinned (OpenSpec.ofChange chainBesideWrong)

/-- 'rootcellarlaw11.ChainFolds': WHATEVER THE INPUT: true; the input reads as it did. -/
def chainFoldsSpec : ChangeSpec := { name := "chainFolds", fn := fun _ => fun
  | [d1, d2, d3] => { results := [.lit (.bool true)], args := [d1, d2, d3] }
  | _ => none }
def chainFoldsRow : OpenClaim := { program := "ytbeloaccgmgocaa", sum := "86505427118acb660e62445ff47b9408553341cd8f5dea7e3e5eb344544ba1a6", func := "rootcellar/rootcellarlaw11.ChainFolds", spec := "chainFolds", inPlace := ["slices.overlaps[rootcellar/cell.Cell]", "internal/abi.NoEscape", "internal/bytealg.MakeNoZero"], unfollowed := true, recurses := true, apart := false }
def ChainFoldsSaid : Prop := chainFoldsRow.holds Try.pinned (OpenSpec.ofChange chainFoldsSpec)

/-- ITS FALSE NEIGHBOUR: 'it returns false'. Refute it at one input. -/
def chainFoldsWrong : ChangeSpec := { name := "chainFolds", fn := fun _ => fun
  | [d1, d2, d3] => { results := [.lit (.bool false)], args := [d1, d2, d3] }
  | _ => none }
def ChainFoldsWrongFalsely : Prop := chainFoldsRow.holds Try.pinned (OpenSpec.ofChange chainFoldsWrong)

/-- 'rootcellarlaw11.ChainTop': WHATEVER THE INPUT: true; the input reads as it did. -/
def chainTopSpec : ChangeSpec := { name := "chainTop", fn := fun _ => fun
  | [d1, d2, d3, d4] => { results := [.lit (.bool true)], args := [d1, d2, d3, d4] }
  | _ => none }
def chainTopRow : OpenClaim := { program := "ytbeloaccgmgocaa", sum := "86505427118acb660e62445ff47b9408553341cd8f5dea7e3e5eb344544ba1a6", func := "rootcellar/rootcellarlaw11.ChainTop", spec := "chainTop", inPlace := ["slices.overlaps[rootcellar/cell.Cell]", "internal/abi.NoEscape", "internal/bytealg.MakeNoZero"], unfollowed := true, recurses := true, apart := false }
def ChainTopSaid : Prop := chainTopRow.holds Try.pinned (OpenSpec.ofChange chainTopSpec)

/-- ITS FALSE NEIGHBOUR: 'it returns false'. Refute it at one input. -/
def chainTopWrong : ChangeSpec := { name := "chainTop", fn := fun _ => fun
  | [d1, d2, d3, d4] => { results := [.lit (.bool false)], args := [d1, d2, d3, d4] }
  | _ => none }
def ChainTopWrongFalsely : Prop := chainTopRow.holds Try.pinned (OpenSpec.ofChange chainTopWrong)

/-- 'rootcellarlaw11.ChainAll': WHATEVER THE INPUT: true; the input reads as it did. -/
def chainAllSpec : ChangeSpec := { name := "chainAll", fn := fun _ => fun
  | [d1, d2] => { results := [.lit (.bool true)], args := [d1, d2] }
  | _ => none }
def chainAllRow : OpenClaim := { program := "ytbeloaccgmgocaa", sum := "86505427118acb660e62445ff47b9408553341cd8f5dea7e3e5eb344544ba1a6", func := "rootcellar/rootcellarlaw11.ChainAll", spec := "chainAll", inPlace := ["slices.overlaps[rootcellar/cell.Cell]", "internal/abi.NoEscape", "internal/bytealg.MakeNoZero"], unfollowed := true, recurses := true, apart := false }
def ChainAllSaid : Prop := chainAllRow.holds Try.pinned (OpenSpec.ofChange chainAllSpec)

/-- ITS FALSE NEIGHBOUR: 'it returns false'. Refute it at one input. -/
def chainAllWrong : ChangeSpec := { name := "chainAll", fn := fun _ => fun
  | [d1, d2] => { results := [.lit (.bool false)], args := [d1, d2] }
  | _ => none }
def ChainAllWrongFalsely : Prop := chainAllRow.holds Try.pinned (OpenSpec.ofChange chainAllWrong)

/-- 'rootcellarlaw11.ChainMarks': WHATEVER THE INPUT: true; the input reads as it did. -/
def chainMarksSpec : ChangeSpec := { name := "chainMarks", fn := fun _ => fun
  | [d1, d2, d3] => { results := [.lit (.bool true)], args := [d1, d2, d3] }
  | _ => none }
def chainMarksRow : OpenClaim := { program := "ytbeloaccgmgocaa", sum := "86505427118acb660e62445ff47b9408553341cd8f5dea7e3e5eb344544ba1a6", func := "rootcellar/rootcellarlaw11.ChainMarks", spec := "chainMarks", inPlace := ["slices.overlaps[rootcellar/cell.Cell]", "internal/abi.NoEscape", "internal/bytealg.MakeNoZero"], unfollowed := true, recurses := true, apart := false }
def ChainMarksSaid : Prop := chainMarksRow.holds Try.pinned (OpenSpec.ofChange chainMarksSpec)

/-- ITS FALSE NEIGHBOUR: 'it returns false'. Refute it at one input. -/
def chainMarksWrong : ChangeSpec := { name := "chainMarks", fn := fun _ => fun
  | [d1, d2, d3] => { results := [.lit (.bool false)], args := [d1, d2, d3] }
  | _ => none }
def ChainMarksWrongFalsely : Prop := chainMarksRow.holds Try.pinned (OpenSpec.ofChange chainMarksWrong)

/- THE SECOND FORM. 'bulk': how many values and letters a reading holds, each counted each time it is reached (what is shared counts as often as it is met; a slice's spare places count too). A statement '..UptoSaid' is the law's where the arguments, and the package variables that the reading takes, are together of bulk at most 1048576: NARROWER than '..Said'. Prove '..Said' where nothing that the law and all that it calls make is longer than what came in: it says more and counts as full. Else prove '..UptoSaid'. A law counts once. -/
mutual
def uptoBulk {H : Type} : DataW H → Nat
  | .lit (.string bytes) => bytes.length + 1
  | .lit _ => 1
  | .nil => 1
  | .ptr d => uptoBulk d + 1
  | .slice elems spare => uptoBulkAll elems + uptoBulkAll spare + 1
  | .agg parts => uptoBulkAll parts + 1
  | .iface _ d => uptoBulk d + 1
  | .map entries => uptoBulkEntries entries + 1
  | .held _ => 1
def uptoBulkAll {H : Type} : List (DataW H) → Nat
  | [] => 0
  | d :: r => uptoBulk d + uptoBulkAll r
def uptoBulkEntries {H : Type} : List (Lit × DataW H) → Nat
  | [] => 0
  | x :: r => uptoBulkEntry x + uptoBulkEntries r
def uptoBulkEntry {H : Type} : Lit × DataW H → Nat
  | (.string bytes, d) => bytes.length + uptoBulk d + 1
  | (_, d) => uptoBulk d + 1
 end
def uptoSmall : (H : Type) → List (DataW H) → Bool := fun _ ds => decide (uptoBulkAll ds ≤ 1048576)
def OpenSpec.upto (s : _root_.Go.ChangeSpec) : _root_.Go.OpenSpec := { _root_.Go.OpenSpec.ofChange s with cond := some uptoSmall }

/-- 'rootcellarlaw11.ChainRings', WHERE WHAT IT READS IS OF BULK AT MOST 1048576: true; the input reads as it did. -/
def chainRingsUptoRow : OpenClaim := { program := "ytbeloaccgmgocaa", sum := "86505427118acb660e62445ff47b9408553341cd8f5dea7e3e5eb344544ba1a6", func := "rootcellar/rootcellarlaw11.ChainRings", spec := "chainRings", inPlace := ["internal/abi.NoEscape", "internal/bytealg.MakeNoZero"], unfollowed := true, recurses := true, apart := false, narrowed := true }
def ChainRingsUptoSaid : Prop := chainRingsUptoRow.holds Try.pinned (OpenSpec.upto chainRingsSpec)

/-- 'rootcellarlaw11.ChainBeside', WHERE WHAT IT READS IS OF BULK AT MOST 1048576: true; the input reads as it did. -/
def chainBesideUptoRow : OpenClaim := { program := "ytbeloaccgmgocaa", sum := "86505427118acb660e62445ff47b9408553341cd8f5dea7e3e5eb344544ba1a6", func := "rootcellar/rootcellarlaw11.ChainBeside", spec := "chainBeside", inPlace := ["slices.overlaps[rootcellar/cell.Cell]", "internal/abi.NoEscape", "internal/bytealg.MakeNoZero"], unfollowed := true, recurses := true, apart := false, narrowed := true }
def ChainBesideUptoSaid : Prop := chainBesideUptoRow.holds Try.pinned (OpenSpec.upto chainBesideSpec)

/-- 'rootcellarlaw11.ChainFolds', WHERE WHAT IT READS IS OF BULK AT MOST 1048576: true; the input reads as it did. -/
def chainFoldsUptoRow : OpenClaim := { program := "ytbeloaccgmgocaa", sum := "86505427118acb660e62445ff47b9408553341cd8f5dea7e3e5eb344544ba1a6", func := "rootcellar/rootcellarlaw11.ChainFolds", spec := "chainFolds", inPlace := ["slices.overlaps[rootcellar/cell.Cell]", "internal/abi.NoEscape", "internal/bytealg.MakeNoZero"], unfollowed := true, recurses := true, apart := false, narrowed := true }
def ChainFoldsUptoSaid : Prop := chainFoldsUptoRow.holds Try.pinned (OpenSpec.upto chainFoldsSpec)

/-- 'rootcellarlaw11.ChainTop', WHERE WHAT IT READS IS OF BULK AT MOST 1048576: true; the input reads as it did. -/
def chainTopUptoRow : OpenClaim := { program := "ytbeloaccgmgocaa", sum := "86505427118acb660e62445ff47b9408553341cd8f5dea7e3e5eb344544ba1a6", func := "rootcellar/rootcellarlaw11.ChainTop", spec := "chainTop", inPlace := ["slices.overlaps[rootcellar/cell.Cell]", "internal/abi.NoEscape", "internal/bytealg.MakeNoZero"], unfollowed := true, recurses := true, apart := false, narrowed := true }
def ChainTopUptoSaid : Prop := chainTopUptoRow.holds Try.pinned (OpenSpec.upto chainTopSpec)

/-- 'rootcellarlaw11.ChainAll', WHERE WHAT IT READS IS OF BULK AT MOST 1048576: true; the input reads as it did. -/
def chainAllUptoRow : OpenClaim := { program := "ytbeloaccgmgocaa", sum := "86505427118acb660e62445ff47b9408553341cd8f5dea7e3e5eb344544ba1a6", func := "rootcellar/rootcellarlaw11.ChainAll", spec := "chainAll", inPlace := ["slices.overlaps[rootcellar/cell.Cell]", "internal/abi.NoEscape", "internal/bytealg.MakeNoZero"], unfollowed := true, recurses := true, apart := false, narrowed := true }
def ChainAllUptoSaid : Prop := chainAllUptoRow.holds Try.pinned (OpenSpec.upto chainAllSpec)

/-- 'rootcellarlaw11.ChainMarks', WHERE WHAT IT READS IS OF BULK AT MOST 1048576: true; the input reads as it did. -/
def chainMarksUptoRow : OpenClaim := { program := "ytbeloaccgmgocaa", sum := "86505427118acb660e62445ff47b9408553341cd8f5dea7e3e5eb344544ba1a6", func := "rootcellar/rootcellarlaw11.ChainMarks", spec := "chainMarks", inPlace := ["slices.overlaps[rootcellar/cell.Cell]", "internal/abi.NoEscape", "internal/bytealg.MakeNoZero"], unfollowed := true, recurses := true, apart := false, narrowed := true }
def ChainMarksUptoSaid : Prop := chainMarksUptoRow.holds Try.pinned (OpenSpec.upto chainMarksSpec)

end Rows
end Go.Proofs.Ytbeloaccgmgocaa
