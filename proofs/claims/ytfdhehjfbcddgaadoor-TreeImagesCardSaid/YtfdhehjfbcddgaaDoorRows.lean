/-
  NARROWER THAN 'FOR EVERY INPUT', by the rows' own cells (each row's printed sentence says how): TreeNext: laid · TreeImages: laid · TreePins: laid · TreePlays: laid · TreePlans: laid · TreeMakes: laid.
  DERIVED. THE GIVEN ROWS OF THIS SEAT. 6 by the template 'for every input the law returns true; each argument reads behind the call as it read before'; 0 by the template 'total and deterministic' (their statements: YtfdhehjfbcddgaaDoorTotals.lean).
  GIVEN WITH THE SEED: the statements are not yours to turn. If you find one false, say at which input.
  Laid BY PROGRAM, IN A SANDBOX (cutbox-rows.mjs): the forced cells as the released guide's own fill.sh prints them over the translation bebe952b1e966e1c… (all of the seat's roots in one cut). By AI agents, Wed Nov 11 2026. No macro, syntax, notation, axiom, sorry.
-/
import Derived.Test.YtfdhehjfbcddgaaDoorChecked
import GoSem.PinnedTables
import GoSem.Claim
import GoSem.ClaimJoined
import GoSem.ClaimMapViews
import Derived.JoinedTies
import Derived.KernelRfl
namespace Go.Proofs.YtfdhehjfbcddgaaDoor
/- THE CELL 'sum', in the pinned program and in every row, IS THE sha256 OF THE DUMP (.gsa) THAT YtfdhehjfbcddgaaDoorProg.lean LOADS. Nothing in Lean hashes anything: it is a label: what it is worth is what the hold of that sum in a sandbox is worth. -/
noncomputable def Tryd.pinned : Pinned := { name := "ytfdhehjfbcddgaadoor", sum := "bebe952b1e966e1c844cd29b4c1ad0f42f4b5bb549dcb8770992bc50275d3736", checked := Tryd.checked }
namespace Rows
def none {H : Type} : Left H := { results := [], args := [] }

/- WHAT THE LISTED PACKAGE-LEVEL VARIABLES READ AS WHEN THE CALL BEGINS. Each datum BY PROGRAM (the guide's laid-datum.mjs) off the statement by which the dump's own 'gosem.cut.vars' lays the variable. In a bare row this is a premise. The card (YtfdhehjfbcddgaaDoorCards.lean) ties it to the program's text. -/
def laid_unicode_utf8_acceptRanges {H : Type} : DataW H := .agg [.agg [.lit (.int .u8 128), .lit (.int .u8 191)], .agg [.lit (.int .u8 160), .lit (.int .u8 191)], .agg [.lit (.int .u8 128), .lit (.int .u8 159)], .agg [.lit (.int .u8 144), .lit (.int .u8 191)], .agg [.lit (.int .u8 128), .lit (.int .u8 143)], .agg [.lit (.int .u8 0), .lit (.int .u8 0)], .agg [.lit (.int .u8 0), .lit (.int .u8 0)], .agg [.lit (.int .u8 0), .lit (.int .u8 0)], .agg [.lit (.int .u8 0), .lit (.int .u8 0)], .agg [.lit (.int .u8 0), .lit (.int .u8 0)], .agg [.lit (.int .u8 0), .lit (.int .u8 0)], .agg [.lit (.int .u8 0), .lit (.int .u8 0)], .agg [.lit (.int .u8 0), .lit (.int .u8 0)], .agg [.lit (.int .u8 0), .lit (.int .u8 0)], .agg [.lit (.int .u8 0), .lit (.int .u8 0)], .agg [.lit (.int .u8 0), .lit (.int .u8 0)]]
/-- One of Go's own tables, pinned by name: the form's constant. -/
def laid_unicode_utf8_first : DataW Unit := Go.Pinned.utf8First

/-- 'rootcellarlaw14.TreeNext': WHATEVER THE INPUT: true; the input reads as it did. -/
def treeNextSpec : ChangeSpec := { name := "treeNext", fn := fun _ => fun
  | [d1, d2] => { results := [.lit (.bool true)], args := [d1, d2] }
  | _ => none }
def treeNextRow : OpenClaim := { program := "ytfdhehjfbcddgaadoor", sum := "bebe952b1e966e1c844cd29b4c1ad0f42f4b5bb549dcb8770992bc50275d3736", func := "rootcellar/rootcellarlaw14.TreeNext", spec := "treeNext", unfollowed := true, recurses := true, named := ["unicode/utf8.first", "unicode/utf8.acceptRanges"], apart := false, laid := [("unicode/utf8.acceptRanges", laid_unicode_utf8_acceptRanges), ("unicode/utf8.first", laid_unicode_utf8_first)] }
def TreeNextSaid : Prop := treeNextRow.holds Tryd.pinned (OpenSpec.ofChange treeNextSpec)

/-- ITS FALSE NEIGHBOUR: 'it returns false'. Refute it at one input. -/
def treeNextWrong : ChangeSpec := { name := "treeNext", fn := fun _ => fun
  | [d1, d2] => { results := [.lit (.bool false)], args := [d1, d2] }
  | _ => none }
def TreeNextWrongFalsely : Prop := treeNextRow.holds Tryd.pinned (OpenSpec.ofChange treeNextWrong)

/-- 'rootcellarlaw14.TreeImages': WHATEVER THE INPUT: true; the input reads as it did. -/
def treeImagesSpec : ChangeSpec := { name := "treeImages", fn := fun _ => fun
  | [d1, d2, d3] => { results := [.lit (.bool true)], args := [d1, d2, d3] }
  | _ => none }
def treeImagesRow : OpenClaim := { program := "ytfdhehjfbcddgaadoor", sum := "bebe952b1e966e1c844cd29b4c1ad0f42f4b5bb549dcb8770992bc50275d3736", func := "rootcellar/rootcellarlaw14.TreeImages", spec := "treeImages", unfollowed := true, recurses := true, named := ["unicode/utf8.first", "unicode/utf8.acceptRanges"], apart := false, laid := [("unicode/utf8.acceptRanges", laid_unicode_utf8_acceptRanges), ("unicode/utf8.first", laid_unicode_utf8_first)] }
def TreeImagesSaid : Prop := treeImagesRow.holds Tryd.pinned (OpenSpec.ofChange treeImagesSpec)

/-- ITS FALSE NEIGHBOUR: 'it returns false'. Refute it at one input. -/
def treeImagesWrong : ChangeSpec := { name := "treeImages", fn := fun _ => fun
  | [d1, d2, d3] => { results := [.lit (.bool false)], args := [d1, d2, d3] }
  | _ => none }
def TreeImagesWrongFalsely : Prop := treeImagesRow.holds Tryd.pinned (OpenSpec.ofChange treeImagesWrong)

/-- 'rootcellarlaw14.TreePins': WHATEVER THE INPUT: true; the input reads as it did. -/
def treePinsSpec : ChangeSpec := { name := "treePins", fn := fun _ => fun
  | [d1, d2] => { results := [.lit (.bool true)], args := [d1, d2] }
  | _ => none }
def treePinsRow : OpenClaim := { program := "ytfdhehjfbcddgaadoor", sum := "bebe952b1e966e1c844cd29b4c1ad0f42f4b5bb549dcb8770992bc50275d3736", func := "rootcellar/rootcellarlaw14.TreePins", spec := "treePins", unfollowed := true, recurses := true, named := ["unicode/utf8.first", "unicode/utf8.acceptRanges"], apart := false, laid := [("unicode/utf8.acceptRanges", laid_unicode_utf8_acceptRanges), ("unicode/utf8.first", laid_unicode_utf8_first)] }
def TreePinsSaid : Prop := treePinsRow.holds Tryd.pinned (OpenSpec.ofChange treePinsSpec)

/-- ITS FALSE NEIGHBOUR: 'it returns false'. Refute it at one input. -/
def treePinsWrong : ChangeSpec := { name := "treePins", fn := fun _ => fun
  | [d1, d2] => { results := [.lit (.bool false)], args := [d1, d2] }
  | _ => none }
def TreePinsWrongFalsely : Prop := treePinsRow.holds Tryd.pinned (OpenSpec.ofChange treePinsWrong)

/-- 'rootcellarlaw14.TreePlays': WHATEVER THE INPUT: true; the input reads as it did. -/
def treePlaysSpec : ChangeSpec := { name := "treePlays", fn := fun _ => fun
  | [d] => { results := [.lit (.bool true)], args := [d] }
  | _ => none }
def treePlaysRow : OpenClaim := { program := "ytfdhehjfbcddgaadoor", sum := "bebe952b1e966e1c844cd29b4c1ad0f42f4b5bb549dcb8770992bc50275d3736", func := "rootcellar/rootcellarlaw14.TreePlays", spec := "treePlays", unfollowed := true, recurses := true, named := ["unicode/utf8.first", "unicode/utf8.acceptRanges"], apart := false, laid := [("unicode/utf8.acceptRanges", laid_unicode_utf8_acceptRanges), ("unicode/utf8.first", laid_unicode_utf8_first)] }
def TreePlaysSaid : Prop := treePlaysRow.holds Tryd.pinned (OpenSpec.ofChange treePlaysSpec)

/-- ITS FALSE NEIGHBOUR: 'it returns false'. Refute it at one input. -/
def treePlaysWrong : ChangeSpec := { name := "treePlays", fn := fun _ => fun
  | [d] => { results := [.lit (.bool false)], args := [d] }
  | _ => none }
def TreePlaysWrongFalsely : Prop := treePlaysRow.holds Tryd.pinned (OpenSpec.ofChange treePlaysWrong)

/-- 'rootcellarlaw14.TreePlans': WHATEVER THE INPUT: true; the input reads as it did. -/
def treePlansSpec : ChangeSpec := { name := "treePlans", fn := fun _ => fun
  | [d1, d2] => { results := [.lit (.bool true)], args := [d1, d2] }
  | _ => none }
def treePlansRow : OpenClaim := { program := "ytfdhehjfbcddgaadoor", sum := "bebe952b1e966e1c844cd29b4c1ad0f42f4b5bb549dcb8770992bc50275d3736", func := "rootcellar/rootcellarlaw14.TreePlans", spec := "treePlans", unfollowed := true, recurses := true, named := ["unicode/utf8.first", "unicode/utf8.acceptRanges"], apart := false, laid := [("unicode/utf8.acceptRanges", laid_unicode_utf8_acceptRanges), ("unicode/utf8.first", laid_unicode_utf8_first)] }
def TreePlansSaid : Prop := treePlansRow.holds Tryd.pinned (OpenSpec.ofChange treePlansSpec)

/-- ITS FALSE NEIGHBOUR: 'it returns false'. Refute it at one input. -/
def treePlansWrong : ChangeSpec := { name := "treePlans", fn := fun _ => fun
  | [d1, d2] => { results := [.lit (.bool false)], args := [d1, d2] }
  | _ => none }
def TreePlansWrongFalsely : Prop := treePlansRow.holds Tryd.pinned (OpenSpec.ofChange treePlansWrong)

/-- 'rootcellarlaw14.TreeMakes': WHATEVER THE INPUT: true; the input reads as it did. -/
def treeMakesSpec : ChangeSpec := { name := "treeMakes", fn := fun _ => fun
  | [d] => { results := [.lit (.bool true)], args := [d] }
  | _ => none }
def treeMakesRow : OpenClaim := { program := "ytfdhehjfbcddgaadoor", sum := "bebe952b1e966e1c844cd29b4c1ad0f42f4b5bb549dcb8770992bc50275d3736", func := "rootcellar/rootcellarlaw14.TreeMakes", spec := "treeMakes", unfollowed := true, recurses := true, named := ["unicode/utf8.first", "unicode/utf8.acceptRanges"], apart := false, laid := [("unicode/utf8.acceptRanges", laid_unicode_utf8_acceptRanges), ("unicode/utf8.first", laid_unicode_utf8_first)] }
def TreeMakesSaid : Prop := treeMakesRow.holds Tryd.pinned (OpenSpec.ofChange treeMakesSpec)

/-- ITS FALSE NEIGHBOUR: 'it returns false'. Refute it at one input. -/
def treeMakesWrong : ChangeSpec := { name := "treeMakes", fn := fun _ => fun
  | [d] => { results := [.lit (.bool false)], args := [d] }
  | _ => none }
def TreeMakesWrongFalsely : Prop := treeMakesRow.holds Tryd.pinned (OpenSpec.ofChange treeMakesWrong)

/- THE SECOND FORM. 'bulk': how many values and letters a reading holds, each counted each time it is reached (what is shared counts as often as it is met; a slice's spare places count too). A statement '..UptoSaid' is the law's where the arguments, and the package variables that the reading takes, are together of bulk at most 1048576: NARROWER than '..Said'. Prove '..Said' where nothing that the law and all that it calls make is longer than what came in: it says more and counts as full. Else prove '..UptoSaid'. A law counts once. -/
mutual
def uptoBulk {H : Type} : DataW H → Nat
  | .lit (.string bytes) => bytes.length + 1
  | .lit _ => 1
  | .nil => 1
  | .ptr d => uptoBulk d + 1
  | .slice elems spare => uptoBulkAll elems + uptoBulkAll spare + 1
  | .agg parts => uptoBulkAll parts + 1
  | .iface _ d => uptoBulk d + 1
  | .map entries => uptoBulkEntries entries + 1
  | .held _ => 1
def uptoBulkAll {H : Type} : List (DataW H) → Nat
  | [] => 0
  | d :: r => uptoBulk d + uptoBulkAll r
def uptoBulkEntries {H : Type} : List (Lit × DataW H) → Nat
  | [] => 0
  | x :: r => uptoBulkEntry x + uptoBulkEntries r
def uptoBulkEntry {H : Type} : Lit × DataW H → Nat
  | (.string bytes, d) => bytes.length + uptoBulk d + 1
  | (_, d) => uptoBulk d + 1
 end
def uptoSmall : (H : Type) → List (DataW H) → Bool := fun _ ds => decide (uptoBulkAll ds ≤ 1048576)
def OpenSpec.upto (s : _root_.Go.ChangeSpec) : _root_.Go.OpenSpec := { _root_.Go.OpenSpec.ofChange s with cond := some uptoSmall }

/-- 'rootcellarlaw14.TreeNext', WHERE WHAT IT READS IS OF BULK AT MOST 1048576: true; the input reads as it did. -/
def treeNextUptoRow : OpenClaim := { program := "ytfdhehjfbcddgaadoor", sum := "bebe952b1e966e1c844cd29b4c1ad0f42f4b5bb549dcb8770992bc50275d3736", func := "rootcellar/rootcellarlaw14.TreeNext", spec := "treeNext", unfollowed := true, recurses := true, named := ["unicode/utf8.first", "unicode/utf8.acceptRanges"], apart := false, laid := [("unicode/utf8.acceptRanges", laid_unicode_utf8_acceptRanges), ("unicode/utf8.first", laid_unicode_utf8_first)], narrowed := true }
def TreeNextUptoSaid : Prop := treeNextUptoRow.holds Tryd.pinned (OpenSpec.upto treeNextSpec)

/-- 'rootcellarlaw14.TreeImages', WHERE WHAT IT READS IS OF BULK AT MOST 1048576: true; the input reads as it did. -/
def treeImagesUptoRow : OpenClaim := { program := "ytfdhehjfbcddgaadoor", sum := "bebe952b1e966e1c844cd29b4c1ad0f42f4b5bb549dcb8770992bc50275d3736", func := "rootcellar/rootcellarlaw14.TreeImages", spec := "treeImages", unfollowed := true, recurses := true, named := ["unicode/utf8.first", "unicode/utf8.acceptRanges"], apart := false, laid := [("unicode/utf8.acceptRanges", laid_unicode_utf8_acceptRanges), ("unicode/utf8.first", laid_unicode_utf8_first)], narrowed := true }
def TreeImagesUptoSaid : Prop := treeImagesUptoRow.holds Tryd.pinned (OpenSpec.upto treeImagesSpec)

/-- 'rootcellarlaw14.TreePins', WHERE WHAT IT READS IS OF BULK AT MOST 1048576: true; the input reads as it did. -/
def treePinsUptoRow : OpenClaim := { program := "ytfdhehjfbcddgaadoor", sum := "bebe952b1e966e1c844cd29b4c1ad0f42f4b5bb549dcb8770992bc50275d3736", func := "rootcellar/rootcellarlaw14.TreePins", spec := "treePins", unfollowed := true, recurses := true, named := ["unicode/utf8.first", "unicode/utf8.acceptRanges"], apart := false, laid := [("unicode/utf8.acceptRanges", laid_unicode_utf8_acceptRanges), ("unicode/utf8.first", laid_unicode_utf8_first)], narrowed := true }
def TreePinsUptoSaid : Prop := treePinsUptoRow.holds Tryd.pinned (OpenSpec.upto treePinsSpec)

/-- 'rootcellarlaw14.TreePlays', WHERE WHAT IT READS IS OF BULK AT MOST 1048576: true; the input reads as it did. -/
def treePlaysUptoRow : OpenClaim := { program := "ytfdhehjfbcddgaadoor", sum := "bebe952b1e966e1c844cd29b4c1ad0f42f4b5bb549dcb8770992bc50275d3736", func := "rootcellar/rootcellarlaw14.TreePlays", spec := "treePlays", unfollowed := true, recurses := true, named := ["unicode/utf8.first", "unicode/utf8.acceptRanges"], apart := false, laid := [("unicode/utf8.acceptRanges", laid_unicode_utf8_acceptRanges), ("unicode/utf8.first", laid_unicode_utf8_first)], narrowed := true }
def TreePlaysUptoSaid : Prop := treePlaysUptoRow.holds Tryd.pinned (OpenSpec.upto treePlaysSpec)

/-- 'rootcellarlaw14.TreePlans', WHERE WHAT IT READS IS OF BULK AT MOST 1048576: true; the input reads as it did. -/
def treePlansUptoRow : OpenClaim := { program := "ytfdhehjfbcddgaadoor", sum := "bebe952b1e966e1c844cd29b4c1ad0f42f4b5bb549dcb8770992bc50275d3736", func := "rootcellar/rootcellarlaw14.TreePlans", spec := "treePlans", unfollowed := true, recurses := true, named := ["unicode/utf8.first", "unicode/utf8.acceptRanges"], apart := false, laid := [("unicode/utf8.acceptRanges", laid_unicode_utf8_acceptRanges), ("unicode/utf8.first", laid_unicode_utf8_first)], narrowed := true }
def TreePlansUptoSaid : Prop := treePlansUptoRow.holds Tryd.pinned (OpenSpec.upto treePlansSpec)

/-- 'rootcellarlaw14.TreeMakes', WHERE WHAT IT READS IS OF BULK AT MOST 1048576: true; the input reads as it did. -/
def treeMakesUptoRow : OpenClaim := { program := "ytfdhehjfbcddgaadoor", sum := "bebe952b1e966e1c844cd29b4c1ad0f42f4b5bb549dcb8770992bc50275d3736", func := "rootcellar/rootcellarlaw14.TreeMakes", spec := "treeMakes", unfollowed := true, recurses := true, named := ["unicode/utf8.first", "unicode/utf8.acceptRanges"], apart := false, laid := [("unicode/utf8.acceptRanges", laid_unicode_utf8_acceptRanges), ("unicode/utf8.first", laid_unicode_utf8_first)], narrowed := true }
def TreeMakesUptoSaid : Prop := treeMakesUptoRow.holds Tryd.pinned (OpenSpec.upto treeMakesSpec)

end Rows
end Go.Proofs.YtfdhehjfbcddgaaDoor
