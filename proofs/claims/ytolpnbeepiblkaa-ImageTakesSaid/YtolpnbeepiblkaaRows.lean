/-
  No cell of these rows narrows 'for every input' (looked for: loops, veiled, ifaces, maps, wideKeys, modest, calm, conditions, laid).
  DERIVED. THE GIVEN ROWS OF THIS SEAT. 6 by the template 'for every input the law returns true; each argument reads behind the call as it read before'; 0 by the template 'total and deterministic' (their statements: YtolpnbeepiblkaaTotals.lean).
  GIVEN WITH THE SEED: the statements are not yours to turn. If you find one false, say at which input.
  Laid BY PROGRAM, IN A SANDBOX (cutbox-rows.mjs): the forced cells as the released guide's own fill.sh prints them over the translation eb9ca137c3ff4dc5… (all of the seat's roots in one cut). By AI agents, Wed Nov 11 2026. No macro, syntax, notation, axiom, sorry.
-/
import Derived.Test.YtolpnbeepiblkaaChecked
import GoSem.Claim
import GoSem.ClaimJoined
import GoSem.ClaimMapViews
import Derived.JoinedTies
import Derived.KernelRfl
namespace Go.Proofs.Ytolpnbeepiblkaa
/- THE CELL 'sum', in the pinned program and in every row, IS THE sha256 OF THE DUMP (.gsa) THAT YtolpnbeepiblkaaProg.lean LOADS. Nothing in Lean hashes anything: it is a label: what it is worth is what the hold of that sum in a sandbox is worth. -/
noncomputable def Try.pinned : Pinned := { name := "ytolpnbeepiblkaa", sum := "eb9ca137c3ff4dc5132c24272fd529dfecfdda0210cfa15ecf5b73af8106e030", checked := Try.checked }
namespace Rows
def none {H : Type} : Left H := { results := [], args := [] }

/-- 'rootcellarlaw10.ImageSizes': WHATEVER THE INPUT: true; the input reads as it did. -/
def imageSizesSpec : ChangeSpec := { name := "imageSizes", fn := fun _ => fun
  | [d] => { results := [.lit (.bool true)], args := [d] }
  | _ => none }
def imageSizesRow : OpenClaim := { program := "ytolpnbeepiblkaa", sum := "eb9ca137c3ff4dc5132c24272fd529dfecfdda0210cfa15ecf5b73af8106e030", func := "rootcellar/rootcellarlaw10.ImageSizes", spec := "imageSizes", inPlace := ["internal/abi.NoEscape"], apart := false }
def ImageSizesSaid : Prop := imageSizesRow.holds Try.pinned (OpenSpec.ofChange imageSizesSpec)

/-- ITS FALSE NEIGHBOUR: 'it returns false'. Refute it at one input. -/
def imageSizesWrong : ChangeSpec := { name := "imageSizes", fn := fun _ => fun
  | [d] => { results := [.lit (.bool false)], args := [d] }
  | _ => none }
def ImageSizesWrongFalsely : Prop := imageSizesRow.holds Try.pinned (OpenSpec.ofChange imageSizesWrong)

/-- 'rootcellarlaw10.ImageApart': WHATEVER THE INPUT: true; the input reads as it did. -/
def imageApartSpec : ChangeSpec := { name := "imageApart", fn := fun _ => fun
  | [d1, d2] => { results := [.lit (.bool true)], args := [d1, d2] }
  | _ => none }
def imageApartRow : OpenClaim := { program := "ytolpnbeepiblkaa", sum := "eb9ca137c3ff4dc5132c24272fd529dfecfdda0210cfa15ecf5b73af8106e030", func := "rootcellar/rootcellarlaw10.ImageApart", spec := "imageApart", inPlace := ["internal/abi.NoEscape"], apart := false }
def ImageApartSaid : Prop := imageApartRow.holds Try.pinned (OpenSpec.ofChange imageApartSpec)

/-- ITS FALSE NEIGHBOUR: 'it returns false'. Refute it at one input. -/
def imageApartWrong : ChangeSpec := { name := "imageApart", fn := fun _ => fun
  | [d1, d2] => { results := [.lit (.bool false)], args := [d1, d2] }
  | _ => none }
def ImageApartWrongFalsely : Prop := imageApartRow.holds Try.pinned (OpenSpec.ofChange imageApartWrong)

/-- 'rootcellarlaw10.ImagePuts': WHATEVER THE INPUT: true; the input reads as it did. -/
def imagePutsSpec : ChangeSpec := { name := "imagePuts", fn := fun _ => fun
  | [d] => { results := [.lit (.bool true)], args := [d] }
  | _ => none }
def imagePutsRow : OpenClaim := { program := "ytolpnbeepiblkaa", sum := "eb9ca137c3ff4dc5132c24272fd529dfecfdda0210cfa15ecf5b73af8106e030", func := "rootcellar/rootcellarlaw10.ImagePuts", spec := "imagePuts", inPlace := ["internal/abi.NoEscape"], apart := false }
def ImagePutsSaid : Prop := imagePutsRow.holds Try.pinned (OpenSpec.ofChange imagePutsSpec)

/-- ITS FALSE NEIGHBOUR: 'it returns false'. Refute it at one input. -/
def imagePutsWrong : ChangeSpec := { name := "imagePuts", fn := fun _ => fun
  | [d] => { results := [.lit (.bool false)], args := [d] }
  | _ => none }
def ImagePutsWrongFalsely : Prop := imagePutsRow.holds Try.pinned (OpenSpec.ofChange imagePutsWrong)

/-- 'rootcellarlaw10.ImageTakes': WHATEVER THE INPUT: true; the input reads as it did. -/
def imageTakesSpec : ChangeSpec := { name := "imageTakes", fn := fun _ => fun
  | [d1, d2] => { results := [.lit (.bool true)], args := [d1, d2] }
  | _ => none }
def imageTakesRow : OpenClaim := { program := "ytolpnbeepiblkaa", sum := "eb9ca137c3ff4dc5132c24272fd529dfecfdda0210cfa15ecf5b73af8106e030", func := "rootcellar/rootcellarlaw10.ImageTakes", spec := "imageTakes", inPlace := ["internal/abi.NoEscape"], apart := false }
def ImageTakesSaid : Prop := imageTakesRow.holds Try.pinned (OpenSpec.ofChange imageTakesSpec)

/-- ITS FALSE NEIGHBOUR: 'it returns false'. Refute it at one input. -/
def imageTakesWrong : ChangeSpec := { name := "imageTakes", fn := fun _ => fun
  | [d1, d2] => { results := [.lit (.bool false)], args := [d1, d2] }
  | _ => none }
def ImageTakesWrongFalsely : Prop := imageTakesRow.holds Try.pinned (OpenSpec.ofChange imageTakesWrong)

/-- 'rootcellarlaw10.ImageFinds': WHATEVER THE INPUT: true; the input reads as it did. -/
def imageFindsSpec : ChangeSpec := { name := "imageFinds", fn := fun _ => fun
  | [d1, d2, d3] => { results := [.lit (.bool true)], args := [d1, d2, d3] }
  | _ => none }
def imageFindsRow : OpenClaim := { program := "ytolpnbeepiblkaa", sum := "eb9ca137c3ff4dc5132c24272fd529dfecfdda0210cfa15ecf5b73af8106e030", func := "rootcellar/rootcellarlaw10.ImageFinds", spec := "imageFinds", inPlace := ["internal/abi.NoEscape"], apart := false }
def ImageFindsSaid : Prop := imageFindsRow.holds Try.pinned (OpenSpec.ofChange imageFindsSpec)

/-- ITS FALSE NEIGHBOUR: 'it returns false'. Refute it at one input. -/
def imageFindsWrong : ChangeSpec := { name := "imageFinds", fn := fun _ => fun
  | [d1, d2, d3] => { results := [.lit (.bool false)], args := [d1, d2, d3] }
  | _ => none }
def ImageFindsWrongFalsely : Prop := imageFindsRow.holds Try.pinned (OpenSpec.ofChange imageFindsWrong)

/-- 'rootcellarlaw10.ImageBack': WHATEVER THE INPUT: true; the input reads as it did. -/
def imageBackSpec : ChangeSpec := { name := "imageBack", fn := fun _ => fun
  | [d1, d2] => { results := [.lit (.bool true)], args := [d1, d2] }
  | _ => none }
def imageBackRow : OpenClaim := { program := "ytolpnbeepiblkaa", sum := "eb9ca137c3ff4dc5132c24272fd529dfecfdda0210cfa15ecf5b73af8106e030", func := "rootcellar/rootcellarlaw10.ImageBack", spec := "imageBack", inPlace := ["internal/abi.NoEscape"], apart := false }
def ImageBackSaid : Prop := imageBackRow.holds Try.pinned (OpenSpec.ofChange imageBackSpec)

/-- ITS FALSE NEIGHBOUR: 'it returns false'. Refute it at one input. -/
def imageBackWrong : ChangeSpec := { name := "imageBack", fn := fun _ => fun
  | [d1, d2] => { results := [.lit (.bool false)], args := [d1, d2] }
  | _ => none }
def ImageBackWrongFalsely : Prop := imageBackRow.holds Try.pinned (OpenSpec.ofChange imageBackWrong)

/- THE SECOND FORM. 'bulk': how many values and letters a reading holds, each counted each time it is reached (what is shared counts as often as it is met; a slice's spare places count too). A statement '..UptoSaid' is the law's where the arguments, and the package variables that the reading takes, are together of bulk at most 1048576: NARROWER than '..Said'. Prove '..Said' where nothing that the law and all that it calls make is longer than what came in: it says more and counts as full. Else prove '..UptoSaid'. A law counts once. -/
mutual
def uptoBulk {H : Type} : DataW H → Nat
  | .lit (.string bytes) => bytes.length + 1
  | .lit _ => 1
  | .nil => 1
  | .ptr d => uptoBulk d + 1
  | .slice elems spare => uptoBulkAll elems + uptoBulkAll spare + 1
  | .agg parts => uptoBulkAll parts + 1
  | .iface _ d => uptoBulk d + 1
  | .map entries => uptoBulkEntries entries + 1
  | .held _ => 1
def uptoBulkAll {H : Type} : List (DataW H) → Nat
  | [] => 0
  | d :: r => uptoBulk d + uptoBulkAll r
def uptoBulkEntries {H : Type} : List (Lit × DataW H) → Nat
  | [] => 0
  | x :: r => uptoBulkEntry x + uptoBulkEntries r
def uptoBulkEntry {H : Type} : Lit × DataW H → Nat
  | (.string bytes, d) => bytes.length + uptoBulk d + 1
  | (_, d) => uptoBulk d + 1
 end
def uptoSmall : (H : Type) → List (DataW H) → Bool := fun _ ds => decide (uptoBulkAll ds ≤ 1048576)
def OpenSpec.upto (s : _root_.Go.ChangeSpec) : _root_.Go.OpenSpec := { _root_.Go.OpenSpec.ofChange s with cond := some uptoSmall }

/-- 'rootcellarlaw10.ImageSizes', WHERE WHAT IT READS IS OF BULK AT MOST 1048576: true; the input reads as it did. -/
def imageSizesUptoRow : OpenClaim := { program := "ytolpnbeepiblkaa", sum := "eb9ca137c3ff4dc5132c24272fd529dfecfdda0210cfa15ecf5b73af8106e030", func := "rootcellar/rootcellarlaw10.ImageSizes", spec := "imageSizes", inPlace := ["internal/abi.NoEscape"], apart := false, narrowed := true }
def ImageSizesUptoSaid : Prop := imageSizesUptoRow.holds Try.pinned (OpenSpec.upto imageSizesSpec)

/-- 'rootcellarlaw10.ImageApart', WHERE WHAT IT READS IS OF BULK AT MOST 1048576: true; the input reads as it did. -/
def imageApartUptoRow : OpenClaim := { program := "ytolpnbeepiblkaa", sum := "eb9ca137c3ff4dc5132c24272fd529dfecfdda0210cfa15ecf5b73af8106e030", func := "rootcellar/rootcellarlaw10.ImageApart", spec := "imageApart", inPlace := ["internal/abi.NoEscape"], apart := false, narrowed := true }
def ImageApartUptoSaid : Prop := imageApartUptoRow.holds Try.pinned (OpenSpec.upto imageApartSpec)

/-- 'rootcellarlaw10.ImagePuts', WHERE WHAT IT READS IS OF BULK AT MOST 1048576: true; the input reads as it did. -/
def imagePutsUptoRow : OpenClaim := { program := "ytolpnbeepiblkaa", sum := "eb9ca137c3ff4dc5132c24272fd529dfecfdda0210cfa15ecf5b73af8106e030", func := "rootcellar/rootcellarlaw10.ImagePuts", spec := "imagePuts", inPlace := ["internal/abi.NoEscape"], apart := false, narrowed := true }
def ImagePutsUptoSaid : Prop := imagePutsUptoRow.holds Try.pinned (OpenSpec.upto imagePutsSpec)

/-- 'rootcellarlaw10.ImageTakes', WHERE WHAT IT READS IS OF BULK AT MOST 1048576: true; the input reads as it did. -/
def imageTakesUptoRow : OpenClaim := { program := "ytolpnbeepiblkaa", sum := "eb9ca137c3ff4dc5132c24272fd529dfecfdda0210cfa15ecf5b73af8106e030", func := "rootcellar/rootcellarlaw10.ImageTakes", spec := "imageTakes", inPlace := ["internal/abi.NoEscape"], apart := false, narrowed := true }
def ImageTakesUptoSaid : Prop := imageTakesUptoRow.holds Try.pinned (OpenSpec.upto imageTakesSpec)

/-- 'rootcellarlaw10.ImageFinds', WHERE WHAT IT READS IS OF BULK AT MOST 1048576: true; the input reads as it did. -/
def imageFindsUptoRow : OpenClaim := { program := "ytolpnbeepiblkaa", sum := "eb9ca137c3ff4dc5132c24272fd529dfecfdda0210cfa15ecf5b73af8106e030", func := "rootcellar/rootcellarlaw10.ImageFinds", spec := "imageFinds", inPlace := ["internal/abi.NoEscape"], apart := false, narrowed := true }
def ImageFindsUptoSaid : Prop := imageFindsUptoRow.holds Try.pinned (OpenSpec.upto imageFindsSpec)

/-- 'rootcellarlaw10.ImageBack', WHERE WHAT IT READS IS OF BULK AT MOST 1048576: true; the input reads as it did. -/
def imageBackUptoRow : OpenClaim := { program := "ytolpnbeepiblkaa", sum := "eb9ca137c3ff4dc5132c24272fd529dfecfdda0210cfa15ecf5b73af8106e030", func := "rootcellar/rootcellarlaw10.ImageBack", spec := "imageBack", inPlace := ["internal/abi.NoEscape"], apart := false, narrowed := true }
def ImageBackUptoSaid : Prop := imageBackUptoRow.holds Try.pinned (OpenSpec.upto imageBackSpec)

end Rows
end Go.Proofs.Ytolpnbeepiblkaa
