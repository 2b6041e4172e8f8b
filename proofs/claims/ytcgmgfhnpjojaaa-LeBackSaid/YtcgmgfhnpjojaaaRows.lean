/-
  No cell of these rows narrows 'for every input' (looked for: loops, veiled, ifaces, maps, wideKeys, modest, calm, conditions, laid).
  DERIVED. THE GIVEN ROWS OF THIS SEAT. 7 by the template 'for every input the law returns true; each argument reads behind the call as it read before'; 0 by the template 'total and deterministic' (their statements: YtcgmgfhnpjojaaaTotals.lean).
  GIVEN WITH THE SEED: the statements are not yours to turn. If you find one false, say at which input.
  Laid BY PROGRAM, IN A SANDBOX (cutbox-rows.mjs): the forced cells as the released guide's own fill.sh prints them over the translation ce0ed5823b582674… (all of the seat's roots in one cut). By AI agents, Wed Nov 11 2026. No macro, syntax, notation, axiom, sorry.
-/
import Derived.Test.YtcgmgfhnpjojaaaChecked
import GoSem.Claim
import GoSem.ClaimJoined
import GoSem.ClaimMapViews
import Derived.JoinedTies
import Derived.KernelRfl
namespace Go.Proofs.Ytcgmgfhnpjojaaa
/- THE CELL 'sum', in the pinned program and in every row, IS THE sha256 OF THE DUMP (.gsa) THAT YtcgmgfhnpjojaaaProg.lean LOADS. Nothing in Lean hashes anything: it is a label: what it is worth is what the hold of that sum in a sandbox is worth. -/
noncomputable def Try.pinned : Pinned := { name := "ytcgmgfhnpjojaaa", sum := "ce0ed5823b5826743a65d0d5d2bed30ebd610e216cba2cd050eac431f2d55672", checked := Try.checked }
namespace Rows
def none {H : Type} : Left H := { results := [], args := [] }

/-- 'rootcellarlaw2.LePuts': WHATEVER THE INPUT: true; the input reads as it did. -/
def lePutsSpec : ChangeSpec := { name := "lePuts", fn := fun _ => fun
  | [d1, d2, d3] => { results := [.lit (.bool true)], args := [d1, d2, d3] }
  | _ => none }
def lePutsRow : OpenClaim := { program := "ytcgmgfhnpjojaaa", sum := "ce0ed5823b5826743a65d0d5d2bed30ebd610e216cba2cd050eac431f2d55672", func := "rootcellar/rootcellarlaw2.LePuts", spec := "lePuts", apart := false }
def LePutsSaid : Prop := lePutsRow.holds Try.pinned (OpenSpec.ofChange lePutsSpec)

/-- ITS FALSE NEIGHBOUR: 'it returns false'. Refute it at one input. -/
def lePutsWrong : ChangeSpec := { name := "lePuts", fn := fun _ => fun
  | [d1, d2, d3] => { results := [.lit (.bool false)], args := [d1, d2, d3] }
  | _ => none }
def LePutsWrongFalsely : Prop := lePutsRow.holds Try.pinned (OpenSpec.ofChange lePutsWrong)

/-- 'rootcellarlaw2.LeParts': WHATEVER THE INPUT: true; the input reads as it did. -/
def lePartsSpec : ChangeSpec := { name := "leParts", fn := fun _ => fun
  | [d1, d2, d3] => { results := [.lit (.bool true)], args := [d1, d2, d3] }
  | _ => none }
def lePartsRow : OpenClaim := { program := "ytcgmgfhnpjojaaa", sum := "ce0ed5823b5826743a65d0d5d2bed30ebd610e216cba2cd050eac431f2d55672", func := "rootcellar/rootcellarlaw2.LeParts", spec := "leParts", apart := false }
def LePartsSaid : Prop := lePartsRow.holds Try.pinned (OpenSpec.ofChange lePartsSpec)

/-- ITS FALSE NEIGHBOUR: 'it returns false'. Refute it at one input. -/
def lePartsWrong : ChangeSpec := { name := "leParts", fn := fun _ => fun
  | [d1, d2, d3] => { results := [.lit (.bool false)], args := [d1, d2, d3] }
  | _ => none }
def LePartsWrongFalsely : Prop := lePartsRow.holds Try.pinned (OpenSpec.ofChange lePartsWrong)

/-- 'rootcellarlaw2.LeReads': WHATEVER THE INPUT: true; the input reads as it did. -/
def leReadsSpec : ChangeSpec := { name := "leReads", fn := fun _ => fun
  | [d1, d2] => { results := [.lit (.bool true)], args := [d1, d2] }
  | _ => none }
def leReadsRow : OpenClaim := { program := "ytcgmgfhnpjojaaa", sum := "ce0ed5823b5826743a65d0d5d2bed30ebd610e216cba2cd050eac431f2d55672", func := "rootcellar/rootcellarlaw2.LeReads", spec := "leReads", apart := false }
def LeReadsSaid : Prop := leReadsRow.holds Try.pinned (OpenSpec.ofChange leReadsSpec)

/-- ITS FALSE NEIGHBOUR: 'it returns false'. Refute it at one input. -/
def leReadsWrong : ChangeSpec := { name := "leReads", fn := fun _ => fun
  | [d1, d2] => { results := [.lit (.bool false)], args := [d1, d2] }
  | _ => none }
def LeReadsWrongFalsely : Prop := leReadsRow.holds Try.pinned (OpenSpec.ofChange leReadsWrong)

/-- 'rootcellarlaw2.LeBack': WHATEVER THE INPUT: true; the input reads as it did. -/
def leBackSpec : ChangeSpec := { name := "leBack", fn := fun _ => fun
  | [d] => { results := [.lit (.bool true)], args := [d] }
  | _ => none }
def leBackRow : OpenClaim := { program := "ytcgmgfhnpjojaaa", sum := "ce0ed5823b5826743a65d0d5d2bed30ebd610e216cba2cd050eac431f2d55672", func := "rootcellar/rootcellarlaw2.LeBack", spec := "leBack", apart := false }
def LeBackSaid : Prop := leBackRow.holds Try.pinned (OpenSpec.ofChange leBackSpec)

/-- ITS FALSE NEIGHBOUR: 'it returns false'. Refute it at one input. -/
def leBackWrong : ChangeSpec := { name := "leBack", fn := fun _ => fun
  | [d] => { results := [.lit (.bool false)], args := [d] }
  | _ => none }
def LeBackWrongFalsely : Prop := leBackRow.holds Try.pinned (OpenSpec.ofChange leBackWrong)

/-- 'rootcellarlaw2.LeBad': WHATEVER THE INPUT: true; the input reads as it did. -/
def leBadSpec : ChangeSpec := { name := "leBad", fn := fun _ => fun
  | [d1, d2] => { results := [.lit (.bool true)], args := [d1, d2] }
  | _ => none }
def leBadRow : OpenClaim := { program := "ytcgmgfhnpjojaaa", sum := "ce0ed5823b5826743a65d0d5d2bed30ebd610e216cba2cd050eac431f2d55672", func := "rootcellar/rootcellarlaw2.LeBad", spec := "leBad", apart := false }
def LeBadSaid : Prop := leBadRow.holds Try.pinned (OpenSpec.ofChange leBadSpec)

/-- ITS FALSE NEIGHBOUR: 'it returns false'. Refute it at one input. -/
def leBadWrong : ChangeSpec := { name := "leBad", fn := fun _ => fun
  | [d1, d2] => { results := [.lit (.bool false)], args := [d1, d2] }
  | _ => none }
def LeBadWrongFalsely : Prop := leBadRow.holds Try.pinned (OpenSpec.ofChange leBadWrong)

/-- 'rootcellarlaw2.LeAdds': WHATEVER THE INPUT: true; the input reads as it did. -/
def leAddsSpec : ChangeSpec := { name := "leAdds", fn := fun _ => fun
  | [d1, d2] => { results := [.lit (.bool true)], args := [d1, d2] }
  | _ => none }
def leAddsRow : OpenClaim := { program := "ytcgmgfhnpjojaaa", sum := "ce0ed5823b5826743a65d0d5d2bed30ebd610e216cba2cd050eac431f2d55672", func := "rootcellar/rootcellarlaw2.LeAdds", spec := "leAdds", inPlace := ["math/bits.Add64"], apart := false }
def LeAddsSaid : Prop := leAddsRow.holds Try.pinned (OpenSpec.ofChange leAddsSpec)

/-- ITS FALSE NEIGHBOUR: 'it returns false'. Refute it at one input. -/
def leAddsWrong : ChangeSpec := { name := "leAdds", fn := fun _ => fun
  | [d1, d2] => { results := [.lit (.bool false)], args := [d1, d2] }
  | _ => none }
def LeAddsWrongFalsely : Prop := leAddsRow.holds Try.pinned (OpenSpec.ofChange leAddsWrong)

/-- 'rootcellarlaw2.LeLaws': WHATEVER THE INPUT: true; the input reads as it did. -/
def leLawsSpec : ChangeSpec := { name := "leLaws", fn := fun _ => fun
  | [d1, d2, d3] => { results := [.lit (.bool true)], args := [d1, d2, d3] }
  | _ => none }
def leLawsRow : OpenClaim := { program := "ytcgmgfhnpjojaaa", sum := "ce0ed5823b5826743a65d0d5d2bed30ebd610e216cba2cd050eac431f2d55672", func := "rootcellar/rootcellarlaw2.LeLaws", spec := "leLaws", inPlace := ["math/bits.Add64"], apart := false }
def LeLawsSaid : Prop := leLawsRow.holds Try.pinned (OpenSpec.ofChange leLawsSpec)

/-- ITS FALSE NEIGHBOUR: 'it returns false'. Refute it at one input. -/
def leLawsWrong : ChangeSpec := { name := "leLaws", fn := fun _ => fun
  | [d1, d2, d3] => { results := [.lit (.bool false)], args := [d1, d2, d3] }
  | _ => none }
def LeLawsWrongFalsely : Prop := leLawsRow.holds Try.pinned (OpenSpec.ofChange leLawsWrong)

/- THE SECOND FORM. 'bulk': how many values and letters a reading holds, each counted each time it is reached (what is shared counts as often as it is met; a slice's spare places count too). A statement '..UptoSaid' is the law's where the arguments, and the package variables that the reading takes, are together of bulk at most 1048576: NARROWER than '..Said'. Prove '..Said' where nothing that the law and all that it calls make is longer than what came in: it says more and counts as full. Else prove '..UptoSaid'. A law counts once. -/
mutual
def uptoBulk {H : Type} : DataW H → Nat
  | .lit (.string bytes) => bytes.length + 1
  | .lit _ => 1
  | .nil => 1
  | .ptr d => uptoBulk d + 1
  | .slice elems spare => uptoBulkAll elems + uptoBulkAll spare + 1
  | .agg parts => uptoBulkAll parts + 1
  | .iface _ d => uptoBulk d + 1
  | .map entries => uptoBulkEntries entries + 1
  | .held _ => 1
def uptoBulkAll {H : Type} : List (DataW H) → Nat
  | [] => 0
  | d :: r => uptoBulk d + uptoBulkAll r
def uptoBulkEntries {H : Type} : List (Lit × DataW H) → Nat
  | [] => 0
  | x :: r => uptoBulkEntry x + uptoBulkEntries r
def uptoBulkEntry {H : Type} : Lit × DataW H → Nat
  | (.string bytes, d) => bytes.length + uptoBulk d + 1
  | (_, d) => uptoBulk d + 1
 end
def uptoSmall : (H : Type) → List (DataW H) → Bool := fun _ ds => decide (uptoBulkAll ds ≤ 1048576)
def OpenSpec.upto (s : _root_.Go.ChangeSpec) : _root_.Go.OpenSpec := { _root_.Go.OpenSpec.ofChange s with cond := some uptoSmall }

/-- 'rootcellarlaw2.LePuts', WHERE WHAT IT READS IS OF BULK AT MOST 1048576: true; the input reads as it did. -/
def lePutsUptoRow : OpenClaim := { program := "ytcgmgfhnpjojaaa", sum := "ce0ed5823b5826743a65d0d5d2bed30ebd610e216cba2cd050eac431f2d55672", func := "rootcellar/rootcellarlaw2.LePuts", spec := "lePuts", apart := false, narrowed := true }
def LePutsUptoSaid : Prop := lePutsUptoRow.holds Try.pinned (OpenSpec.upto lePutsSpec)

/-- 'rootcellarlaw2.LeParts', WHERE WHAT IT READS IS OF BULK AT MOST 1048576: true; the input reads as it did. -/
def lePartsUptoRow : OpenClaim := { program := "ytcgmgfhnpjojaaa", sum := "ce0ed5823b5826743a65d0d5d2bed30ebd610e216cba2cd050eac431f2d55672", func := "rootcellar/rootcellarlaw2.LeParts", spec := "leParts", apart := false, narrowed := true }
def LePartsUptoSaid : Prop := lePartsUptoRow.holds Try.pinned (OpenSpec.upto lePartsSpec)

/-- 'rootcellarlaw2.LeReads', WHERE WHAT IT READS IS OF BULK AT MOST 1048576: true; the input reads as it did. -/
def leReadsUptoRow : OpenClaim := { program := "ytcgmgfhnpjojaaa", sum := "ce0ed5823b5826743a65d0d5d2bed30ebd610e216cba2cd050eac431f2d55672", func := "rootcellar/rootcellarlaw2.LeReads", spec := "leReads", apart := false, narrowed := true }
def LeReadsUptoSaid : Prop := leReadsUptoRow.holds Try.pinned (OpenSpec.upto leReadsSpec)

/-- 'rootcellarlaw2.LeBack', WHERE WHAT IT READS IS OF BULK AT MOST 1048576: true; the input reads as it did. -/
def leBackUptoRow : OpenClaim := { program := "ytcgmgfhnpjojaaa", sum := "ce0ed5823b5826743a65d0d5d2bed30ebd610e216cba2cd050eac431f2d55672", func := "rootcellar/rootcellarlaw2.LeBack", spec := "leBack", apart := false, narrowed := true }
def LeBackUptoSaid : Prop := leBackUptoRow.holds Try.pinned (OpenSpec.upto leBackSpec)

/-- 'rootcellarlaw2.LeBad', WHERE WHAT IT READS IS OF BULK AT MOST 1048576: true; the input reads as it did. -/
def leBadUptoRow : OpenClaim := { program := "ytcgmgfhnpjojaaa", sum := "ce0ed5823b5826743a65d0d5d2bed30ebd610e216cba2cd050eac431f2d55672", func := "rootcellar/rootcellarlaw2.LeBad", spec := "leBad", apart := false, narrowed := true }
def LeBadUptoSaid : Prop := leBadUptoRow.holds Try.pinned (OpenSpec.upto leBadSpec)

/-- 'rootcellarlaw2.LeAdds', WHERE WHAT IT READS IS OF BULK AT MOST 1048576: true; the input reads as it did. -/
def leAddsUptoRow : OpenClaim := { program := "ytcgmgfhnpjojaaa", sum := "ce0ed5823b5826743a65d0d5d2bed30ebd610e216cba2cd050eac431f2d55672", func := "rootcellar/rootcellarlaw2.LeAdds", spec := "leAdds", inPlace := ["math/bits.Add64"], apart := false, narrowed := true }
def LeAddsUptoSaid : Prop := leAddsUptoRow.holds Try.pinned (OpenSpec.upto leAddsSpec)

/-- 'rootcellarlaw2.LeLaws', WHERE WHAT IT READS IS OF BULK AT MOST 1048576: true; the input reads as it did. -/
def leLawsUptoRow : OpenClaim := { program := "ytcgmgfhnpjojaaa", sum := "ce0ed5823b5826743a65d0d5d2bed30ebd610e216cba2cd050eac431f2d55672", func := "rootcellar/rootcellarlaw2.LeLaws", spec := "leLaws", inPlace := ["math/bits.Add64"], apart := false, narrowed := true }
def LeLawsUptoSaid : Prop := leLawsUptoRow.holds Try.pinned (OpenSpec.upto leLawsSpec)

end Rows
end Go.Proofs.Ytcgmgfhnpjojaaa
