/-
  No cell of these rows narrows 'for every input' (looked for: loops, veiled, ifaces, maps, wideKeys, modest, calm, conditions, laid).
  DERIVED. THE GIVEN ROWS OF THIS SEAT. 6 by the template 'for every input the law returns true; each argument reads behind the call as it read before'; 0 by the template 'total and deterministic' (their statements: YtcncaflegghhfaaTotals.lean).
  GIVEN WITH THE SEED: the statements are not yours to turn. If you find one false, say at which input.
  Laid BY PROGRAM, IN A SANDBOX (cutbox-rows.mjs): the forced cells as the released guide's own fill.sh prints them over the translation a9fb88e29257750a… (all of the seat's roots in one cut). By AI agents, Wed Nov 11 2026. No macro, syntax, notation, axiom, sorry.
-/
import Derived.Test.YtcncaflegghhfaaChecked
import GoSem.Claim
import GoSem.ClaimJoined
import GoSem.ClaimMapViews
import Derived.JoinedTies
import Derived.KernelRfl
namespace Go.Proofs.Ytcncaflegghhfaa
/- THE CELL 'sum', in the pinned program and in every row, IS THE sha256 OF THE DUMP (.gsa) THAT YtcncaflegghhfaaProg.lean LOADS. Nothing in Lean hashes anything: it is a label: what it is worth is what the hold of that sum in a sandbox is worth. -/
noncomputable def Try.pinned : Pinned := { name := "ytcncaflegghhfaa", sum := "a9fb88e29257750ade8054934920fa5d67c66b7d873e20828fe3ff6189ce50a7", checked := Try.checked }
namespace Rows
def none {H : Type} : Left H := { results := [], args := [] }

/-- 'rootcellarlaw3.SealAffine': WHATEVER THE INPUT: true; the input reads as it did. -/
def sealAffineSpec : ChangeSpec := { name := "sealAffine", fn := fun _ => fun
  | [d1, d2, d3] => { results := [.lit (.bool true)], args := [d1, d2, d3] }
  | _ => none }
def sealAffineRow : OpenClaim := { program := "ytcncaflegghhfaa", sum := "a9fb88e29257750ade8054934920fa5d67c66b7d873e20828fe3ff6189ce50a7", func := "rootcellar/rootcellarlaw3.SealAffine", spec := "sealAffine", apart := false }
def SealAffineSaid : Prop := sealAffineRow.holds Try.pinned (OpenSpec.ofChange sealAffineSpec)

/-- ITS FALSE NEIGHBOUR: 'it returns false'. Refute it at one input. -/
def sealAffineWrong : ChangeSpec := { name := "sealAffine", fn := fun _ => fun
  | [d1, d2, d3] => { results := [.lit (.bool false)], args := [d1, d2, d3] }
  | _ => none }
def SealAffineWrongFalsely : Prop := sealAffineRow.holds Try.pinned (OpenSpec.ofChange sealAffineWrong)

/-- 'rootcellarlaw3.SealSteps': WHATEVER THE INPUT: true; the input reads as it did. -/
def sealStepsSpec : ChangeSpec := { name := "sealSteps", fn := fun _ => fun
  | [d1, d2] => { results := [.lit (.bool true)], args := [d1, d2] }
  | _ => none }
def sealStepsRow : OpenClaim := { program := "ytcncaflegghhfaa", sum := "a9fb88e29257750ade8054934920fa5d67c66b7d873e20828fe3ff6189ce50a7", func := "rootcellar/rootcellarlaw3.SealSteps", spec := "sealSteps", apart := false }
def SealStepsSaid : Prop := sealStepsRow.holds Try.pinned (OpenSpec.ofChange sealStepsSpec)

/-- ITS FALSE NEIGHBOUR: 'it returns false'. Refute it at one input. -/
def sealStepsWrong : ChangeSpec := { name := "sealSteps", fn := fun _ => fun
  | [d1, d2] => { results := [.lit (.bool false)], args := [d1, d2] }
  | _ => none }
def SealStepsWrongFalsely : Prop := sealStepsRow.holds Try.pinned (OpenSpec.ofChange sealStepsWrong)

/-- 'rootcellarlaw3.SealFinds': WHATEVER THE INPUT: true; the input reads as it did. -/
def sealFindsSpec : ChangeSpec := { name := "sealFinds", fn := fun _ => fun
  | [d1, d2, d3] => { results := [.lit (.bool true)], args := [d1, d2, d3] }
  | _ => none }
def sealFindsRow : OpenClaim := { program := "ytcncaflegghhfaa", sum := "a9fb88e29257750ade8054934920fa5d67c66b7d873e20828fe3ff6189ce50a7", func := "rootcellar/rootcellarlaw3.SealFinds", spec := "sealFinds", apart := false }
def SealFindsSaid : Prop := sealFindsRow.holds Try.pinned (OpenSpec.ofChange sealFindsSpec)

/-- ITS FALSE NEIGHBOUR: 'it returns false'. Refute it at one input. -/
def sealFindsWrong : ChangeSpec := { name := "sealFinds", fn := fun _ => fun
  | [d1, d2, d3] => { results := [.lit (.bool false)], args := [d1, d2, d3] }
  | _ => none }
def SealFindsWrongFalsely : Prop := sealFindsRow.holds Try.pinned (OpenSpec.ofChange sealFindsWrong)

/-- 'rootcellarlaw3.SealOnce': WHATEVER THE INPUT: true; the input reads as it did. -/
def sealOnceSpec : ChangeSpec := { name := "sealOnce", fn := fun _ => fun
  | [d1, d2] => { results := [.lit (.bool true)], args := [d1, d2] }
  | _ => none }
def sealOnceRow : OpenClaim := { program := "ytcncaflegghhfaa", sum := "a9fb88e29257750ade8054934920fa5d67c66b7d873e20828fe3ff6189ce50a7", func := "rootcellar/rootcellarlaw3.SealOnce", spec := "sealOnce", apart := false }
def SealOnceSaid : Prop := sealOnceRow.holds Try.pinned (OpenSpec.ofChange sealOnceSpec)

/-- ITS FALSE NEIGHBOUR: 'it returns false'. Refute it at one input. -/
def sealOnceWrong : ChangeSpec := { name := "sealOnce", fn := fun _ => fun
  | [d1, d2] => { results := [.lit (.bool false)], args := [d1, d2] }
  | _ => none }
def SealOnceWrongFalsely : Prop := sealOnceRow.holds Try.pinned (OpenSpec.ofChange sealOnceWrong)

/-- 'rootcellarlaw3.SealSums': WHATEVER THE INPUT: true; the input reads as it did. -/
def sealSumsSpec : ChangeSpec := { name := "sealSums", fn := fun _ => fun
  | [d1, d2] => { results := [.lit (.bool true)], args := [d1, d2] }
  | _ => none }
def sealSumsRow : OpenClaim := { program := "ytcncaflegghhfaa", sum := "a9fb88e29257750ade8054934920fa5d67c66b7d873e20828fe3ff6189ce50a7", func := "rootcellar/rootcellarlaw3.SealSums", spec := "sealSums", apart := false }
def SealSumsSaid : Prop := sealSumsRow.holds Try.pinned (OpenSpec.ofChange sealSumsSpec)

/-- ITS FALSE NEIGHBOUR: 'it returns false'. Refute it at one input. -/
def sealSumsWrong : ChangeSpec := { name := "sealSums", fn := fun _ => fun
  | [d1, d2] => { results := [.lit (.bool false)], args := [d1, d2] }
  | _ => none }
def SealSumsWrongFalsely : Prop := sealSumsRow.holds Try.pinned (OpenSpec.ofChange sealSumsWrong)

/-- 'rootcellarlaw3.SealBack': WHATEVER THE INPUT: true; the input reads as it did. -/
def sealBackSpec : ChangeSpec := { name := "sealBack", fn := fun _ => fun
  | [d] => { results := [.lit (.bool true)], args := [d] }
  | _ => none }
def sealBackRow : OpenClaim := { program := "ytcncaflegghhfaa", sum := "a9fb88e29257750ade8054934920fa5d67c66b7d873e20828fe3ff6189ce50a7", func := "rootcellar/rootcellarlaw3.SealBack", spec := "sealBack", apart := false }
def SealBackSaid : Prop := sealBackRow.holds Try.pinned (OpenSpec.ofChange sealBackSpec)

/-- ITS FALSE NEIGHBOUR: 'it returns false'. Refute it at one input. -/
def sealBackWrong : ChangeSpec := { name := "sealBack", fn := fun _ => fun
  | [d] => { results := [.lit (.bool false)], args := [d] }
  | _ => none }
def SealBackWrongFalsely : Prop := sealBackRow.holds Try.pinned (OpenSpec.ofChange sealBackWrong)

/- THE SECOND FORM. 'bulk': how many values and letters a reading holds, each counted each time it is reached (what is shared counts as often as it is met; a slice's spare places count too). A statement '..UptoSaid' is the law's where the arguments, and the package variables that the reading takes, are together of bulk at most 1048576: NARROWER than '..Said'. Prove '..Said' where nothing that the law and all that it calls make is longer than what came in: it says more and counts as full. Else prove '..UptoSaid'. A law counts once. -/
mutual
def uptoBulk {H : Type} : DataW H → Nat
  | .lit (.string bytes) => bytes.length + 1
  | .lit _ => 1
  | .nil => 1
  | .ptr d => uptoBulk d + 1
  | .slice elems spare => uptoBulkAll elems + uptoBulkAll spare + 1
  | .agg parts => uptoBulkAll parts + 1
  | .iface _ d => uptoBulk d + 1
  | .map entries => uptoBulkEntries entries + 1
  | .held _ => 1
def uptoBulkAll {H : Type} : List (DataW H) → Nat
  | [] => 0
  | d :: r => uptoBulk d + uptoBulkAll r
def uptoBulkEntries {H : Type} : List (Lit × DataW H) → Nat
  | [] => 0
  | x :: r => uptoBulkEntry x + uptoBulkEntries r
def uptoBulkEntry {H : Type} : Lit × DataW H → Nat
  | (.string bytes, d) => bytes.length + uptoBulk d + 1
  | (_, d) => uptoBulk d + 1
 end
def uptoSmall : (H : Type) → List (DataW H) → Bool := fun _ ds => decide (uptoBulkAll ds ≤ 1048576)
def OpenSpec.upto (s : _root_.Go.ChangeSpec) : _root_.Go.OpenSpec := { _root_.Go.OpenSpec.ofChange s with cond := some uptoSmall }

/-- 'rootcellarlaw3.SealAffine', WHERE WHAT IT READS IS OF BULK AT MOST 1048576: true; the input reads as it did. -/
def sealAffineUptoRow : OpenClaim := { program := "ytcncaflegghhfaa", sum := "a9fb88e29257750ade8054934920fa5d67c66b7d873e20828fe3ff6189ce50a7", func := "rootcellar/rootcellarlaw3.SealAffine", spec := "sealAffine", apart := false, narrowed := true }
def SealAffineUptoSaid : Prop := sealAffineUptoRow.holds Try.pinned (OpenSpec.upto sealAffineSpec)

/-- 'rootcellarlaw3.SealSteps', WHERE WHAT IT READS IS OF BULK AT MOST 1048576: true; the input reads as it did. -/
def sealStepsUptoRow : OpenClaim := { program := "ytcncaflegghhfaa", sum := "a9fb88e29257750ade8054934920fa5d67c66b7d873e20828fe3ff6189ce50a7", func := "rootcellar/rootcellarlaw3.SealSteps", spec := "sealSteps", apart := false, narrowed := true }
def SealStepsUptoSaid : Prop := sealStepsUptoRow.holds Try.pinned (OpenSpec.upto sealStepsSpec)

/-- 'rootcellarlaw3.SealFinds', WHERE WHAT IT READS IS OF BULK AT MOST 1048576: true; the input reads as it did. -/
def sealFindsUptoRow : OpenClaim := { program := "ytcncaflegghhfaa", sum := "a9fb88e29257750ade8054934920fa5d67c66b7d873e20828fe3ff6189ce50a7", func := "rootcellar/rootcellarlaw3.SealFinds", spec := "sealFinds", apart := false, narrowed := true }
def SealFindsUptoSaid : Prop := sealFindsUptoRow.holds Try.pinned (OpenSpec.upto sealFindsSpec)

/-- 'rootcellarlaw3.SealOnce', WHERE WHAT IT READS IS OF BULK AT MOST 1048576: true; the input reads as it did. -/
def sealOnceUptoRow : OpenClaim := { program := "ytcncaflegghhfaa", sum := "a9fb88e29257750ade8054934920fa5d67c66b7d873e20828fe3ff6189ce50a7", func := "rootcellar/rootcellarlaw3.SealOnce", spec := "sealOnce", apart := false, narrowed := true }
def SealOnceUptoSaid : Prop := sealOnceUptoRow.holds Try.pinned (OpenSpec.upto sealOnceSpec)

/-- 'rootcellarlaw3.SealSums', WHERE WHAT IT READS IS OF BULK AT MOST 1048576: true; the input reads as it did. -/
def sealSumsUptoRow : OpenClaim := { program := "ytcncaflegghhfaa", sum := "a9fb88e29257750ade8054934920fa5d67c66b7d873e20828fe3ff6189ce50a7", func := "rootcellar/rootcellarlaw3.SealSums", spec := "sealSums", apart := false, narrowed := true }
def SealSumsUptoSaid : Prop := sealSumsUptoRow.holds Try.pinned (OpenSpec.upto sealSumsSpec)

/-- 'rootcellarlaw3.SealBack', WHERE WHAT IT READS IS OF BULK AT MOST 1048576: true; the input reads as it did. -/
def sealBackUptoRow : OpenClaim := { program := "ytcncaflegghhfaa", sum := "a9fb88e29257750ade8054934920fa5d67c66b7d873e20828fe3ff6189ce50a7", func := "rootcellar/rootcellarlaw3.SealBack", spec := "sealBack", apart := false, narrowed := true }
def SealBackUptoSaid : Prop := sealBackUptoRow.holds Try.pinned (OpenSpec.upto sealBackSpec)

end Rows
end Go.Proofs.Ytcncaflegghhfaa
