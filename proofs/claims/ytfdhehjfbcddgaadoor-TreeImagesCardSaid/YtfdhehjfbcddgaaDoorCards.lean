/-
  DERIVED. GIVEN WITH THE SEED: THE CARDS: each row of YtfdhehjfbcddgaaDoorRows.lean that lists a variable, with what it lists TIED to the program's text (the seventh form; the later family's looks); each row that meets fmt, with fmt's text TOLD by the authors' own Lean function (tested against real Go, not proved from fmt's source: count such statements apart). THE CARD IS WHAT COUNTS. Prove the row's statement (the work); the ties are given (YtfdhehjfbcddgaaDoorTie.lean); close each card by the builder's one call (the guide's Derived/Test/ToyasCard.lean, 'card_holds'). Laid BY PROGRAM, IN A SANDBOX (cutbox-door.mjs). By AI agents, Wed Nov 11 2026. No macro, syntax, notation, axiom, sorry.
-/
import Derived.Test.YtfdhehjfbcddgaaDoorRows
import GoSem.ClaimSeven
namespace Go.Proofs.YtfdhehjfbcddgaaDoor
namespace Rows

/-- THE TIED CARD OF 'rootcellarlaw14.TreeNext'. -/
def treeNextCard : Claim7 := { stood := { row := treeNextRow, standIns := [], harness := (true, "2c40d26912a104ce15617e694774addac56bf7e9c5fd69f47c29defda3ec32b9"), looks := false }, kinds := [], alts := [], laidByText := true, laidKinds := [.data, .pinned], laidTests := true, laidLooks := .later }
def TreeNextCardSaid : Prop := Claim7.holds Tryd.pinned (.plain (OpenSpec.ofChange treeNextSpec)) treeNextCard

/-- THE TIED CARD OF 'rootcellarlaw14.TreeImages'. -/
def treeImagesCard : Claim7 := { stood := { row := treeImagesRow, standIns := [], harness := (true, "2c40d26912a104ce15617e694774addac56bf7e9c5fd69f47c29defda3ec32b9"), looks := false }, kinds := [], alts := [], laidByText := true, laidKinds := [.data, .pinned], laidTests := true, laidLooks := .later }
def TreeImagesCardSaid : Prop := Claim7.holds Tryd.pinned (.plain (OpenSpec.ofChange treeImagesSpec)) treeImagesCard

/-- THE TIED CARD OF 'rootcellarlaw14.TreePins'. -/
def treePinsCard : Claim7 := { stood := { row := treePinsRow, standIns := [], harness := (true, "2c40d26912a104ce15617e694774addac56bf7e9c5fd69f47c29defda3ec32b9"), looks := false }, kinds := [], alts := [], laidByText := true, laidKinds := [.data, .pinned], laidTests := true, laidLooks := .later }
def TreePinsCardSaid : Prop := Claim7.holds Tryd.pinned (.plain (OpenSpec.ofChange treePinsSpec)) treePinsCard

/-- THE TIED CARD OF 'rootcellarlaw14.TreePlays'. -/
def treePlaysCard : Claim7 := { stood := { row := treePlaysRow, standIns := [], harness := (true, "2c40d26912a104ce15617e694774addac56bf7e9c5fd69f47c29defda3ec32b9"), looks := false }, kinds := [], alts := [], laidByText := true, laidKinds := [.data, .pinned], laidTests := true, laidLooks := .later }
def TreePlaysCardSaid : Prop := Claim7.holds Tryd.pinned (.plain (OpenSpec.ofChange treePlaysSpec)) treePlaysCard

/-- THE TIED CARD OF 'rootcellarlaw14.TreePlans'. -/
def treePlansCard : Claim7 := { stood := { row := treePlansRow, standIns := [], harness := (true, "2c40d26912a104ce15617e694774addac56bf7e9c5fd69f47c29defda3ec32b9"), looks := false }, kinds := [], alts := [], laidByText := true, laidKinds := [.data, .pinned], laidTests := true, laidLooks := .later }
def TreePlansCardSaid : Prop := Claim7.holds Tryd.pinned (.plain (OpenSpec.ofChange treePlansSpec)) treePlansCard

/-- THE TIED CARD OF 'rootcellarlaw14.TreeMakes'. -/
def treeMakesCard : Claim7 := { stood := { row := treeMakesRow, standIns := [], harness := (true, "2c40d26912a104ce15617e694774addac56bf7e9c5fd69f47c29defda3ec32b9"), looks := false }, kinds := [], alts := [], laidByText := true, laidKinds := [.data, .pinned], laidTests := true, laidLooks := .later }
def TreeMakesCardSaid : Prop := Claim7.holds Tryd.pinned (.plain (OpenSpec.ofChange treeMakesSpec)) treeMakesCard

/-- THE SECOND FORM's CARD OF 'rootcellarlaw14.TreeNext'. -/
def treeNextUptoCard : Claim7 := { stood := { row := treeNextUptoRow, standIns := [], harness := (true, "2c40d26912a104ce15617e694774addac56bf7e9c5fd69f47c29defda3ec32b9"), looks := false }, kinds := [], alts := [], laidByText := true, laidKinds := [.data, .pinned], laidTests := true, laidLooks := .later }
def TreeNextUptoCardSaid : Prop := Claim7.holds Tryd.pinned (.plain (OpenSpec.upto treeNextSpec)) treeNextUptoCard

/-- THE SECOND FORM's CARD OF 'rootcellarlaw14.TreeImages'. -/
def treeImagesUptoCard : Claim7 := { stood := { row := treeImagesUptoRow, standIns := [], harness := (true, "2c40d26912a104ce15617e694774addac56bf7e9c5fd69f47c29defda3ec32b9"), looks := false }, kinds := [], alts := [], laidByText := true, laidKinds := [.data, .pinned], laidTests := true, laidLooks := .later }
def TreeImagesUptoCardSaid : Prop := Claim7.holds Tryd.pinned (.plain (OpenSpec.upto treeImagesSpec)) treeImagesUptoCard

/-- THE SECOND FORM's CARD OF 'rootcellarlaw14.TreePins'. -/
def treePinsUptoCard : Claim7 := { stood := { row := treePinsUptoRow, standIns := [], harness := (true, "2c40d26912a104ce15617e694774addac56bf7e9c5fd69f47c29defda3ec32b9"), looks := false }, kinds := [], alts := [], laidByText := true, laidKinds := [.data, .pinned], laidTests := true, laidLooks := .later }
def TreePinsUptoCardSaid : Prop := Claim7.holds Tryd.pinned (.plain (OpenSpec.upto treePinsSpec)) treePinsUptoCard

/-- THE SECOND FORM's CARD OF 'rootcellarlaw14.TreePlays'. -/
def treePlaysUptoCard : Claim7 := { stood := { row := treePlaysUptoRow, standIns := [], harness := (true, "2c40d26912a104ce15617e694774addac56bf7e9c5fd69f47c29defda3ec32b9"), looks := false }, kinds := [], alts := [], laidByText := true, laidKinds := [.data, .pinned], laidTests := true, laidLooks := .later }
def TreePlaysUptoCardSaid : Prop := Claim7.holds Tryd.pinned (.plain (OpenSpec.upto treePlaysSpec)) treePlaysUptoCard

/-- THE SECOND FORM's CARD OF 'rootcellarlaw14.TreePlans'. -/
def treePlansUptoCard : Claim7 := { stood := { row := treePlansUptoRow, standIns := [], harness := (true, "2c40d26912a104ce15617e694774addac56bf7e9c5fd69f47c29defda3ec32b9"), looks := false }, kinds := [], alts := [], laidByText := true, laidKinds := [.data, .pinned], laidTests := true, laidLooks := .later }
def TreePlansUptoCardSaid : Prop := Claim7.holds Tryd.pinned (.plain (OpenSpec.upto treePlansSpec)) treePlansUptoCard

/-- THE SECOND FORM's CARD OF 'rootcellarlaw14.TreeMakes'. -/
def treeMakesUptoCard : Claim7 := { stood := { row := treeMakesUptoRow, standIns := [], harness := (true, "2c40d26912a104ce15617e694774addac56bf7e9c5fd69f47c29defda3ec32b9"), looks := false }, kinds := [], alts := [], laidByText := true, laidKinds := [.data, .pinned], laidTests := true, laidLooks := .later }
def TreeMakesUptoCardSaid : Prop := Claim7.holds Tryd.pinned (.plain (OpenSpec.upto treeMakesSpec)) treeMakesUptoCard
end Rows
end Go.Proofs.YtfdhehjfbcddgaaDoor
