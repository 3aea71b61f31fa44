/-
  DERIVED. GIVEN WITH THE SEED: THE CARDS: each row of YtbcbefpninlfiaaGreatDoorRows.lean that lists a variable, with what it lists TIED to the program's text (the seventh form; the later family's looks); each row that meets fmt, with fmt's text TOLD by the authors' own Lean function (tested against real Go, not proved from fmt's source: count such statements apart). THE CARD IS WHAT COUNTS. Prove the row's statement (the work); the ties are given (YtbcbefpninlfiaaGreatDoorTie.lean); close each card by the builder's one call (the guide's Derived/Test/ToyasCard.lean, 'card_holds'). Laid BY PROGRAM, IN A SANDBOX (cutbox-door.mjs). By AI agents, Wed Nov 11 2026. No macro, syntax, notation, axiom, sorry.
-/
import Derived.Test.YtbcbefpninlfiaaGreatDoorRows
import GoSem.ClaimSeven
namespace Go.Proofs.YtbcbefpninlfiaaGreatDoor
namespace Rows

/-- THE TIED CARD OF 'morainelaw11.RecTells'. -/
def recTellsCard : Claim7 := { stood := { row := recTellsRow, standIns := [], harness := (true, "14d9e1f4cabb78a004f7e5575a138c4794663e6ea3acefc47cd241d4a6b22cbe"), looks := true }, kinds := [], alts := [], laidByText := true, laidKinds := [.data, .data, .data, .data, .handle, .sentinel, .sentinel, .pinned], laidTests := true, laidLooks := .later }
def RecTellsCardSaid : Prop := Claim7.holds Tryz.pinned (.plain (OpenSpec.ofChange recTellsSpec)) recTellsCard

/-- THE TIED CARD OF 'morainelaw11.RecReads'. -/
def recReadsCard : Claim7 := { stood := { row := recReadsRow, standIns := [], harness := (true, "14d9e1f4cabb78a004f7e5575a138c4794663e6ea3acefc47cd241d4a6b22cbe"), looks := true }, kinds := [], alts := [], laidByText := true, laidKinds := [.data, .data, .data, .data, .handle, .sentinel, .sentinel, .pinned], laidTests := true, laidLooks := .later }
def RecReadsCardSaid : Prop := Claim7.holds Tryz.pinned (.plain (OpenSpec.ofChange recReadsSpec)) recReadsCard

/-- THE TIED CARD OF 'morainelaw11.RecBack'. -/
def recBackCard : Claim7 := { stood := { row := recBackRow, standIns := [], harness := (true, "14d9e1f4cabb78a004f7e5575a138c4794663e6ea3acefc47cd241d4a6b22cbe"), looks := true }, kinds := [], alts := [], laidByText := true, laidKinds := [.data, .data, .data, .data, .handle, .sentinel, .sentinel, .pinned], laidTests := true, laidLooks := .later }
def RecBackCardSaid : Prop := Claim7.holds Tryz.pinned (.plain (OpenSpec.ofChange recBackSpec)) recBackCard

/-- THE TIED CARD OF 'morainelaw11.RecCuts'. -/
def recCutsCard : Claim7 := { stood := { row := recCutsRow, standIns := [], harness := (true, "14d9e1f4cabb78a004f7e5575a138c4794663e6ea3acefc47cd241d4a6b22cbe"), looks := true }, kinds := [], alts := [], laidByText := true, laidKinds := [.data, .data, .data, .data, .handle, .sentinel, .sentinel, .pinned], laidTests := true, laidLooks := .later }
def RecCutsCardSaid : Prop := Claim7.holds Tryz.pinned (.plain (OpenSpec.ofChange recCutsSpec)) recCutsCard

/-- THE TIED CARD OF 'morainelaw11.RecSizes'. -/
def recSizesCard : Claim7 := { stood := { row := recSizesRow, standIns := [], harness := (true, "14d9e1f4cabb78a004f7e5575a138c4794663e6ea3acefc47cd241d4a6b22cbe"), looks := true }, kinds := [], alts := [], laidByText := true, laidKinds := [.data, .data, .data, .data, .handle, .sentinel, .sentinel, .pinned], laidTests := true, laidLooks := .later }
def RecSizesCardSaid : Prop := Claim7.holds Tryz.pinned (.plain (OpenSpec.ofChange recSizesSpec)) recSizesCard

/-- THE TIED CARD OF 'morainelaw11.RecKeys'. -/
def recKeysCard : Claim7 := { stood := { row := recKeysRow, standIns := [], harness := (true, "14d9e1f4cabb78a004f7e5575a138c4794663e6ea3acefc47cd241d4a6b22cbe"), looks := true }, kinds := [], alts := [], laidByText := true, laidKinds := [.data, .data, .data, .data, .handle, .sentinel, .sentinel, .pinned], laidTests := true, laidLooks := .later }
def RecKeysCardSaid : Prop := Claim7.holds Tryz.pinned (.plain (OpenSpec.ofChange recKeysSpec)) recKeysCard

/-- THE TIED CARD OF 'morainelaw11.RecClasses'. -/
def recClassesCard : Claim7 := { stood := { row := recClassesRow, standIns := [], harness := (true, "14d9e1f4cabb78a004f7e5575a138c4794663e6ea3acefc47cd241d4a6b22cbe"), looks := true }, kinds := [], alts := [], laidByText := true, laidKinds := [.data, .data, .data, .data, .handle, .sentinel, .sentinel, .pinned], laidTests := true, laidLooks := .later }
def RecClassesCardSaid : Prop := Claim7.holds Tryz.pinned (.plain (OpenSpec.ofChange recClassesSpec)) recClassesCard

/-- THE TIED CARD OF 'morainelaw11.RecHead'. -/
def recHeadCard : Claim7 := { stood := { row := recHeadRow, standIns := [], harness := (true, "14d9e1f4cabb78a004f7e5575a138c4794663e6ea3acefc47cd241d4a6b22cbe"), looks := true }, kinds := [], alts := [], laidByText := true, laidKinds := [.data, .data, .data, .data, .handle, .sentinel, .sentinel, .pinned], laidTests := true, laidLooks := .later }
def RecHeadCardSaid : Prop := Claim7.holds Tryz.pinned (.plain (OpenSpec.ofChange recHeadSpec)) recHeadCard

/-- THE SECOND FORM's CARD OF 'morainelaw11.RecTells'. -/
def recTellsUptoCard : Claim7 := { stood := { row := recTellsUptoRow, standIns := [], harness := (true, "14d9e1f4cabb78a004f7e5575a138c4794663e6ea3acefc47cd241d4a6b22cbe"), looks := true }, kinds := [], alts := [], laidByText := true, laidKinds := [.data, .data, .data, .data, .handle, .sentinel, .sentinel, .pinned], laidTests := true, laidLooks := .later }
def RecTellsUptoCardSaid : Prop := Claim7.holds Tryz.pinned (.plain (OpenSpec.upto recTellsSpec)) recTellsUptoCard

/-- THE SECOND FORM's CARD OF 'morainelaw11.RecReads'. -/
def recReadsUptoCard : Claim7 := { stood := { row := recReadsUptoRow, standIns := [], harness := (true, "14d9e1f4cabb78a004f7e5575a138c4794663e6ea3acefc47cd241d4a6b22cbe"), looks := true }, kinds := [], alts := [], laidByText := true, laidKinds := [.data, .data, .data, .data, .handle, .sentinel, .sentinel, .pinned], laidTests := true, laidLooks := .later }
def RecReadsUptoCardSaid : Prop := Claim7.holds Tryz.pinned (.plain (OpenSpec.upto recReadsSpec)) recReadsUptoCard

/-- THE SECOND FORM's CARD OF 'morainelaw11.RecBack'. -/
def recBackUptoCard : Claim7 := { stood := { row := recBackUptoRow, standIns := [], harness := (true, "14d9e1f4cabb78a004f7e5575a138c4794663e6ea3acefc47cd241d4a6b22cbe"), looks := true }, kinds := [], alts := [], laidByText := true, laidKinds := [.data, .data, .data, .data, .handle, .sentinel, .sentinel, .pinned], laidTests := true, laidLooks := .later }
def RecBackUptoCardSaid : Prop := Claim7.holds Tryz.pinned (.plain (OpenSpec.upto recBackSpec)) recBackUptoCard

/-- THE SECOND FORM's CARD OF 'morainelaw11.RecCuts'. -/
def recCutsUptoCard : Claim7 := { stood := { row := recCutsUptoRow, standIns := [], harness := (true, "14d9e1f4cabb78a004f7e5575a138c4794663e6ea3acefc47cd241d4a6b22cbe"), looks := true }, kinds := [], alts := [], laidByText := true, laidKinds := [.data, .data, .data, .data, .handle, .sentinel, .sentinel, .pinned], laidTests := true, laidLooks := .later }
def RecCutsUptoCardSaid : Prop := Claim7.holds Tryz.pinned (.plain (OpenSpec.upto recCutsSpec)) recCutsUptoCard

/-- THE SECOND FORM's CARD OF 'morainelaw11.RecSizes'. -/
def recSizesUptoCard : Claim7 := { stood := { row := recSizesUptoRow, standIns := [], harness := (true, "14d9e1f4cabb78a004f7e5575a138c4794663e6ea3acefc47cd241d4a6b22cbe"), looks := true }, kinds := [], alts := [], laidByText := true, laidKinds := [.data, .data, .data, .data, .handle, .sentinel, .sentinel, .pinned], laidTests := true, laidLooks := .later }
def RecSizesUptoCardSaid : Prop := Claim7.holds Tryz.pinned (.plain (OpenSpec.upto recSizesSpec)) recSizesUptoCard

/-- THE SECOND FORM's CARD OF 'morainelaw11.RecKeys'. -/
def recKeysUptoCard : Claim7 := { stood := { row := recKeysUptoRow, standIns := [], harness := (true, "14d9e1f4cabb78a004f7e5575a138c4794663e6ea3acefc47cd241d4a6b22cbe"), looks := true }, kinds := [], alts := [], laidByText := true, laidKinds := [.data, .data, .data, .data, .handle, .sentinel, .sentinel, .pinned], laidTests := true, laidLooks := .later }
def RecKeysUptoCardSaid : Prop := Claim7.holds Tryz.pinned (.plain (OpenSpec.upto recKeysSpec)) recKeysUptoCard

/-- THE SECOND FORM's CARD OF 'morainelaw11.RecClasses'. -/
def recClassesUptoCard : Claim7 := { stood := { row := recClassesUptoRow, standIns := [], harness := (true, "14d9e1f4cabb78a004f7e5575a138c4794663e6ea3acefc47cd241d4a6b22cbe"), looks := true }, kinds := [], alts := [], laidByText := true, laidKinds := [.data, .data, .data, .data, .handle, .sentinel, .sentinel, .pinned], laidTests := true, laidLooks := .later }
def RecClassesUptoCardSaid : Prop := Claim7.holds Tryz.pinned (.plain (OpenSpec.upto recClassesSpec)) recClassesUptoCard

/-- THE SECOND FORM's CARD OF 'morainelaw11.RecHead'. -/
def recHeadUptoCard : Claim7 := { stood := { row := recHeadUptoRow, standIns := [], harness := (true, "14d9e1f4cabb78a004f7e5575a138c4794663e6ea3acefc47cd241d4a6b22cbe"), looks := true }, kinds := [], alts := [], laidByText := true, laidKinds := [.data, .data, .data, .data, .handle, .sentinel, .sentinel, .pinned], laidTests := true, laidLooks := .later }
def RecHeadUptoCardSaid : Prop := Claim7.holds Tryz.pinned (.plain (OpenSpec.upto recHeadSpec)) recHeadUptoCard
end Rows
end Go.Proofs.YtbcbefpninlfiaaGreatDoor
