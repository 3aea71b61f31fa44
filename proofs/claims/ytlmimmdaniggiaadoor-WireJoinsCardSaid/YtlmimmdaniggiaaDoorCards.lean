/-
  DERIVED. GIVEN WITH THE SEED: THE CARDS: each row of YtlmimmdaniggiaaDoorRows.lean that lists a variable, with what it lists TIED to the program's text (the seventh form; the later family's looks); each row that meets fmt, with fmt's text TOLD by the authors' own Lean function (tested against real Go, not proved from fmt's source: count such statements apart). THE CARD IS WHAT COUNTS. Prove the row's statement (the work); the ties are given (YtlmimmdaniggiaaDoorTie.lean); close each card by the builder's one call (the guide's Derived/Test/ToyasCard.lean, 'card_holds'). Laid BY PROGRAM, IN A SANDBOX (cutbox-door.mjs). By AI agents, Wed Nov 11 2026. No macro, syntax, notation, axiom, sorry.
-/
import Derived.Test.YtlmimmdaniggiaaDoorRows
import GoSem.ClaimSeven
namespace Go.Proofs.YtlmimmdaniggiaaDoor
namespace Rows

/-- THE TIED CARD OF 'morainelaw01.WireJoins'. -/
def wireJoinsCard : Claim7 := { stood := { row := wireJoinsRow, standIns := [], harness := (true, "6b46d0ffb1f1bc171a8b8bb84b92c4686513a40653afc9843caa347d4612a318"), looks := true }, kinds := [], alts := [], laidByText := true, laidKinds := [.sentinel, .sentinel], laidTests := true, laidLooks := .later }
def WireJoinsCardSaid : Prop := Claim7.holds Tryd.pinned (.plain (OpenSpec.ofChange wireJoinsSpec)) wireJoinsCard

/-- THE TIED CARD OF 'morainelaw01.WireApart'. -/
def wireApartCard : Claim7 := { stood := { row := wireApartRow, standIns := [], harness := (true, "6b46d0ffb1f1bc171a8b8bb84b92c4686513a40653afc9843caa347d4612a318"), looks := true }, kinds := [], alts := [], laidByText := true, laidKinds := [.sentinel, .sentinel], laidTests := true, laidLooks := .later }
def WireApartCardSaid : Prop := Claim7.holds Tryd.pinned (.plain (OpenSpec.ofChange wireApartSpec)) wireApartCard

/-- THE TIED CARD OF 'morainelaw01.WireSums'. -/
def wireSumsCard : Claim7 := { stood := { row := wireSumsRow, standIns := [], harness := (true, "6b46d0ffb1f1bc171a8b8bb84b92c4686513a40653afc9843caa347d4612a318"), looks := true }, kinds := [], alts := [], laidByText := true, laidKinds := [.sentinel, .sentinel], laidTests := true, laidLooks := .later }
def WireSumsCardSaid : Prop := Claim7.holds Tryd.pinned (.plain (OpenSpec.ofChange wireSumsSpec)) wireSumsCard

/-- THE TIED CARD OF 'morainelaw01.WireShort'. -/
def wireShortCard : Claim7 := { stood := { row := wireShortRow, standIns := [], harness := (true, "6b46d0ffb1f1bc171a8b8bb84b92c4686513a40653afc9843caa347d4612a318"), looks := true }, kinds := [], alts := [], laidByText := true, laidKinds := [.sentinel, .sentinel], laidTests := true, laidLooks := .later }
def WireShortCardSaid : Prop := Claim7.holds Tryd.pinned (.plain (OpenSpec.ofChange wireShortSpec)) wireShortCard

/-- THE SECOND FORM's CARD OF 'morainelaw01.WireJoins'. -/
def wireJoinsUptoCard : Claim7 := { stood := { row := wireJoinsUptoRow, standIns := [], harness := (true, "6b46d0ffb1f1bc171a8b8bb84b92c4686513a40653afc9843caa347d4612a318"), looks := true }, kinds := [], alts := [], laidByText := true, laidKinds := [.sentinel, .sentinel], laidTests := true, laidLooks := .later }
def WireJoinsUptoCardSaid : Prop := Claim7.holds Tryd.pinned (.plain (OpenSpec.upto wireJoinsSpec)) wireJoinsUptoCard

/-- THE SECOND FORM's CARD OF 'morainelaw01.WireApart'. -/
def wireApartUptoCard : Claim7 := { stood := { row := wireApartUptoRow, standIns := [], harness := (true, "6b46d0ffb1f1bc171a8b8bb84b92c4686513a40653afc9843caa347d4612a318"), looks := true }, kinds := [], alts := [], laidByText := true, laidKinds := [.sentinel, .sentinel], laidTests := true, laidLooks := .later }
def WireApartUptoCardSaid : Prop := Claim7.holds Tryd.pinned (.plain (OpenSpec.upto wireApartSpec)) wireApartUptoCard

/-- THE SECOND FORM's CARD OF 'morainelaw01.WireSums'. -/
def wireSumsUptoCard : Claim7 := { stood := { row := wireSumsUptoRow, standIns := [], harness := (true, "6b46d0ffb1f1bc171a8b8bb84b92c4686513a40653afc9843caa347d4612a318"), looks := true }, kinds := [], alts := [], laidByText := true, laidKinds := [.sentinel, .sentinel], laidTests := true, laidLooks := .later }
def WireSumsUptoCardSaid : Prop := Claim7.holds Tryd.pinned (.plain (OpenSpec.upto wireSumsSpec)) wireSumsUptoCard

/-- THE SECOND FORM's CARD OF 'morainelaw01.WireShort'. -/
def wireShortUptoCard : Claim7 := { stood := { row := wireShortUptoRow, standIns := [], harness := (true, "6b46d0ffb1f1bc171a8b8bb84b92c4686513a40653afc9843caa347d4612a318"), looks := true }, kinds := [], alts := [], laidByText := true, laidKinds := [.sentinel, .sentinel], laidTests := true, laidLooks := .later }
def WireShortUptoCardSaid : Prop := Claim7.holds Tryd.pinned (.plain (OpenSpec.upto wireShortSpec)) wireShortUptoCard
end Rows
end Go.Proofs.YtlmimmdaniggiaaDoor
