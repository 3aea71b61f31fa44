/-
  DERIVED. GIVEN WITH THE SEED: THE CARDS: each row of YtifaaacbbjlffaaDoorRows.lean that lists a variable, with what it lists TIED to the program's text (the seventh form; the later family's looks); each row that meets fmt, with fmt's text TOLD by the authors' own Lean function (tested against real Go, not proved from fmt's source: count such statements apart). THE CARD IS WHAT COUNTS. Prove the row's statement (the work); the ties are given (YtifaaacbbjlffaaDoorTie.lean); close each card by the builder's one call (the guide's Derived/Test/ToyasCard.lean, 'card_holds'). Laid BY PROGRAM, IN A SANDBOX (cutbox-door.mjs). By AI agents, Wed Nov 11 2026. No macro, syntax, notation, axiom, sorry.
-/
import Derived.Test.YtifaaacbbjlffaaDoorRows
import GoSem.ClaimSeven
namespace Go.Proofs.YtifaaacbbjlffaaDoor
namespace Rows

/-- THE TIED CARD OF 'morainelaw15.IndexDoes'. -/
def indexDoesCard : Claim7 := { stood := { row := indexDoesRow, standIns := [], harness := (true, "eca846c90bbedc3604a6f2d5bf5c1f0c16d57a57ca17bbcb8ef9cafe9bc0402b"), looks := false }, kinds := [], alts := [], laidByText := true, laidKinds := [.data, .pinned], laidTests := true, laidLooks := .later }
def IndexDoesCardSaid : Prop := Claim7.holds Tryd.pinned (.plain (OpenSpec.ofChange indexDoesSpec)) indexDoesCard

/-- THE TIED CARD OF 'morainelaw15.IndexOrder'. -/
def indexOrderCard : Claim7 := { stood := { row := indexOrderRow, standIns := [], harness := (true, "eca846c90bbedc3604a6f2d5bf5c1f0c16d57a57ca17bbcb8ef9cafe9bc0402b"), looks := false }, kinds := [], alts := [], laidByText := true, laidKinds := [.data, .pinned], laidTests := true, laidLooks := .later }
def IndexOrderCardSaid : Prop := Claim7.holds Tryd.pinned (.plain (OpenSpec.ofChange indexOrderSpec)) indexOrderCard

/-- THE TIED CARD OF 'morainelaw15.IndexParts'. -/
def indexPartsCard : Claim7 := { stood := { row := indexPartsRow, standIns := [], harness := (true, "eca846c90bbedc3604a6f2d5bf5c1f0c16d57a57ca17bbcb8ef9cafe9bc0402b"), looks := false }, kinds := [], alts := [], laidByText := true, laidKinds := [.data, .pinned], laidTests := true, laidLooks := .later }
def IndexPartsCardSaid : Prop := Claim7.holds Tryd.pinned (.plain (OpenSpec.ofChange indexPartsSpec)) indexPartsCard

/-- THE TIED CARD OF 'morainelaw15.IndexBack'. -/
def indexBackCard : Claim7 := { stood := { row := indexBackRow, standIns := [], harness := (true, "eca846c90bbedc3604a6f2d5bf5c1f0c16d57a57ca17bbcb8ef9cafe9bc0402b"), looks := false }, kinds := [], alts := [], laidByText := true, laidKinds := [.data, .pinned], laidTests := true, laidLooks := .later }
def IndexBackCardSaid : Prop := Claim7.holds Tryd.pinned (.plain (OpenSpec.ofChange indexBackSpec)) indexBackCard

/-- THE TIED CARD OF 'morainelaw15.IndexNone'. -/
def indexNoneCard : Claim7 := { stood := { row := indexNoneRow, standIns := [], harness := (true, "eca846c90bbedc3604a6f2d5bf5c1f0c16d57a57ca17bbcb8ef9cafe9bc0402b"), looks := false }, kinds := [], alts := [], laidByText := true, laidKinds := [.data, .pinned], laidTests := true, laidLooks := .later }
def IndexNoneCardSaid : Prop := Claim7.holds Tryd.pinned (.plain (OpenSpec.ofChange indexNoneSpec)) indexNoneCard

/-- THE TIED CARD OF 'morainelaw15.IndexRange'. -/
def indexRangeCard : Claim7 := { stood := { row := indexRangeRow, standIns := [], harness := (true, "eca846c90bbedc3604a6f2d5bf5c1f0c16d57a57ca17bbcb8ef9cafe9bc0402b"), looks := false }, kinds := [], alts := [], laidByText := true, laidKinds := [.data, .pinned], laidTests := true, laidLooks := .later }
def IndexRangeCardSaid : Prop := Claim7.holds Tryd.pinned (.plain (OpenSpec.ofChange indexRangeSpec)) indexRangeCard

/-- THE SECOND FORM's CARD OF 'morainelaw15.IndexDoes'. -/
def indexDoesUptoCard : Claim7 := { stood := { row := indexDoesUptoRow, standIns := [], harness := (true, "eca846c90bbedc3604a6f2d5bf5c1f0c16d57a57ca17bbcb8ef9cafe9bc0402b"), looks := false }, kinds := [], alts := [], laidByText := true, laidKinds := [.data, .pinned], laidTests := true, laidLooks := .later }
def IndexDoesUptoCardSaid : Prop := Claim7.holds Tryd.pinned (.plain (OpenSpec.upto indexDoesSpec)) indexDoesUptoCard

/-- THE SECOND FORM's CARD OF 'morainelaw15.IndexOrder'. -/
def indexOrderUptoCard : Claim7 := { stood := { row := indexOrderUptoRow, standIns := [], harness := (true, "eca846c90bbedc3604a6f2d5bf5c1f0c16d57a57ca17bbcb8ef9cafe9bc0402b"), looks := false }, kinds := [], alts := [], laidByText := true, laidKinds := [.data, .pinned], laidTests := true, laidLooks := .later }
def IndexOrderUptoCardSaid : Prop := Claim7.holds Tryd.pinned (.plain (OpenSpec.upto indexOrderSpec)) indexOrderUptoCard

/-- THE SECOND FORM's CARD OF 'morainelaw15.IndexParts'. -/
def indexPartsUptoCard : Claim7 := { stood := { row := indexPartsUptoRow, standIns := [], harness := (true, "eca846c90bbedc3604a6f2d5bf5c1f0c16d57a57ca17bbcb8ef9cafe9bc0402b"), looks := false }, kinds := [], alts := [], laidByText := true, laidKinds := [.data, .pinned], laidTests := true, laidLooks := .later }
def IndexPartsUptoCardSaid : Prop := Claim7.holds Tryd.pinned (.plain (OpenSpec.upto indexPartsSpec)) indexPartsUptoCard

/-- THE SECOND FORM's CARD OF 'morainelaw15.IndexBack'. -/
def indexBackUptoCard : Claim7 := { stood := { row := indexBackUptoRow, standIns := [], harness := (true, "eca846c90bbedc3604a6f2d5bf5c1f0c16d57a57ca17bbcb8ef9cafe9bc0402b"), looks := false }, kinds := [], alts := [], laidByText := true, laidKinds := [.data, .pinned], laidTests := true, laidLooks := .later }
def IndexBackUptoCardSaid : Prop := Claim7.holds Tryd.pinned (.plain (OpenSpec.upto indexBackSpec)) indexBackUptoCard

/-- THE SECOND FORM's CARD OF 'morainelaw15.IndexNone'. -/
def indexNoneUptoCard : Claim7 := { stood := { row := indexNoneUptoRow, standIns := [], harness := (true, "eca846c90bbedc3604a6f2d5bf5c1f0c16d57a57ca17bbcb8ef9cafe9bc0402b"), looks := false }, kinds := [], alts := [], laidByText := true, laidKinds := [.data, .pinned], laidTests := true, laidLooks := .later }
def IndexNoneUptoCardSaid : Prop := Claim7.holds Tryd.pinned (.plain (OpenSpec.upto indexNoneSpec)) indexNoneUptoCard

/-- THE SECOND FORM's CARD OF 'morainelaw15.IndexRange'. -/
def indexRangeUptoCard : Claim7 := { stood := { row := indexRangeUptoRow, standIns := [], harness := (true, "eca846c90bbedc3604a6f2d5bf5c1f0c16d57a57ca17bbcb8ef9cafe9bc0402b"), looks := false }, kinds := [], alts := [], laidByText := true, laidKinds := [.data, .pinned], laidTests := true, laidLooks := .later }
def IndexRangeUptoCardSaid : Prop := Claim7.holds Tryd.pinned (.plain (OpenSpec.upto indexRangeSpec)) indexRangeUptoCard
end Rows
end Go.Proofs.YtifaaacbbjlffaaDoor
