/-
  NARROWER THAN 'FOR EVERY INPUT', by the rows' own cells (each row's printed sentence says how): IndexDoes: laid · IndexOrder: laid · IndexParts: laid · IndexBack: laid · IndexNone: laid · IndexRange: laid.
  DERIVED. THE GIVEN ROWS OF THIS SEAT. 6 by the template 'for every input the law returns true; each argument reads behind the call as it read before'; 0 by the template 'total and deterministic' (their statements: YtifaaacbbjlffaaDoorTotals.lean).
  GIVEN WITH THE SEED: the statements are not yours to turn. If you find one false, say at which input.
  Laid BY PROGRAM, IN A SANDBOX (cutbox-rows.mjs): the forced cells as the released guide's own fill.sh prints them over the translation 97c594f4d2064648… (all of the seat's roots in one cut). By AI agents, Wed Nov 11 2026. No macro, syntax, notation, axiom, sorry.
-/
import Derived.Test.YtifaaacbbjlffaaDoorChecked
import GoSem.PinnedTables
import GoSem.Claim
import GoSem.ClaimJoined
import GoSem.ClaimMapViews
import Derived.JoinedTies
import Derived.KernelRfl
namespace Go.Proofs.YtifaaacbbjlffaaDoor
/- THE CELL 'sum', in the pinned program and in every row, IS THE sha256 OF THE DUMP (.gsa) THAT YtifaaacbbjlffaaDoorProg.lean LOADS. Nothing in Lean hashes anything: it is a label: what it is worth is what the hold of that sum in a sandbox is worth. -/
noncomputable def Tryd.pinned : Pinned := { name := "ytifaaacbbjlffaadoor", sum := "97c594f4d20646483c9859b9b9b6136642b05356c16609277deddf00a8f207d2", checked := Tryd.checked }
namespace Rows
def none {H : Type} : Left H := { results := [], args := [] }

/- WHAT THE LISTED PACKAGE-LEVEL VARIABLES READ AS WHEN THE CALL BEGINS. Each datum BY PROGRAM (the guide's laid-datum.mjs) off the statement by which the dump's own 'gosem.cut.vars' lays the variable. In a bare row this is a premise. The card (YtifaaacbbjlffaaDoorCards.lean) ties it to the program's text. -/
def laid_unicode_utf8_acceptRanges {H : Type} : DataW H := .agg [.agg [.lit (.int .u8 128), .lit (.int .u8 191)], .agg [.lit (.int .u8 160), .lit (.int .u8 191)], .agg [.lit (.int .u8 128), .lit (.int .u8 159)], .agg [.lit (.int .u8 144), .lit (.int .u8 191)], .agg [.lit (.int .u8 128), .lit (.int .u8 143)], .agg [.lit (.int .u8 0), .lit (.int .u8 0)], .agg [.lit (.int .u8 0), .lit (.int .u8 0)], .agg [.lit (.int .u8 0), .lit (.int .u8 0)], .agg [.lit (.int .u8 0), .lit (.int .u8 0)], .agg [.lit (.int .u8 0), .lit (.int .u8 0)], .agg [.lit (.int .u8 0), .lit (.int .u8 0)], .agg [.lit (.int .u8 0), .lit (.int .u8 0)], .agg [.lit (.int .u8 0), .lit (.int .u8 0)], .agg [.lit (.int .u8 0), .lit (.int .u8 0)], .agg [.lit (.int .u8 0), .lit (.int .u8 0)], .agg [.lit (.int .u8 0), .lit (.int .u8 0)]]
/-- One of Go's own tables, pinned by name: the form's constant. -/
def laid_unicode_utf8_first : DataW Unit := Go.Pinned.utf8First

/-- 'morainelaw15.IndexDoes': WHATEVER THE INPUT: true; the input reads as it did. -/
def indexDoesSpec : ChangeSpec := { name := "indexDoes", fn := fun _ => fun
  | [d1, d2, d3] => { results := [.lit (.bool true)], args := [d1, d2, d3] }
  | _ => none }
def indexDoesRow : OpenClaim := { program := "ytifaaacbbjlffaadoor", sum := "97c594f4d20646483c9859b9b9b6136642b05356c16609277deddf00a8f207d2", func := "moraine/morainelaw15.IndexDoes", spec := "indexDoes", unfollowed := true, recurses := true, named := ["unicode/utf8.first", "unicode/utf8.acceptRanges"], apart := false, laid := [("unicode/utf8.acceptRanges", laid_unicode_utf8_acceptRanges), ("unicode/utf8.first", laid_unicode_utf8_first)] }
def IndexDoesSaid : Prop := indexDoesRow.holds Tryd.pinned (OpenSpec.ofChange indexDoesSpec)

/-- ITS FALSE NEIGHBOUR: 'it returns false'. Refute it at one input. -/
def indexDoesWrong : ChangeSpec := { name := "indexDoes", fn := fun _ => fun
  | [d1, d2, d3] => { results := [.lit (.bool false)], args := [d1, d2, d3] }
  | _ => none }
def IndexDoesWrongFalsely : Prop := indexDoesRow.holds Tryd.pinned (OpenSpec.ofChange indexDoesWrong)

/-- 'morainelaw15.IndexOrder': WHATEVER THE INPUT: true; the input reads as it did. -/
def indexOrderSpec : ChangeSpec := { name := "indexOrder", fn := fun _ => fun
  | [d1, d2, d3] => { results := [.lit (.bool true)], args := [d1, d2, d3] }
  | _ => none }
def indexOrderRow : OpenClaim := { program := "ytifaaacbbjlffaadoor", sum := "97c594f4d20646483c9859b9b9b6136642b05356c16609277deddf00a8f207d2", func := "moraine/morainelaw15.IndexOrder", spec := "indexOrder", unfollowed := true, recurses := true, named := ["unicode/utf8.first", "unicode/utf8.acceptRanges"], apart := false, laid := [("unicode/utf8.acceptRanges", laid_unicode_utf8_acceptRanges), ("unicode/utf8.first", laid_unicode_utf8_first)] }
def IndexOrderSaid : Prop := indexOrderRow.holds Tryd.pinned (OpenSpec.ofChange indexOrderSpec)

/-- ITS FALSE NEIGHBOUR: 'it returns false'. Refute it at one input. -/
def indexOrderWrong : ChangeSpec := { name := "indexOrder", fn := fun _ => fun
  | [d1, d2, d3] => { results := [.lit (.bool false)], args := [d1, d2, d3] }
  | _ => none }
def IndexOrderWrongFalsely : Prop := indexOrderRow.holds Tryd.pinned (OpenSpec.ofChange indexOrderWrong)

/-- 'morainelaw15.IndexParts': WHATEVER THE INPUT: true; the input reads as it did. -/
def indexPartsSpec : ChangeSpec := { name := "indexParts", fn := fun _ => fun
  | [d1, d2, d3, d4] => { results := [.lit (.bool true)], args := [d1, d2, d3, d4] }
  | _ => none }
def indexPartsRow : OpenClaim := { program := "ytifaaacbbjlffaadoor", sum := "97c594f4d20646483c9859b9b9b6136642b05356c16609277deddf00a8f207d2", func := "moraine/morainelaw15.IndexParts", spec := "indexParts", unfollowed := true, recurses := true, named := ["unicode/utf8.first", "unicode/utf8.acceptRanges"], apart := false, laid := [("unicode/utf8.acceptRanges", laid_unicode_utf8_acceptRanges), ("unicode/utf8.first", laid_unicode_utf8_first)] }
def IndexPartsSaid : Prop := indexPartsRow.holds Tryd.pinned (OpenSpec.ofChange indexPartsSpec)

/-- ITS FALSE NEIGHBOUR: 'it returns false'. Refute it at one input. -/
def indexPartsWrong : ChangeSpec := { name := "indexParts", fn := fun _ => fun
  | [d1, d2, d3, d4] => { results := [.lit (.bool false)], args := [d1, d2, d3, d4] }
  | _ => none }
def IndexPartsWrongFalsely : Prop := indexPartsRow.holds Tryd.pinned (OpenSpec.ofChange indexPartsWrong)

/-- 'morainelaw15.IndexBack': WHATEVER THE INPUT: true; the input reads as it did. -/
def indexBackSpec : ChangeSpec := { name := "indexBack", fn := fun _ => fun
  | [d1, d2, d3, d4, d5] => { results := [.lit (.bool true)], args := [d1, d2, d3, d4, d5] }
  | _ => none }
def indexBackRow : OpenClaim := { program := "ytifaaacbbjlffaadoor", sum := "97c594f4d20646483c9859b9b9b6136642b05356c16609277deddf00a8f207d2", func := "moraine/morainelaw15.IndexBack", spec := "indexBack", unfollowed := true, recurses := true, named := ["unicode/utf8.first", "unicode/utf8.acceptRanges"], apart := false, laid := [("unicode/utf8.acceptRanges", laid_unicode_utf8_acceptRanges), ("unicode/utf8.first", laid_unicode_utf8_first)] }
def IndexBackSaid : Prop := indexBackRow.holds Tryd.pinned (OpenSpec.ofChange indexBackSpec)

/-- ITS FALSE NEIGHBOUR: 'it returns false'. Refute it at one input. -/
def indexBackWrong : ChangeSpec := { name := "indexBack", fn := fun _ => fun
  | [d1, d2, d3, d4, d5] => { results := [.lit (.bool false)], args := [d1, d2, d3, d4, d5] }
  | _ => none }
def IndexBackWrongFalsely : Prop := indexBackRow.holds Tryd.pinned (OpenSpec.ofChange indexBackWrong)

/-- 'morainelaw15.IndexNone': WHATEVER THE INPUT: true; the input reads as it did. -/
def indexNoneSpec : ChangeSpec := { name := "indexNone", fn := fun _ => fun
  | [d1, d2, d3] => { results := [.lit (.bool true)], args := [d1, d2, d3] }
  | _ => none }
def indexNoneRow : OpenClaim := { program := "ytifaaacbbjlffaadoor", sum := "97c594f4d20646483c9859b9b9b6136642b05356c16609277deddf00a8f207d2", func := "moraine/morainelaw15.IndexNone", spec := "indexNone", unfollowed := true, recurses := true, named := ["unicode/utf8.first", "unicode/utf8.acceptRanges"], apart := false, laid := [("unicode/utf8.acceptRanges", laid_unicode_utf8_acceptRanges), ("unicode/utf8.first", laid_unicode_utf8_first)] }
def IndexNoneSaid : Prop := indexNoneRow.holds Tryd.pinned (OpenSpec.ofChange indexNoneSpec)

/-- ITS FALSE NEIGHBOUR: 'it returns false'. Refute it at one input. -/
def indexNoneWrong : ChangeSpec := { name := "indexNone", fn := fun _ => fun
  | [d1, d2, d3] => { results := [.lit (.bool false)], args := [d1, d2, d3] }
  | _ => none }
def IndexNoneWrongFalsely : Prop := indexNoneRow.holds Tryd.pinned (OpenSpec.ofChange indexNoneWrong)

/-- 'morainelaw15.IndexRange': WHATEVER THE INPUT: true; the input reads as it did. -/
def indexRangeSpec : ChangeSpec := { name := "indexRange", fn := fun _ => fun
  | [d1, d2, d3] => { results := [.lit (.bool true)], args := [d1, d2, d3] }
  | _ => none }
def indexRangeRow : OpenClaim := { program := "ytifaaacbbjlffaadoor", sum := "97c594f4d20646483c9859b9b9b6136642b05356c16609277deddf00a8f207d2", func := "moraine/morainelaw15.IndexRange", spec := "indexRange", unfollowed := true, recurses := true, named := ["unicode/utf8.first", "unicode/utf8.acceptRanges"], apart := false, laid := [("unicode/utf8.acceptRanges", laid_unicode_utf8_acceptRanges), ("unicode/utf8.first", laid_unicode_utf8_first)] }
def IndexRangeSaid : Prop := indexRangeRow.holds Tryd.pinned (OpenSpec.ofChange indexRangeSpec)

/-- ITS FALSE NEIGHBOUR: 'it returns false'. Refute it at one input. -/
def indexRangeWrong : ChangeSpec := { name := "indexRange", fn := fun _ => fun
  | [d1, d2, d3] => { results := [.lit (.bool false)], args := [d1, d2, d3] }
  | _ => none }
def IndexRangeWrongFalsely : Prop := indexRangeRow.holds Tryd.pinned (OpenSpec.ofChange indexRangeWrong)

/- THE SECOND FORM. 'bulk': how many values and letters a reading holds, each counted each time it is reached (what is shared counts as often as it is met; a slice's spare places count too). A statement '..UptoSaid' is the law's where the arguments, and the package variables that the reading takes, are together of bulk at most 1048576: NARROWER than '..Said'. Prove '..Said' where nothing that the law and all that it calls make is longer than what came in: it says more and counts as full. Else prove '..UptoSaid'. A law counts once. -/
mutual
def uptoBulk {H : Type} : DataW H → Nat
  | .lit (.string bytes) => bytes.length + 1
  | .lit _ => 1
  | .nil => 1
  | .ptr d => uptoBulk d + 1
  | .slice elems spare => uptoBulkAll elems + uptoBulkAll spare + 1
  | .agg parts => uptoBulkAll parts + 1
  | .iface _ d => uptoBulk d + 1
  | .map entries => uptoBulkEntries entries + 1
  | .held _ => 1
def uptoBulkAll {H : Type} : List (DataW H) → Nat
  | [] => 0
  | d :: r => uptoBulk d + uptoBulkAll r
def uptoBulkEntries {H : Type} : List (Lit × DataW H) → Nat
  | [] => 0
  | x :: r => uptoBulkEntry x + uptoBulkEntries r
def uptoBulkEntry {H : Type} : Lit × DataW H → Nat
  | (.string bytes, d) => bytes.length + uptoBulk d + 1
  | (_, d) => uptoBulk d + 1
 end
def uptoSmall : (H : Type) → List (DataW H) → Bool := fun _ ds => decide (uptoBulkAll ds ≤ 1048576)
def OpenSpec.upto (s : _root_.Go.ChangeSpec) : _root_.Go.OpenSpec := { _root_.Go.OpenSpec.ofChange s with cond := some uptoSmall }

/-- 'morainelaw15.IndexDoes', WHERE WHAT IT READS IS OF BULK AT MOST 1048576: true; the input reads as it did. -/
def indexDoesUptoRow : OpenClaim := { program := "ytifaaacbbjlffaadoor", sum := "97c594f4d20646483c9859b9b9b6136642b05356c16609277deddf00a8f207d2", func := "moraine/morainelaw15.IndexDoes", spec := "indexDoes", unfollowed := true, recurses := true, named := ["unicode/utf8.first", "unicode/utf8.acceptRanges"], apart := false, laid := [("unicode/utf8.acceptRanges", laid_unicode_utf8_acceptRanges), ("unicode/utf8.first", laid_unicode_utf8_first)], narrowed := true }
def IndexDoesUptoSaid : Prop := indexDoesUptoRow.holds Tryd.pinned (OpenSpec.upto indexDoesSpec)

/-- 'morainelaw15.IndexOrder', WHERE WHAT IT READS IS OF BULK AT MOST 1048576: true; the input reads as it did. -/
def indexOrderUptoRow : OpenClaim := { program := "ytifaaacbbjlffaadoor", sum := "97c594f4d20646483c9859b9b9b6136642b05356c16609277deddf00a8f207d2", func := "moraine/morainelaw15.IndexOrder", spec := "indexOrder", unfollowed := true, recurses := true, named := ["unicode/utf8.first", "unicode/utf8.acceptRanges"], apart := false, laid := [("unicode/utf8.acceptRanges", laid_unicode_utf8_acceptRanges), ("unicode/utf8.first", laid_unicode_utf8_first)], narrowed := true }
def IndexOrderUptoSaid : Prop := indexOrderUptoRow.holds Tryd.pinned (OpenSpec.upto indexOrderSpec)

/-- 'morainelaw15.IndexParts', WHERE WHAT IT READS IS OF BULK AT MOST 1048576: true; the input reads as it did. -/
def indexPartsUptoRow : OpenClaim := { program := "ytifaaacbbjlffaadoor", sum := "97c594f4d20646483c9859b9b9b6136642b05356c16609277deddf00a8f207d2", func := "moraine/morainelaw15.IndexParts", spec := "indexParts", unfollowed := true, recurses := true, named := ["unicode/utf8.first", "unicode/utf8.acceptRanges"], apart := false, laid := [("unicode/utf8.acceptRanges", laid_unicode_utf8_acceptRanges), ("unicode/utf8.first", laid_unicode_utf8_first)], narrowed := true }
def IndexPartsUptoSaid : Prop := indexPartsUptoRow.holds Tryd.pinned (OpenSpec.upto indexPartsSpec)

/-- 'morainelaw15.IndexBack', WHERE WHAT IT READS IS OF BULK AT MOST 1048576: true; the input reads as it did. -/
def indexBackUptoRow : OpenClaim := { program := "ytifaaacbbjlffaadoor", sum := "97c594f4d20646483c9859b9b9b6136642b05356c16609277deddf00a8f207d2", func := "moraine/morainelaw15.IndexBack", spec := "indexBack", unfollowed := true, recurses := true, named := ["unicode/utf8.first", "unicode/utf8.acceptRanges"], apart := false, laid := [("unicode/utf8.acceptRanges", laid_unicode_utf8_acceptRanges), ("unicode/utf8.first", laid_unicode_utf8_first)], narrowed := true }
def IndexBackUptoSaid : Prop := indexBackUptoRow.holds Tryd.pinned (OpenSpec.upto indexBackSpec)

/-- 'morainelaw15.IndexNone', WHERE WHAT IT READS IS OF BULK AT MOST 1048576: true; the input reads as it did. -/
def indexNoneUptoRow : OpenClaim := { program := "ytifaaacbbjlffaadoor", sum := "97c594f4d20646483c9859b9b9b6136642b05356c16609277deddf00a8f207d2", func := "moraine/morainelaw15.IndexNone", spec := "indexNone", unfollowed := true, recurses := true, named := ["unicode/utf8.first", "unicode/utf8.acceptRanges"], apart := false, laid := [("unicode/utf8.acceptRanges", laid_unicode_utf8_acceptRanges), ("unicode/utf8.first", laid_unicode_utf8_first)], narrowed := true }
def IndexNoneUptoSaid : Prop := indexNoneUptoRow.holds Tryd.pinned (OpenSpec.upto indexNoneSpec)

/-- 'morainelaw15.IndexRange', WHERE WHAT IT READS IS OF BULK AT MOST 1048576: true; the input reads as it did. -/
def indexRangeUptoRow : OpenClaim := { program := "ytifaaacbbjlffaadoor", sum := "97c594f4d20646483c9859b9b9b6136642b05356c16609277deddf00a8f207d2", func := "moraine/morainelaw15.IndexRange", spec := "indexRange", unfollowed := true, recurses := true, named := ["unicode/utf8.first", "unicode/utf8.acceptRanges"], apart := false, laid := [("unicode/utf8.acceptRanges", laid_unicode_utf8_acceptRanges), ("unicode/utf8.first", laid_unicode_utf8_first)], narrowed := true }
def IndexRangeUptoSaid : Prop := indexRangeUptoRow.holds Tryd.pinned (OpenSpec.upto indexRangeSpec)

end Rows
end Go.Proofs.YtifaaacbbjlffaaDoor
