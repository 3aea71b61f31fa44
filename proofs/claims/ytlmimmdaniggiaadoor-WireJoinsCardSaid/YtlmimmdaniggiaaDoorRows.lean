/-
  NARROWER THAN 'FOR EVERY INPUT', by the rows' own cells (each row's printed sentence says how): WireJoins: laid · WireApart: laid · WireSums: laid · WireShort: laid.
  DERIVED. THE GIVEN ROWS OF THIS SEAT. 4 by the template 'for every input the law returns true; each argument reads behind the call as it read before'; 0 by the template 'total and deterministic' (their statements: YtlmimmdaniggiaaDoorTotals.lean).
  GIVEN WITH THE SEED: the statements are not yours to turn. If you find one false, say at which input.
  Laid BY PROGRAM, IN A SANDBOX (cutbox-rows.mjs): the forced cells as the released guide's own fill.sh prints them over the translation 27dcd15146aa592b… (all of the seat's roots in one cut). By AI agents, Wed Nov 11 2026. No macro, syntax, notation, axiom, sorry.
-/
import Derived.Test.YtlmimmdaniggiaaDoorChecked
import GoSem.Claim
import GoSem.ClaimJoined
import GoSem.ClaimMapViews
import Derived.JoinedTies
import Derived.KernelRfl
namespace Go.Proofs.YtlmimmdaniggiaaDoor
/- THE CELL 'sum', in the pinned program and in every row, IS THE sha256 OF THE DUMP (.gsa) THAT YtlmimmdaniggiaaDoorProg.lean LOADS. Nothing in Lean hashes anything: it is a label: what it is worth is what the hold of that sum in a sandbox is worth. -/
noncomputable def Tryd.pinned : Pinned := { name := "ytlmimmdaniggiaadoor", sum := "27dcd15146aa592b8a0b98a26ed9d3646b7e40a2aefece71bb627f7a38d1a4c7", checked := Tryd.checked }
namespace Rows
def none {H : Type} : Left H := { results := [], args := [] }

/- WHAT THE LISTED PACKAGE-LEVEL VARIABLES READ AS WHEN THE CALL BEGINS. Each datum BY PROGRAM (the guide's laid-datum.mjs) off the statement by which the dump's own 'gosem.cut.vars' lays the variable. In a bare row this is a premise. The card (YtlmimmdaniggiaaDoorCards.lean) ties it to the program's text. -/
def laid_moraine_wire_errEnd {H : Type} : DataW H := .iface "*errors.errorString" (.ptr (.agg [.lit (.string [116, 104, 101, 32, 116, 101, 120, 116, 32, 101, 110, 100, 115, 32, 97, 104, 101, 97, 100, 32, 111, 102, 32, 119, 104, 97, 116, 32, 105, 115, 32, 116, 111, 32, 98, 101, 32, 114, 101, 97, 100])]))
def laid_moraine_wire_errForm {H : Type} : DataW H := .iface "*errors.errorString" (.ptr (.agg [.lit (.string [110, 111, 32, 110, 117, 109, 98, 101, 114, 32, 111, 114, 32, 116, 101, 120, 116, 32, 104, 97, 115, 32, 116, 104, 101, 115, 101, 32, 98, 121, 116, 101, 115])]))

/-- 'morainelaw01.WireJoins': WHATEVER THE INPUT: true; the input reads as it did. -/
def wireJoinsSpec : ChangeSpec := { name := "wireJoins", fn := fun _ => fun
  | [d] => { results := [.lit (.bool true)], args := [d] }
  | _ => none }
def wireJoinsRow : OpenClaim := { program := "ytlmimmdaniggiaadoor", sum := "27dcd15146aa592b8a0b98a26ed9d3646b7e40a2aefece71bb627f7a38d1a4c7", func := "moraine/morainelaw01.WireJoins", spec := "wireJoins", inPlace := ["internal/reflectlite.TypeOf"], unfollowed := true, recurses := true, named := ["moraine/wire.errEnd", "moraine/wire.errForm"], apart := false, laid := [("moraine/wire.errEnd", laid_moraine_wire_errEnd), ("moraine/wire.errForm", laid_moraine_wire_errForm)] }
def WireJoinsSaid : Prop := wireJoinsRow.holds Tryd.pinned (OpenSpec.ofChange wireJoinsSpec)

/-- ITS FALSE NEIGHBOUR: 'it returns false'. Refute it at one input. -/
def wireJoinsWrong : ChangeSpec := { name := "wireJoins", fn := fun _ => fun
  | [d] => { results := [.lit (.bool false)], args := [d] }
  | _ => none }
def WireJoinsWrongFalsely : Prop := wireJoinsRow.holds Tryd.pinned (OpenSpec.ofChange wireJoinsWrong)

/-- 'morainelaw01.WireApart': WHATEVER THE INPUT: true; the input reads as it did. -/
def wireApartSpec : ChangeSpec := { name := "wireApart", fn := fun _ => fun
  | [d1, d2, d3] => { results := [.lit (.bool true)], args := [d1, d2, d3] }
  | _ => none }
def wireApartRow : OpenClaim := { program := "ytlmimmdaniggiaadoor", sum := "27dcd15146aa592b8a0b98a26ed9d3646b7e40a2aefece71bb627f7a38d1a4c7", func := "moraine/morainelaw01.WireApart", spec := "wireApart", inPlace := ["internal/reflectlite.TypeOf"], unfollowed := true, recurses := true, named := ["moraine/wire.errEnd", "moraine/wire.errForm"], apart := false, laid := [("moraine/wire.errEnd", laid_moraine_wire_errEnd), ("moraine/wire.errForm", laid_moraine_wire_errForm)] }
def WireApartSaid : Prop := wireApartRow.holds Tryd.pinned (OpenSpec.ofChange wireApartSpec)

/-- ITS FALSE NEIGHBOUR: 'it returns false'. Refute it at one input. -/
def wireApartWrong : ChangeSpec := { name := "wireApart", fn := fun _ => fun
  | [d1, d2, d3] => { results := [.lit (.bool false)], args := [d1, d2, d3] }
  | _ => none }
def WireApartWrongFalsely : Prop := wireApartRow.holds Tryd.pinned (OpenSpec.ofChange wireApartWrong)

/-- 'morainelaw01.WireSums': WHATEVER THE INPUT: true; the input reads as it did. -/
def wireSumsSpec : ChangeSpec := { name := "wireSums", fn := fun _ => fun
  | [d1, d2, d3] => { results := [.lit (.bool true)], args := [d1, d2, d3] }
  | _ => none }
def wireSumsRow : OpenClaim := { program := "ytlmimmdaniggiaadoor", sum := "27dcd15146aa592b8a0b98a26ed9d3646b7e40a2aefece71bb627f7a38d1a4c7", func := "moraine/morainelaw01.WireSums", spec := "wireSums", inPlace := ["internal/reflectlite.TypeOf"], unfollowed := true, recurses := true, named := ["moraine/wire.errEnd", "moraine/wire.errForm"], apart := false, laid := [("moraine/wire.errEnd", laid_moraine_wire_errEnd), ("moraine/wire.errForm", laid_moraine_wire_errForm)] }
def WireSumsSaid : Prop := wireSumsRow.holds Tryd.pinned (OpenSpec.ofChange wireSumsSpec)

/-- ITS FALSE NEIGHBOUR: 'it returns false'. Refute it at one input. -/
def wireSumsWrong : ChangeSpec := { name := "wireSums", fn := fun _ => fun
  | [d1, d2, d3] => { results := [.lit (.bool false)], args := [d1, d2, d3] }
  | _ => none }
def WireSumsWrongFalsely : Prop := wireSumsRow.holds Tryd.pinned (OpenSpec.ofChange wireSumsWrong)

/-- 'morainelaw01.WireShort': WHATEVER THE INPUT: true; the input reads as it did. -/
def wireShortSpec : ChangeSpec := { name := "wireShort", fn := fun _ => fun
  | [d1, d2] => { results := [.lit (.bool true)], args := [d1, d2] }
  | _ => none }
def wireShortRow : OpenClaim := { program := "ytlmimmdaniggiaadoor", sum := "27dcd15146aa592b8a0b98a26ed9d3646b7e40a2aefece71bb627f7a38d1a4c7", func := "moraine/morainelaw01.WireShort", spec := "wireShort", inPlace := ["internal/reflectlite.TypeOf"], unfollowed := true, recurses := true, named := ["moraine/wire.errEnd", "moraine/wire.errForm"], apart := false, laid := [("moraine/wire.errEnd", laid_moraine_wire_errEnd), ("moraine/wire.errForm", laid_moraine_wire_errForm)] }
def WireShortSaid : Prop := wireShortRow.holds Tryd.pinned (OpenSpec.ofChange wireShortSpec)

/-- ITS FALSE NEIGHBOUR: 'it returns false'. Refute it at one input. -/
def wireShortWrong : ChangeSpec := { name := "wireShort", fn := fun _ => fun
  | [d1, d2] => { results := [.lit (.bool false)], args := [d1, d2] }
  | _ => none }
def WireShortWrongFalsely : Prop := wireShortRow.holds Tryd.pinned (OpenSpec.ofChange wireShortWrong)

/- THE SECOND FORM. 'bulk': how many values and letters a reading holds, each counted each time it is reached (what is shared counts as often as it is met; a slice's spare places count too). A statement '..UptoSaid' is the law's where the arguments, and the package variables that the reading takes, are together of bulk at most 1048576: NARROWER than '..Said'. Prove '..Said' where nothing that the law and all that it calls make is longer than what came in: it says more and counts as full. Else prove '..UptoSaid'. A law counts once. -/
mutual
def uptoBulk {H : Type} : DataW H → Nat
  | .lit (.string bytes) => bytes.length + 1
  | .lit _ => 1
  | .nil => 1
  | .ptr d => uptoBulk d + 1
  | .slice elems spare => uptoBulkAll elems + uptoBulkAll spare + 1
  | .agg parts => uptoBulkAll parts + 1
  | .iface _ d => uptoBulk d + 1
  | .map entries => uptoBulkEntries entries + 1
  | .held _ => 1
def uptoBulkAll {H : Type} : List (DataW H) → Nat
  | [] => 0
  | d :: r => uptoBulk d + uptoBulkAll r
def uptoBulkEntries {H : Type} : List (Lit × DataW H) → Nat
  | [] => 0
  | x :: r => uptoBulkEntry x + uptoBulkEntries r
def uptoBulkEntry {H : Type} : Lit × DataW H → Nat
  | (.string bytes, d) => bytes.length + uptoBulk d + 1
  | (_, d) => uptoBulk d + 1
 end
def uptoSmall : (H : Type) → List (DataW H) → Bool := fun _ ds => decide (uptoBulkAll ds ≤ 1048576)
def OpenSpec.upto (s : _root_.Go.ChangeSpec) : _root_.Go.OpenSpec := { _root_.Go.OpenSpec.ofChange s with cond := some uptoSmall }

/-- 'morainelaw01.WireJoins', WHERE WHAT IT READS IS OF BULK AT MOST 1048576: true; the input reads as it did. -/
def wireJoinsUptoRow : OpenClaim := { program := "ytlmimmdaniggiaadoor", sum := "27dcd15146aa592b8a0b98a26ed9d3646b7e40a2aefece71bb627f7a38d1a4c7", func := "moraine/morainelaw01.WireJoins", spec := "wireJoins", inPlace := ["internal/reflectlite.TypeOf"], unfollowed := true, recurses := true, named := ["moraine/wire.errEnd", "moraine/wire.errForm"], apart := false, laid := [("moraine/wire.errEnd", laid_moraine_wire_errEnd), ("moraine/wire.errForm", laid_moraine_wire_errForm)], narrowed := true }
def WireJoinsUptoSaid : Prop := wireJoinsUptoRow.holds Tryd.pinned (OpenSpec.upto wireJoinsSpec)

/-- 'morainelaw01.WireApart', WHERE WHAT IT READS IS OF BULK AT MOST 1048576: true; the input reads as it did. -/
def wireApartUptoRow : OpenClaim := { program := "ytlmimmdaniggiaadoor", sum := "27dcd15146aa592b8a0b98a26ed9d3646b7e40a2aefece71bb627f7a38d1a4c7", func := "moraine/morainelaw01.WireApart", spec := "wireApart", inPlace := ["internal/reflectlite.TypeOf"], unfollowed := true, recurses := true, named := ["moraine/wire.errEnd", "moraine/wire.errForm"], apart := false, laid := [("moraine/wire.errEnd", laid_moraine_wire_errEnd), ("moraine/wire.errForm", laid_moraine_wire_errForm)], narrowed := true }
def WireApartUptoSaid : Prop := wireApartUptoRow.holds Tryd.pinned (OpenSpec.upto wireApartSpec)

/-- 'morainelaw01.WireSums', WHERE WHAT IT READS IS OF BULK AT MOST 1048576: true; the input reads as it did. -/
def wireSumsUptoRow : OpenClaim := { program := "ytlmimmdaniggiaadoor", sum := "27dcd15146aa592b8a0b98a26ed9d3646b7e40a2aefece71bb627f7a38d1a4c7", func := "moraine/morainelaw01.WireSums", spec := "wireSums", inPlace := ["internal/reflectlite.TypeOf"], unfollowed := true, recurses := true, named := ["moraine/wire.errEnd", "moraine/wire.errForm"], apart := false, laid := [("moraine/wire.errEnd", laid_moraine_wire_errEnd), ("moraine/wire.errForm", laid_moraine_wire_errForm)], narrowed := true }
def WireSumsUptoSaid : Prop := wireSumsUptoRow.holds Tryd.pinned (OpenSpec.upto wireSumsSpec)

/-- 'morainelaw01.WireShort', WHERE WHAT IT READS IS OF BULK AT MOST 1048576: true; the input reads as it did. -/
def wireShortUptoRow : OpenClaim := { program := "ytlmimmdaniggiaadoor", sum := "27dcd15146aa592b8a0b98a26ed9d3646b7e40a2aefece71bb627f7a38d1a4c7", func := "moraine/morainelaw01.WireShort", spec := "wireShort", inPlace := ["internal/reflectlite.TypeOf"], unfollowed := true, recurses := true, named := ["moraine/wire.errEnd", "moraine/wire.errForm"], apart := false, laid := [("moraine/wire.errEnd", laid_moraine_wire_errEnd), ("moraine/wire.errForm", laid_moraine_wire_errForm)], narrowed := true }
def WireShortUptoSaid : Prop := wireShortUptoRow.holds Tryd.pinned (OpenSpec.upto wireShortSpec)

end Rows
end Go.Proofs.YtlmimmdaniggiaaDoor
