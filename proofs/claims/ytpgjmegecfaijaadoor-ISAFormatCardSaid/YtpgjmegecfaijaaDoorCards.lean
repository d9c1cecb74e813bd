/-
  DERIVED. GIVEN WITH THE SEED: THE CARDS: each row of YtpgjmegecfaijaaDoorRows.lean that lists a variable, with what it lists TIED to the program's text (the seventh form; the later family's looks); each row that meets fmt, with fmt's text TOLD by the authors' own Lean function (tested against real Go, not proved from fmt's source: count such statements apart). THE CARD IS WHAT COUNTS. Prove the row's statement (the work); the ties are given (YtpgjmegecfaijaaDoorTie.lean); close each card by the builder's one call (the guide's Derived/Test/ToyasCard.lean, 'card_holds'). Laid BY PROGRAM, IN A SANDBOX (cutbox-door.mjs). By AI agents, Wed Nov 11 2026. No macro, syntax, notation, axiom, sorry.
-/
import Derived.Test.YtpgjmegecfaijaaDoorRows
import GoSem.ClaimSeven
namespace Go.Proofs.YtpgjmegecfaijaaDoor
namespace Rows

/-- THE TIED CARD OF 'tricklelaw11.ISAValid'. -/
def iSAValidCard : Claim7 := { stood := { row := iSAValidRow, standIns := [], harness := (true, "87b9c3bdca679093434d34615b7eca2cad4e1a5f7806bed668ba2ddd41c57916"), looks := true }, kinds := [], alts := [], laidByText := true, laidKinds := [.data, .data, .data], laidTests := true, laidLooks := .later }
def ISAValidCardSaid : Prop := Claim7.holds Tryd.pinned (.plain (OpenSpec.ofChange iSAValidSpec)) iSAValidCard

/-- THE TIED CARD OF 'tricklelaw11.ISAEncode'. -/
def iSAEncodeCard : Claim7 := { stood := { row := iSAEncodeRow, standIns := [], harness := (true, "87b9c3bdca679093434d34615b7eca2cad4e1a5f7806bed668ba2ddd41c57916"), looks := true }, kinds := [], alts := [], laidByText := true, laidKinds := [.data, .data, .data], laidTests := true, laidLooks := .later }
def ISAEncodeCardSaid : Prop := Claim7.holds Tryd.pinned (.plain (OpenSpec.ofChange iSAEncodeSpec)) iSAEncodeCard

/-- THE TIED CARD OF 'tricklelaw11.ISADecode'. -/
def iSADecodeCard : Claim7 := { stood := { row := iSADecodeRow, standIns := [], harness := (true, "87b9c3bdca679093434d34615b7eca2cad4e1a5f7806bed668ba2ddd41c57916"), looks := true }, kinds := [], alts := [], laidByText := true, laidKinds := [.data, .data, .data], laidTests := true, laidLooks := .later }
def ISADecodeCardSaid : Prop := Claim7.holds Tryd.pinned (.plain (OpenSpec.ofChange iSADecodeSpec)) iSADecodeCard

/-- THE TIED CARD OF 'tricklelaw11.ISACosts'. -/
def iSACostsCard : Claim7 := { stood := { row := iSACostsRow, standIns := [], harness := (true, "87b9c3bdca679093434d34615b7eca2cad4e1a5f7806bed668ba2ddd41c57916"), looks := true }, kinds := [], alts := [], laidByText := true, laidKinds := [.data, .data, .data], laidTests := true, laidLooks := .later }
def ISACostsCardSaid : Prop := Claim7.holds Tryd.pinned (.plain (OpenSpec.ofChange iSACostsSpec)) iSACostsCard

/-- THE TIED CARD OF 'tricklelaw11.ISANext'. -/
def iSANextCard : Claim7 := { stood := { row := iSANextRow, standIns := [], harness := (true, "87b9c3bdca679093434d34615b7eca2cad4e1a5f7806bed668ba2ddd41c57916"), looks := true }, kinds := [], alts := [], laidByText := true, laidKinds := [.data, .data, .data], laidTests := true, laidLooks := .later }
def ISANextCardSaid : Prop := Claim7.holds Tryd.pinned (.plain (OpenSpec.ofChange iSANextSpec)) iSANextCard

/-- THE TIED CARD OF 'tricklelaw11.ISARegisters'. -/
def iSARegistersCard : Claim7 := { stood := { row := iSARegistersRow, standIns := [], harness := (true, "87b9c3bdca679093434d34615b7eca2cad4e1a5f7806bed668ba2ddd41c57916"), looks := true }, kinds := [], alts := [], laidByText := true, laidKinds := [.data, .data, .data], laidTests := true, laidLooks := .later }
def ISARegistersCardSaid : Prop := Claim7.holds Tryd.pinned (.plain (OpenSpec.ofChange iSARegistersSpec)) iSARegistersCard

/-- THE TIED CARD OF 'tricklelaw11.ISAFormat'. -/
def iSAFormatCard : Claim7 := { stood := { row := iSAFormatRow, standIns := [], harness := (true, "87b9c3bdca679093434d34615b7eca2cad4e1a5f7806bed668ba2ddd41c57916"), looks := true }, kinds := [], alts := [], laidByText := true, laidKinds := [.data, .data, .data, .data, .sentinel, .sentinel, .pinned], laidTests := true, laidLooks := .later }
def ISAFormatCardSaid : Prop := Claim7.holds Tryd.pinned (.plain (OpenSpec.ofChange iSAFormatSpec)) iSAFormatCard

/-- THE TIED CARD OF 'tricklelaw11.ISAParse'. -/
def iSAParseCard : Claim7 := { stood := { row := iSAParseRow, standIns := [], harness := (true, "87b9c3bdca679093434d34615b7eca2cad4e1a5f7806bed668ba2ddd41c57916"), looks := true }, kinds := [], alts := [], laidByText := true, laidKinds := [.data, .data, .data, .data, .sentinel, .sentinel, .pinned], laidTests := true, laidLooks := .later }
def ISAParseCardSaid : Prop := Claim7.holds Tryd.pinned (.plain (OpenSpec.ofChange iSAParseSpec)) iSAParseCard

/-- THE SECOND FORM's CARD OF 'tricklelaw11.ISAValid'. -/
def iSAValidUptoCard : Claim7 := { stood := { row := iSAValidUptoRow, standIns := [], harness := (true, "87b9c3bdca679093434d34615b7eca2cad4e1a5f7806bed668ba2ddd41c57916"), looks := true }, kinds := [], alts := [], laidByText := true, laidKinds := [.data, .data, .data], laidTests := true, laidLooks := .later }
def ISAValidUptoCardSaid : Prop := Claim7.holds Tryd.pinned (.plain (OpenSpec.upto iSAValidSpec)) iSAValidUptoCard

/-- THE SECOND FORM's CARD OF 'tricklelaw11.ISAEncode'. -/
def iSAEncodeUptoCard : Claim7 := { stood := { row := iSAEncodeUptoRow, standIns := [], harness := (true, "87b9c3bdca679093434d34615b7eca2cad4e1a5f7806bed668ba2ddd41c57916"), looks := true }, kinds := [], alts := [], laidByText := true, laidKinds := [.data, .data, .data], laidTests := true, laidLooks := .later }
def ISAEncodeUptoCardSaid : Prop := Claim7.holds Tryd.pinned (.plain (OpenSpec.upto iSAEncodeSpec)) iSAEncodeUptoCard

/-- THE SECOND FORM's CARD OF 'tricklelaw11.ISADecode'. -/
def iSADecodeUptoCard : Claim7 := { stood := { row := iSADecodeUptoRow, standIns := [], harness := (true, "87b9c3bdca679093434d34615b7eca2cad4e1a5f7806bed668ba2ddd41c57916"), looks := true }, kinds := [], alts := [], laidByText := true, laidKinds := [.data, .data, .data], laidTests := true, laidLooks := .later }
def ISADecodeUptoCardSaid : Prop := Claim7.holds Tryd.pinned (.plain (OpenSpec.upto iSADecodeSpec)) iSADecodeUptoCard

/-- THE SECOND FORM's CARD OF 'tricklelaw11.ISACosts'. -/
def iSACostsUptoCard : Claim7 := { stood := { row := iSACostsUptoRow, standIns := [], harness := (true, "87b9c3bdca679093434d34615b7eca2cad4e1a5f7806bed668ba2ddd41c57916"), looks := true }, kinds := [], alts := [], laidByText := true, laidKinds := [.data, .data, .data], laidTests := true, laidLooks := .later }
def ISACostsUptoCardSaid : Prop := Claim7.holds Tryd.pinned (.plain (OpenSpec.upto iSACostsSpec)) iSACostsUptoCard

/-- THE SECOND FORM's CARD OF 'tricklelaw11.ISANext'. -/
def iSANextUptoCard : Claim7 := { stood := { row := iSANextUptoRow, standIns := [], harness := (true, "87b9c3bdca679093434d34615b7eca2cad4e1a5f7806bed668ba2ddd41c57916"), looks := true }, kinds := [], alts := [], laidByText := true, laidKinds := [.data, .data, .data], laidTests := true, laidLooks := .later }
def ISANextUptoCardSaid : Prop := Claim7.holds Tryd.pinned (.plain (OpenSpec.upto iSANextSpec)) iSANextUptoCard

/-- THE SECOND FORM's CARD OF 'tricklelaw11.ISARegisters'. -/
def iSARegistersUptoCard : Claim7 := { stood := { row := iSARegistersUptoRow, standIns := [], harness := (true, "87b9c3bdca679093434d34615b7eca2cad4e1a5f7806bed668ba2ddd41c57916"), looks := true }, kinds := [], alts := [], laidByText := true, laidKinds := [.data, .data, .data], laidTests := true, laidLooks := .later }
def ISARegistersUptoCardSaid : Prop := Claim7.holds Tryd.pinned (.plain (OpenSpec.upto iSARegistersSpec)) iSARegistersUptoCard

/-- THE SECOND FORM's CARD OF 'tricklelaw11.ISAFormat'. -/
def iSAFormatUptoCard : Claim7 := { stood := { row := iSAFormatUptoRow, standIns := [], harness := (true, "87b9c3bdca679093434d34615b7eca2cad4e1a5f7806bed668ba2ddd41c57916"), looks := true }, kinds := [], alts := [], laidByText := true, laidKinds := [.data, .data, .data, .data, .sentinel, .sentinel, .pinned], laidTests := true, laidLooks := .later }
def ISAFormatUptoCardSaid : Prop := Claim7.holds Tryd.pinned (.plain (OpenSpec.upto iSAFormatSpec)) iSAFormatUptoCard

/-- THE SECOND FORM's CARD OF 'tricklelaw11.ISAParse'. -/
def iSAParseUptoCard : Claim7 := { stood := { row := iSAParseUptoRow, standIns := [], harness := (true, "87b9c3bdca679093434d34615b7eca2cad4e1a5f7806bed668ba2ddd41c57916"), looks := true }, kinds := [], alts := [], laidByText := true, laidKinds := [.data, .data, .data, .data, .sentinel, .sentinel, .pinned], laidTests := true, laidLooks := .later }
def ISAParseUptoCardSaid : Prop := Claim7.holds Tryd.pinned (.plain (OpenSpec.upto iSAParseSpec)) iSAParseUptoCard
end Rows
end Go.Proofs.YtpgjmegecfaijaaDoor
