/-
  DERIVED. GIVEN WITH THE SEED: THE CARDS: each row of YtllbjkcpiencfaaDoorRows.lean that lists a variable, with what it lists TIED to the program's text (the seventh form; the later family's looks); each row that meets fmt, with fmt's text TOLD by the authors' own Lean function (tested against real Go, not proved from fmt's source: count such statements apart). THE CARD IS WHAT COUNTS. Prove the row's statement (the work); the ties are given (YtllbjkcpiencfaaDoorTie.lean); close each card by the builder's one call (the guide's Derived/Test/ToyasCard.lean, 'card_holds'). Laid BY PROGRAM, IN A SANDBOX (cutbox-door.mjs). By AI agents, Wed Nov 11 2026. No macro, syntax, notation, axiom, sorry.
-/
import Derived.Test.YtllbjkcpiencfaaDoorRows
import GoSem.ClaimSeven
namespace Go.Proofs.YtllbjkcpiencfaaDoor
namespace Rows

/-- THE TIED CARD OF 'tricklelaw01.WordArithmetic'. -/
def wordArithmeticCard : Claim7 := { stood := { row := wordArithmeticRow, standIns := [], harness := (true, "8ae838941f28a60d75efd0cdf40bb8ae01c4163c62d035e00e7a0c342b2c2dac"), looks := true }, kinds := [], alts := [], laidByText := true, laidKinds := [.data, .data, .data, .sentinel, .sentinel], laidTests := true, laidLooks := .later }
def WordArithmeticCardSaid : Prop := Claim7.holds Tryd.pinned (.plain (OpenSpec.ofChange wordArithmeticSpec)) wordArithmeticCard

/-- THE TIED CARD OF 'tricklelaw01.WordBinary'. -/
def wordBinaryCard : Claim7 := { stood := { row := wordBinaryRow, standIns := [], harness := (true, "8ae838941f28a60d75efd0cdf40bb8ae01c4163c62d035e00e7a0c342b2c2dac"), looks := true }, kinds := [], alts := [], laidByText := true, laidKinds := [.data, .data, .data, .sentinel, .sentinel], laidTests := true, laidLooks := .later }
def WordBinaryCardSaid : Prop := Claim7.holds Tryd.pinned (.plain (OpenSpec.ofChange wordBinarySpec)) wordBinaryCard

/-- THE TIED CARD OF 'tricklelaw01.WordIndex'. -/
def wordIndexCard : Claim7 := { stood := { row := wordIndexRow, standIns := [], harness := (true, "8ae838941f28a60d75efd0cdf40bb8ae01c4163c62d035e00e7a0c342b2c2dac"), looks := true }, kinds := [], alts := [], laidByText := true, laidKinds := [.data, .data, .data, .sentinel, .sentinel], laidTests := true, laidLooks := .later }
def WordIndexCardSaid : Prop := Claim7.holds Tryd.pinned (.plain (OpenSpec.ofChange wordIndexSpec)) wordIndexCard

/-- THE TIED CARD OF 'tricklelaw01.WordBytes'. -/
def wordBytesCard : Claim7 := { stood := { row := wordBytesRow, standIns := [], harness := (true, "8ae838941f28a60d75efd0cdf40bb8ae01c4163c62d035e00e7a0c342b2c2dac"), looks := true }, kinds := [], alts := [], laidByText := true, laidKinds := [.data, .data, .data, .sentinel, .sentinel], laidTests := true, laidLooks := .later }
def WordBytesCardSaid : Prop := Claim7.holds Tryd.pinned (.plain (OpenSpec.ofChange wordBytesSpec)) wordBytesCard

/-- THE TIED CARD OF 'tricklelaw01.WordFormat'. -/
def wordFormatCard : Claim7 := { stood := { row := wordFormatRow, standIns := [], harness := (true, "8ae838941f28a60d75efd0cdf40bb8ae01c4163c62d035e00e7a0c342b2c2dac"), looks := true }, kinds := [], alts := [], laidByText := true, laidKinds := [.data, .data, .data, .sentinel, .sentinel], laidTests := true, laidLooks := .later }
def WordFormatCardSaid : Prop := Claim7.holds Tryd.pinned (.plain (OpenSpec.ofChange wordFormatSpec)) wordFormatCard

/-- THE TIED CARD OF 'tricklelaw01.WordParse'. -/
def wordParseCard : Claim7 := { stood := { row := wordParseRow, standIns := [], harness := (true, "8ae838941f28a60d75efd0cdf40bb8ae01c4163c62d035e00e7a0c342b2c2dac"), looks := true }, kinds := [], alts := [], laidByText := true, laidKinds := [.data, .data, .data, .sentinel, .sentinel], laidTests := true, laidLooks := .later }
def WordParseCardSaid : Prop := Claim7.holds Tryd.pinned (.plain (OpenSpec.ofChange wordParseSpec)) wordParseCard

/-- THE TIED CARD OF 'tricklelaw01.WordDivision'. -/
def wordDivisionCard : Claim7 := { stood := { row := wordDivisionRow, standIns := [], harness := (true, "8ae838941f28a60d75efd0cdf40bb8ae01c4163c62d035e00e7a0c342b2c2dac"), looks := true }, kinds := [], alts := [], laidByText := true, laidKinds := [.data, .data, .data, .sentinel, .sentinel], laidTests := true, laidLooks := .later }
def WordDivisionCardSaid : Prop := Claim7.holds Tryd.pinned (.plain (OpenSpec.ofChange wordDivisionSpec)) wordDivisionCard

/-- THE TIED CARD OF 'tricklelaw01.WordUnary'. -/
def wordUnaryCard : Claim7 := { stood := { row := wordUnaryRow, standIns := [], harness := (true, "8ae838941f28a60d75efd0cdf40bb8ae01c4163c62d035e00e7a0c342b2c2dac"), looks := true }, kinds := [], alts := [], laidByText := true, laidKinds := [.data, .data, .data, .sentinel, .sentinel], laidTests := true, laidLooks := .later }
def WordUnaryCardSaid : Prop := Claim7.holds Tryd.pinned (.plain (OpenSpec.ofChange wordUnarySpec)) wordUnaryCard

/-- THE SECOND FORM's CARD OF 'tricklelaw01.WordArithmetic'. -/
def wordArithmeticUptoCard : Claim7 := { stood := { row := wordArithmeticUptoRow, standIns := [], harness := (true, "8ae838941f28a60d75efd0cdf40bb8ae01c4163c62d035e00e7a0c342b2c2dac"), looks := true }, kinds := [], alts := [], laidByText := true, laidKinds := [.data, .data, .data, .sentinel, .sentinel], laidTests := true, laidLooks := .later }
def WordArithmeticUptoCardSaid : Prop := Claim7.holds Tryd.pinned (.plain (OpenSpec.upto wordArithmeticSpec)) wordArithmeticUptoCard

/-- THE SECOND FORM's CARD OF 'tricklelaw01.WordBinary'. -/
def wordBinaryUptoCard : Claim7 := { stood := { row := wordBinaryUptoRow, standIns := [], harness := (true, "8ae838941f28a60d75efd0cdf40bb8ae01c4163c62d035e00e7a0c342b2c2dac"), looks := true }, kinds := [], alts := [], laidByText := true, laidKinds := [.data, .data, .data, .sentinel, .sentinel], laidTests := true, laidLooks := .later }
def WordBinaryUptoCardSaid : Prop := Claim7.holds Tryd.pinned (.plain (OpenSpec.upto wordBinarySpec)) wordBinaryUptoCard

/-- THE SECOND FORM's CARD OF 'tricklelaw01.WordIndex'. -/
def wordIndexUptoCard : Claim7 := { stood := { row := wordIndexUptoRow, standIns := [], harness := (true, "8ae838941f28a60d75efd0cdf40bb8ae01c4163c62d035e00e7a0c342b2c2dac"), looks := true }, kinds := [], alts := [], laidByText := true, laidKinds := [.data, .data, .data, .sentinel, .sentinel], laidTests := true, laidLooks := .later }
def WordIndexUptoCardSaid : Prop := Claim7.holds Tryd.pinned (.plain (OpenSpec.upto wordIndexSpec)) wordIndexUptoCard

/-- THE SECOND FORM's CARD OF 'tricklelaw01.WordBytes'. -/
def wordBytesUptoCard : Claim7 := { stood := { row := wordBytesUptoRow, standIns := [], harness := (true, "8ae838941f28a60d75efd0cdf40bb8ae01c4163c62d035e00e7a0c342b2c2dac"), looks := true }, kinds := [], alts := [], laidByText := true, laidKinds := [.data, .data, .data, .sentinel, .sentinel], laidTests := true, laidLooks := .later }
def WordBytesUptoCardSaid : Prop := Claim7.holds Tryd.pinned (.plain (OpenSpec.upto wordBytesSpec)) wordBytesUptoCard

/-- THE SECOND FORM's CARD OF 'tricklelaw01.WordFormat'. -/
def wordFormatUptoCard : Claim7 := { stood := { row := wordFormatUptoRow, standIns := [], harness := (true, "8ae838941f28a60d75efd0cdf40bb8ae01c4163c62d035e00e7a0c342b2c2dac"), looks := true }, kinds := [], alts := [], laidByText := true, laidKinds := [.data, .data, .data, .sentinel, .sentinel], laidTests := true, laidLooks := .later }
def WordFormatUptoCardSaid : Prop := Claim7.holds Tryd.pinned (.plain (OpenSpec.upto wordFormatSpec)) wordFormatUptoCard

/-- THE SECOND FORM's CARD OF 'tricklelaw01.WordParse'. -/
def wordParseUptoCard : Claim7 := { stood := { row := wordParseUptoRow, standIns := [], harness := (true, "8ae838941f28a60d75efd0cdf40bb8ae01c4163c62d035e00e7a0c342b2c2dac"), looks := true }, kinds := [], alts := [], laidByText := true, laidKinds := [.data, .data, .data, .sentinel, .sentinel], laidTests := true, laidLooks := .later }
def WordParseUptoCardSaid : Prop := Claim7.holds Tryd.pinned (.plain (OpenSpec.upto wordParseSpec)) wordParseUptoCard

/-- THE SECOND FORM's CARD OF 'tricklelaw01.WordDivision'. -/
def wordDivisionUptoCard : Claim7 := { stood := { row := wordDivisionUptoRow, standIns := [], harness := (true, "8ae838941f28a60d75efd0cdf40bb8ae01c4163c62d035e00e7a0c342b2c2dac"), looks := true }, kinds := [], alts := [], laidByText := true, laidKinds := [.data, .data, .data, .sentinel, .sentinel], laidTests := true, laidLooks := .later }
def WordDivisionUptoCardSaid : Prop := Claim7.holds Tryd.pinned (.plain (OpenSpec.upto wordDivisionSpec)) wordDivisionUptoCard

/-- THE SECOND FORM's CARD OF 'tricklelaw01.WordUnary'. -/
def wordUnaryUptoCard : Claim7 := { stood := { row := wordUnaryUptoRow, standIns := [], harness := (true, "8ae838941f28a60d75efd0cdf40bb8ae01c4163c62d035e00e7a0c342b2c2dac"), looks := true }, kinds := [], alts := [], laidByText := true, laidKinds := [.data, .data, .data, .sentinel, .sentinel], laidTests := true, laidLooks := .later }
def WordUnaryUptoCardSaid : Prop := Claim7.holds Tryd.pinned (.plain (OpenSpec.upto wordUnarySpec)) wordUnaryUptoCard
end Rows
end Go.Proofs.YtllbjkcpiencfaaDoor
