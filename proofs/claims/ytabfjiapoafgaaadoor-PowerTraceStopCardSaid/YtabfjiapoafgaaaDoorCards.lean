/-
  DERIVED. GIVEN WITH THE SEED: THE CARDS: each row of YtabfjiapoafgaaaDoorRows.lean that lists a variable, with what it lists TIED to the program's text (the seventh form; the later family's looks); each row that meets fmt, with fmt's text TOLD by the authors' own Lean function (tested against real Go, not proved from fmt's source: count such statements apart). THE CARD IS WHAT COUNTS. Prove the row's statement (the work); the ties are given (YtabfjiapoafgaaaDoorTie.lean); close each card by the builder's one call (the guide's Derived/Test/ToyasCard.lean, 'card_holds'). Laid BY PROGRAM, IN A SANDBOX (cutbox-door.mjs). By AI agents, Wed Nov 11 2026. No macro, syntax, notation, axiom, sorry.
-/
import Derived.Test.YtabfjiapoafgaaaDoorRows
import GoSem.ClaimSeven
namespace Go.Proofs.YtabfjiapoafgaaaDoor
namespace Rows

/-- THE TIED CARD OF 'tricklelaw13.PowerTraceFormat'. -/
def powerTraceFormatCard : Claim7 := { stood := { row := powerTraceFormatRow, standIns := [], harness := (true, "28bb5430b78b5b878c3a3edbb836ab511ad1eb76f90258b4ecf96ad241554f5c"), looks := true }, kinds := [], alts := [], laidByText := true, laidKinds := [.data, .data, .data, .data, .sentinel, .sentinel, .pinned], laidTests := true, laidLooks := .later }
def PowerTraceFormatCardSaid : Prop := Claim7.holds Tryd.pinned (.plain (OpenSpec.ofChange powerTraceFormatSpec)) powerTraceFormatCard

/-- THE TIED CARD OF 'tricklelaw13.PowerTraceParse'. -/
def powerTraceParseCard : Claim7 := { stood := { row := powerTraceParseRow, standIns := [], harness := (true, "28bb5430b78b5b878c3a3edbb836ab511ad1eb76f90258b4ecf96ad241554f5c"), looks := true }, kinds := [], alts := [], laidByText := true, laidKinds := [.data, .data, .data, .data, .sentinel, .sentinel, .pinned], laidTests := true, laidLooks := .later }
def PowerTraceParseCardSaid : Prop := Claim7.holds Tryd.pinned (.plain (OpenSpec.ofChange powerTraceParseSpec)) powerTraceParseCard

/-- THE TIED CARD OF 'tricklelaw13.PowerTraceBudget'. -/
def powerTraceBudgetCard : Claim7 := { stood := { row := powerTraceBudgetRow, standIns := [], harness := (true, "28bb5430b78b5b878c3a3edbb836ab511ad1eb76f90258b4ecf96ad241554f5c"), looks := true }, kinds := [], alts := [], laidByText := true, laidKinds := [.data, .data, .data, .data, .sentinel, .sentinel, .pinned], laidTests := true, laidLooks := .later }
def PowerTraceBudgetCardSaid : Prop := Claim7.holds Tryd.pinned (.plain (OpenSpec.ofChange powerTraceBudgetSpec)) powerTraceBudgetCard

/-- THE TIED CARD OF 'tricklelaw13.PowerTraceAll'. -/
def powerTraceAllCard : Claim7 := { stood := { row := powerTraceAllRow, standIns := [], harness := (true, "28bb5430b78b5b878c3a3edbb836ab511ad1eb76f90258b4ecf96ad241554f5c"), looks := true }, kinds := [], alts := [], laidByText := true, laidKinds := [.data, .data, .data, .data, .sentinel, .sentinel, .pinned], laidTests := true, laidLooks := .later }
def PowerTraceAllCardSaid : Prop := Claim7.holds Tryd.pinned (.plain (OpenSpec.ofChange powerTraceAllSpec)) powerTraceAllCard

/-- THE TIED CARD OF 'tricklelaw13.PowerTraceCount'. -/
def powerTraceCountCard : Claim7 := { stood := { row := powerTraceCountRow, standIns := [], harness := (true, "28bb5430b78b5b878c3a3edbb836ab511ad1eb76f90258b4ecf96ad241554f5c"), looks := true }, kinds := [], alts := [], laidByText := true, laidKinds := [.data, .data, .data, .data, .sentinel, .sentinel, .pinned], laidTests := true, laidLooks := .later }
def PowerTraceCountCardSaid : Prop := Claim7.holds Tryd.pinned (.plain (OpenSpec.ofChange powerTraceCountSpec)) powerTraceCountCard

/-- THE TIED CARD OF 'tricklelaw13.PowerTraceComplete'. -/
def powerTraceCompleteCard : Claim7 := { stood := { row := powerTraceCompleteRow, standIns := [], harness := (true, "28bb5430b78b5b878c3a3edbb836ab511ad1eb76f90258b4ecf96ad241554f5c"), looks := true }, kinds := [], alts := [], laidByText := true, laidKinds := [.data, .data, .data, .data, .sentinel, .sentinel, .pinned], laidTests := true, laidLooks := .later }
def PowerTraceCompleteCardSaid : Prop := Claim7.holds Tryd.pinned (.plain (OpenSpec.ofChange powerTraceCompleteSpec)) powerTraceCompleteCard

/-- THE TIED CARD OF 'tricklelaw13.PowerTraceStop'. -/
def powerTraceStopCard : Claim7 := { stood := { row := powerTraceStopRow, standIns := [], harness := (true, "28bb5430b78b5b878c3a3edbb836ab511ad1eb76f90258b4ecf96ad241554f5c"), looks := true }, kinds := [], alts := [], laidByText := true, laidKinds := [.data, .data, .data, .data, .sentinel, .sentinel, .pinned], laidTests := true, laidLooks := .later }
def PowerTraceStopCardSaid : Prop := Claim7.holds Tryd.pinned (.plain (OpenSpec.ofChange powerTraceStopSpec)) powerTraceStopCard

/-- THE TIED CARD OF 'tricklelaw13.PowerTraceMeter'. -/
def powerTraceMeterCard : Claim7 := { stood := { row := powerTraceMeterRow, standIns := [], harness := (true, "28bb5430b78b5b878c3a3edbb836ab511ad1eb76f90258b4ecf96ad241554f5c"), looks := true }, kinds := [], alts := [], laidByText := true, laidKinds := [.data, .data, .data, .data, .sentinel, .sentinel, .pinned], laidTests := true, laidLooks := .later }
def PowerTraceMeterCardSaid : Prop := Claim7.holds Tryd.pinned (.plain (OpenSpec.ofChange powerTraceMeterSpec)) powerTraceMeterCard

/-- THE SECOND FORM's CARD OF 'tricklelaw13.PowerTraceFormat'. -/
def powerTraceFormatUptoCard : Claim7 := { stood := { row := powerTraceFormatUptoRow, standIns := [], harness := (true, "28bb5430b78b5b878c3a3edbb836ab511ad1eb76f90258b4ecf96ad241554f5c"), looks := true }, kinds := [], alts := [], laidByText := true, laidKinds := [.data, .data, .data, .data, .sentinel, .sentinel, .pinned], laidTests := true, laidLooks := .later }
def PowerTraceFormatUptoCardSaid : Prop := Claim7.holds Tryd.pinned (.plain (OpenSpec.upto powerTraceFormatSpec)) powerTraceFormatUptoCard

/-- THE SECOND FORM's CARD OF 'tricklelaw13.PowerTraceParse'. -/
def powerTraceParseUptoCard : Claim7 := { stood := { row := powerTraceParseUptoRow, standIns := [], harness := (true, "28bb5430b78b5b878c3a3edbb836ab511ad1eb76f90258b4ecf96ad241554f5c"), looks := true }, kinds := [], alts := [], laidByText := true, laidKinds := [.data, .data, .data, .data, .sentinel, .sentinel, .pinned], laidTests := true, laidLooks := .later }
def PowerTraceParseUptoCardSaid : Prop := Claim7.holds Tryd.pinned (.plain (OpenSpec.upto powerTraceParseSpec)) powerTraceParseUptoCard

/-- THE SECOND FORM's CARD OF 'tricklelaw13.PowerTraceBudget'. -/
def powerTraceBudgetUptoCard : Claim7 := { stood := { row := powerTraceBudgetUptoRow, standIns := [], harness := (true, "28bb5430b78b5b878c3a3edbb836ab511ad1eb76f90258b4ecf96ad241554f5c"), looks := true }, kinds := [], alts := [], laidByText := true, laidKinds := [.data, .data, .data, .data, .sentinel, .sentinel, .pinned], laidTests := true, laidLooks := .later }
def PowerTraceBudgetUptoCardSaid : Prop := Claim7.holds Tryd.pinned (.plain (OpenSpec.upto powerTraceBudgetSpec)) powerTraceBudgetUptoCard

/-- THE SECOND FORM's CARD OF 'tricklelaw13.PowerTraceAll'. -/
def powerTraceAllUptoCard : Claim7 := { stood := { row := powerTraceAllUptoRow, standIns := [], harness := (true, "28bb5430b78b5b878c3a3edbb836ab511ad1eb76f90258b4ecf96ad241554f5c"), looks := true }, kinds := [], alts := [], laidByText := true, laidKinds := [.data, .data, .data, .data, .sentinel, .sentinel, .pinned], laidTests := true, laidLooks := .later }
def PowerTraceAllUptoCardSaid : Prop := Claim7.holds Tryd.pinned (.plain (OpenSpec.upto powerTraceAllSpec)) powerTraceAllUptoCard

/-- THE SECOND FORM's CARD OF 'tricklelaw13.PowerTraceCount'. -/
def powerTraceCountUptoCard : Claim7 := { stood := { row := powerTraceCountUptoRow, standIns := [], harness := (true, "28bb5430b78b5b878c3a3edbb836ab511ad1eb76f90258b4ecf96ad241554f5c"), looks := true }, kinds := [], alts := [], laidByText := true, laidKinds := [.data, .data, .data, .data, .sentinel, .sentinel, .pinned], laidTests := true, laidLooks := .later }
def PowerTraceCountUptoCardSaid : Prop := Claim7.holds Tryd.pinned (.plain (OpenSpec.upto powerTraceCountSpec)) powerTraceCountUptoCard

/-- THE SECOND FORM's CARD OF 'tricklelaw13.PowerTraceComplete'. -/
def powerTraceCompleteUptoCard : Claim7 := { stood := { row := powerTraceCompleteUptoRow, standIns := [], harness := (true, "28bb5430b78b5b878c3a3edbb836ab511ad1eb76f90258b4ecf96ad241554f5c"), looks := true }, kinds := [], alts := [], laidByText := true, laidKinds := [.data, .data, .data, .data, .sentinel, .sentinel, .pinned], laidTests := true, laidLooks := .later }
def PowerTraceCompleteUptoCardSaid : Prop := Claim7.holds Tryd.pinned (.plain (OpenSpec.upto powerTraceCompleteSpec)) powerTraceCompleteUptoCard

/-- THE SECOND FORM's CARD OF 'tricklelaw13.PowerTraceStop'. -/
def powerTraceStopUptoCard : Claim7 := { stood := { row := powerTraceStopUptoRow, standIns := [], harness := (true, "28bb5430b78b5b878c3a3edbb836ab511ad1eb76f90258b4ecf96ad241554f5c"), looks := true }, kinds := [], alts := [], laidByText := true, laidKinds := [.data, .data, .data, .data, .sentinel, .sentinel, .pinned], laidTests := true, laidLooks := .later }
def PowerTraceStopUptoCardSaid : Prop := Claim7.holds Tryd.pinned (.plain (OpenSpec.upto powerTraceStopSpec)) powerTraceStopUptoCard

/-- THE SECOND FORM's CARD OF 'tricklelaw13.PowerTraceMeter'. -/
def powerTraceMeterUptoCard : Claim7 := { stood := { row := powerTraceMeterUptoRow, standIns := [], harness := (true, "28bb5430b78b5b878c3a3edbb836ab511ad1eb76f90258b4ecf96ad241554f5c"), looks := true }, kinds := [], alts := [], laidByText := true, laidKinds := [.data, .data, .data, .data, .sentinel, .sentinel, .pinned], laidTests := true, laidLooks := .later }
def PowerTraceMeterUptoCardSaid : Prop := Claim7.holds Tryd.pinned (.plain (OpenSpec.upto powerTraceMeterSpec)) powerTraceMeterUptoCard
end Rows
end Go.Proofs.YtabfjiapoafgaaaDoor
