/-
  DERIVED. GIVEN WITH THE SEED: THE CARDS: each row of YtgdaekjodhebfaaDoorRows.lean that lists a variable, with what it lists TIED to the program's text (the seventh form; the later family's looks); each row that meets fmt, with fmt's text TOLD by the authors' own Lean function (tested against real Go, not proved from fmt's source: count such statements apart). THE CARD IS WHAT COUNTS. Prove the row's statement (the work); the ties are given (YtgdaekjodhebfaaDoorTie.lean); close each card by the builder's one call (the guide's Derived/Test/ToyasCard.lean, 'card_holds'). Laid BY PROGRAM, IN A SANDBOX (cutbox-door.mjs). By AI agents, Wed Nov 11 2026. No macro, syntax, notation, axiom, sorry.
-/
import Derived.Test.YtgdaekjodhebfaaDoorRows
import GoSem.ClaimSeven
namespace Go.Proofs.YtgdaekjodhebfaaDoor
namespace Rows

/-- THE TIED CARD OF 'tricklelaw10.SensorAt'. -/
def sensorAtCard : Claim7 := { stood := { row := sensorAtRow, standIns := [], harness := (true, "dd6bca00c3f184bd2a475a5d7f7c8efaec7fd424c04a9db9a6e87e883f2f11a2"), looks := true }, kinds := [], alts := [], laidByText := true, laidKinds := [.data, .data, .data, .sentinel, .sentinel], laidTests := true, laidLooks := .later }
def SensorAtCardSaid : Prop := Claim7.holds Tryd.pinned (.plain (OpenSpec.ofChange sensorAtSpec)) sensorAtCard

/-- THE TIED CARD OF 'tricklelaw10.SensorSteps'. -/
def sensorStepsCard : Claim7 := { stood := { row := sensorStepsRow, standIns := [], harness := (true, "dd6bca00c3f184bd2a475a5d7f7c8efaec7fd424c04a9db9a6e87e883f2f11a2"), looks := true }, kinds := [], alts := [], laidByText := true, laidKinds := [.data, .data, .data, .sentinel, .sentinel], laidTests := true, laidLooks := .later }
def SensorStepsCardSaid : Prop := Claim7.holds Tryd.pinned (.plain (OpenSpec.ofChange sensorStepsSpec)) sensorStepsCard

/-- THE TIED CARD OF 'tricklelaw10.SensorMerge'. -/
def sensorMergeCard : Claim7 := { stood := { row := sensorMergeRow, standIns := [], harness := (true, "dd6bca00c3f184bd2a475a5d7f7c8efaec7fd424c04a9db9a6e87e883f2f11a2"), looks := true }, kinds := [], alts := [], laidByText := true, laidKinds := [.data, .data, .data, .sentinel, .sentinel], laidTests := true, laidLooks := .later }
def SensorMergeCardSaid : Prop := Claim7.holds Tryd.pinned (.plain (OpenSpec.ofChange sensorMergeSpec)) sensorMergeCard

/-- THE TIED CARD OF 'tricklelaw10.SensorNew'. -/
def sensorNewCard : Claim7 := { stood := { row := sensorNewRow, standIns := [], harness := (true, "dd6bca00c3f184bd2a475a5d7f7c8efaec7fd424c04a9db9a6e87e883f2f11a2"), looks := true }, kinds := [], alts := [], laidByText := true, laidKinds := [.data, .data, .data, .sentinel, .sentinel], laidTests := true, laidLooks := .later }
def SensorNewCardSaid : Prop := Claim7.holds Tryd.pinned (.plain (OpenSpec.ofChange sensorNewSpec)) sensorNewCard

/-- THE TIED CARD OF 'tricklelaw10.SensorCopies'. -/
def sensorCopiesCard : Claim7 := { stood := { row := sensorCopiesRow, standIns := [], harness := (true, "dd6bca00c3f184bd2a475a5d7f7c8efaec7fd424c04a9db9a6e87e883f2f11a2"), looks := true }, kinds := [], alts := [], laidByText := true, laidKinds := [.data, .data, .data, .sentinel, .sentinel], laidTests := true, laidLooks := .later }
def SensorCopiesCardSaid : Prop := Claim7.holds Tryd.pinned (.plain (OpenSpec.ofChange sensorCopiesSpec)) sensorCopiesCard

/-- THE TIED CARD OF 'tricklelaw10.SensorParse'. -/
def sensorParseCard : Claim7 := { stood := { row := sensorParseRow, standIns := [], harness := (true, "dd6bca00c3f184bd2a475a5d7f7c8efaec7fd424c04a9db9a6e87e883f2f11a2"), looks := true }, kinds := [], alts := [], laidByText := true, laidKinds := [.data, .data, .data, .sentinel, .sentinel], laidTests := true, laidLooks := .later }
def SensorParseCardSaid : Prop := Claim7.holds Tryd.pinned (.plain (OpenSpec.ofChange sensorParseSpec)) sensorParseCard

/-- THE TIED CARD OF 'tricklelaw10.SensorFormat'. -/
def sensorFormatCard : Claim7 := { stood := { row := sensorFormatRow, standIns := [], harness := (true, "dd6bca00c3f184bd2a475a5d7f7c8efaec7fd424c04a9db9a6e87e883f2f11a2"), looks := true }, kinds := [], alts := [], laidByText := true, laidKinds := [.data, .data, .data, .sentinel, .sentinel], laidTests := true, laidLooks := .later }
def SensorFormatCardSaid : Prop := Claim7.holds Tryd.pinned (.plain (OpenSpec.ofChange sensorFormatSpec)) sensorFormatCard

/-- THE SECOND FORM's CARD OF 'tricklelaw10.SensorAt'. -/
def sensorAtUptoCard : Claim7 := { stood := { row := sensorAtUptoRow, standIns := [], harness := (true, "dd6bca00c3f184bd2a475a5d7f7c8efaec7fd424c04a9db9a6e87e883f2f11a2"), looks := true }, kinds := [], alts := [], laidByText := true, laidKinds := [.data, .data, .data, .sentinel, .sentinel], laidTests := true, laidLooks := .later }
def SensorAtUptoCardSaid : Prop := Claim7.holds Tryd.pinned (.plain (OpenSpec.upto sensorAtSpec)) sensorAtUptoCard

/-- THE SECOND FORM's CARD OF 'tricklelaw10.SensorSteps'. -/
def sensorStepsUptoCard : Claim7 := { stood := { row := sensorStepsUptoRow, standIns := [], harness := (true, "dd6bca00c3f184bd2a475a5d7f7c8efaec7fd424c04a9db9a6e87e883f2f11a2"), looks := true }, kinds := [], alts := [], laidByText := true, laidKinds := [.data, .data, .data, .sentinel, .sentinel], laidTests := true, laidLooks := .later }
def SensorStepsUptoCardSaid : Prop := Claim7.holds Tryd.pinned (.plain (OpenSpec.upto sensorStepsSpec)) sensorStepsUptoCard

/-- THE SECOND FORM's CARD OF 'tricklelaw10.SensorMerge'. -/
def sensorMergeUptoCard : Claim7 := { stood := { row := sensorMergeUptoRow, standIns := [], harness := (true, "dd6bca00c3f184bd2a475a5d7f7c8efaec7fd424c04a9db9a6e87e883f2f11a2"), looks := true }, kinds := [], alts := [], laidByText := true, laidKinds := [.data, .data, .data, .sentinel, .sentinel], laidTests := true, laidLooks := .later }
def SensorMergeUptoCardSaid : Prop := Claim7.holds Tryd.pinned (.plain (OpenSpec.upto sensorMergeSpec)) sensorMergeUptoCard

/-- THE SECOND FORM's CARD OF 'tricklelaw10.SensorNew'. -/
def sensorNewUptoCard : Claim7 := { stood := { row := sensorNewUptoRow, standIns := [], harness := (true, "dd6bca00c3f184bd2a475a5d7f7c8efaec7fd424c04a9db9a6e87e883f2f11a2"), looks := true }, kinds := [], alts := [], laidByText := true, laidKinds := [.data, .data, .data, .sentinel, .sentinel], laidTests := true, laidLooks := .later }
def SensorNewUptoCardSaid : Prop := Claim7.holds Tryd.pinned (.plain (OpenSpec.upto sensorNewSpec)) sensorNewUptoCard

/-- THE SECOND FORM's CARD OF 'tricklelaw10.SensorCopies'. -/
def sensorCopiesUptoCard : Claim7 := { stood := { row := sensorCopiesUptoRow, standIns := [], harness := (true, "dd6bca00c3f184bd2a475a5d7f7c8efaec7fd424c04a9db9a6e87e883f2f11a2"), looks := true }, kinds := [], alts := [], laidByText := true, laidKinds := [.data, .data, .data, .sentinel, .sentinel], laidTests := true, laidLooks := .later }
def SensorCopiesUptoCardSaid : Prop := Claim7.holds Tryd.pinned (.plain (OpenSpec.upto sensorCopiesSpec)) sensorCopiesUptoCard

/-- THE SECOND FORM's CARD OF 'tricklelaw10.SensorParse'. -/
def sensorParseUptoCard : Claim7 := { stood := { row := sensorParseUptoRow, standIns := [], harness := (true, "dd6bca00c3f184bd2a475a5d7f7c8efaec7fd424c04a9db9a6e87e883f2f11a2"), looks := true }, kinds := [], alts := [], laidByText := true, laidKinds := [.data, .data, .data, .sentinel, .sentinel], laidTests := true, laidLooks := .later }
def SensorParseUptoCardSaid : Prop := Claim7.holds Tryd.pinned (.plain (OpenSpec.upto sensorParseSpec)) sensorParseUptoCard

/-- THE SECOND FORM's CARD OF 'tricklelaw10.SensorFormat'. -/
def sensorFormatUptoCard : Claim7 := { stood := { row := sensorFormatUptoRow, standIns := [], harness := (true, "dd6bca00c3f184bd2a475a5d7f7c8efaec7fd424c04a9db9a6e87e883f2f11a2"), looks := true }, kinds := [], alts := [], laidByText := true, laidKinds := [.data, .data, .data, .sentinel, .sentinel], laidTests := true, laidLooks := .later }
def SensorFormatUptoCardSaid : Prop := Claim7.holds Tryd.pinned (.plain (OpenSpec.upto sensorFormatSpec)) sensorFormatUptoCard
end Rows
end Go.Proofs.YtgdaekjodhebfaaDoor
