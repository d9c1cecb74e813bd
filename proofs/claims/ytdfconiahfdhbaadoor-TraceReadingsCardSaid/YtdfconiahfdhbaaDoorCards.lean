/-
  DERIVED. GIVEN WITH THE SEED: THE CARDS: each row of YtdfconiahfdhbaaDoorRows.lean that lists a variable, with what it lists TIED to the program's text (the seventh form; the later family's looks); each row that meets fmt, with fmt's text TOLD by the authors' own Lean function (tested against real Go, not proved from fmt's source: count such statements apart). THE CARD IS WHAT COUNTS. Prove the row's statement (the work); the ties are given (YtdfconiahfdhbaaDoorTie.lean); close each card by the builder's one call (the guide's Derived/Test/ToyasCard.lean, 'card_holds'). Laid BY PROGRAM, IN A SANDBOX (cutbox-door.mjs). By AI agents, Wed Nov 11 2026. No macro, syntax, notation, axiom, sorry.
-/
import Derived.Test.YtdfconiahfdhbaaDoorRows
import GoSem.ClaimSeven
namespace Go.Proofs.YtdfconiahfdhbaaDoor
namespace Rows

/-- THE TIED CARD OF 'tricklelaw52.TraceFormats'. -/
def traceFormatsCard : Claim7 := { stood := { row := traceFormatsRow, standIns := [], harness := (true, "74d1e7c5f53d275a75a9351e0c8aaa676dc2191b76f612568baef3b3ec2a5ee8"), looks := true }, kinds := [], alts := [], laidByText := true, laidKinds := [.data, .data, .data, .data, .sentinel, .sentinel, .widerDeep, .pinned], laidTests := true, laidLooks := .later }
def TraceFormatsCardSaid : Prop := Claim7.holds Tryd.pinned (.plain (OpenSpec.ofChange traceFormatsSpec)) traceFormatsCard

/-- THE TIED CARD OF 'tricklelaw52.TraceParses'. -/
def traceParsesCard : Claim7 := { stood := { row := traceParsesRow, standIns := [], harness := (true, "74d1e7c5f53d275a75a9351e0c8aaa676dc2191b76f612568baef3b3ec2a5ee8"), looks := true }, kinds := [], alts := [], laidByText := true, laidKinds := [.data, .data, .data, .data, .sentinel, .sentinel, .widerDeep, .pinned], laidTests := true, laidLooks := .later }
def TraceParsesCardSaid : Prop := Claim7.holds Tryd.pinned (.plain (OpenSpec.ofChange traceParsesSpec)) traceParsesCard

/-- THE TIED CARD OF 'tricklelaw52.TraceRoundTrips'. -/
def traceRoundTripsCard : Claim7 := { stood := { row := traceRoundTripsRow, standIns := [], harness := (true, "74d1e7c5f53d275a75a9351e0c8aaa676dc2191b76f612568baef3b3ec2a5ee8"), looks := true }, kinds := [], alts := [], laidByText := true, laidKinds := [.data, .data, .data, .data, .sentinel, .sentinel, .widerDeep, .pinned], laidTests := true, laidLooks := .later }
def TraceRoundTripsCardSaid : Prop := Claim7.holds Tryd.pinned (.plain (OpenSpec.ofChange traceRoundTripsSpec)) traceRoundTripsCard

/-- THE TIED CARD OF 'tricklelaw52.TraceKinds'. -/
def traceKindsCard : Claim7 := { stood := { row := traceKindsRow, standIns := [], harness := (true, "74d1e7c5f53d275a75a9351e0c8aaa676dc2191b76f612568baef3b3ec2a5ee8"), looks := true }, kinds := [], alts := [], laidByText := true, laidKinds := [.data, .data, .data, .data, .sentinel, .sentinel, .widerDeep, .pinned], laidTests := true, laidLooks := .later }
def TraceKindsCardSaid : Prop := Claim7.holds Tryd.pinned (.plain (OpenSpec.ofChange traceKindsSpec)) traceKindsCard

/-- THE TIED CARD OF 'tricklelaw52.TraceAttempts'. -/
def traceAttemptsCard : Claim7 := { stood := { row := traceAttemptsRow, standIns := [], harness := (true, "74d1e7c5f53d275a75a9351e0c8aaa676dc2191b76f612568baef3b3ec2a5ee8"), looks := true }, kinds := [], alts := [], laidByText := true, laidKinds := [.data, .data, .data, .data, .sentinel, .sentinel, .widerDeep, .pinned], laidTests := true, laidLooks := .later }
def TraceAttemptsCardSaid : Prop := Claim7.holds Tryd.pinned (.plain (OpenSpec.ofChange traceAttemptsSpec)) traceAttemptsCard

/-- THE TIED CARD OF 'tricklelaw52.TraceAttemptsCover'. -/
def traceAttemptsCoverCard : Claim7 := { stood := { row := traceAttemptsCoverRow, standIns := [], harness := (true, "74d1e7c5f53d275a75a9351e0c8aaa676dc2191b76f612568baef3b3ec2a5ee8"), looks := true }, kinds := [], alts := [], laidByText := true, laidKinds := [.data, .data, .data, .data, .sentinel, .sentinel, .widerDeep, .pinned], laidTests := true, laidLooks := .later }
def TraceAttemptsCoverCardSaid : Prop := Claim7.holds Tryd.pinned (.plain (OpenSpec.ofChange traceAttemptsCoverSpec)) traceAttemptsCoverCard

/-- THE TIED CARD OF 'tricklelaw52.TraceReadings'. -/
def traceReadingsCard : Claim7 := { stood := { row := traceReadingsRow, standIns := [], harness := (true, "74d1e7c5f53d275a75a9351e0c8aaa676dc2191b76f612568baef3b3ec2a5ee8"), looks := true }, kinds := [], alts := [], laidByText := true, laidKinds := [.data, .data, .data, .data, .sentinel, .sentinel, .widerDeep, .pinned], laidTests := true, laidLooks := .later }
def TraceReadingsCardSaid : Prop := Claim7.holds Tryd.pinned (.plain (OpenSpec.ofChange traceReadingsSpec)) traceReadingsCard

/-- THE SECOND FORM's CARD OF 'tricklelaw52.TraceFormats'. -/
def traceFormatsUptoCard : Claim7 := { stood := { row := traceFormatsUptoRow, standIns := [], harness := (true, "74d1e7c5f53d275a75a9351e0c8aaa676dc2191b76f612568baef3b3ec2a5ee8"), looks := true }, kinds := [], alts := [], laidByText := true, laidKinds := [.data, .data, .data, .data, .sentinel, .sentinel, .widerDeep, .pinned], laidTests := true, laidLooks := .later }
def TraceFormatsUptoCardSaid : Prop := Claim7.holds Tryd.pinned (.plain (OpenSpec.upto traceFormatsSpec)) traceFormatsUptoCard

/-- THE SECOND FORM's CARD OF 'tricklelaw52.TraceParses'. -/
def traceParsesUptoCard : Claim7 := { stood := { row := traceParsesUptoRow, standIns := [], harness := (true, "74d1e7c5f53d275a75a9351e0c8aaa676dc2191b76f612568baef3b3ec2a5ee8"), looks := true }, kinds := [], alts := [], laidByText := true, laidKinds := [.data, .data, .data, .data, .sentinel, .sentinel, .widerDeep, .pinned], laidTests := true, laidLooks := .later }
def TraceParsesUptoCardSaid : Prop := Claim7.holds Tryd.pinned (.plain (OpenSpec.upto traceParsesSpec)) traceParsesUptoCard

/-- THE SECOND FORM's CARD OF 'tricklelaw52.TraceRoundTrips'. -/
def traceRoundTripsUptoCard : Claim7 := { stood := { row := traceRoundTripsUptoRow, standIns := [], harness := (true, "74d1e7c5f53d275a75a9351e0c8aaa676dc2191b76f612568baef3b3ec2a5ee8"), looks := true }, kinds := [], alts := [], laidByText := true, laidKinds := [.data, .data, .data, .data, .sentinel, .sentinel, .widerDeep, .pinned], laidTests := true, laidLooks := .later }
def TraceRoundTripsUptoCardSaid : Prop := Claim7.holds Tryd.pinned (.plain (OpenSpec.upto traceRoundTripsSpec)) traceRoundTripsUptoCard

/-- THE SECOND FORM's CARD OF 'tricklelaw52.TraceKinds'. -/
def traceKindsUptoCard : Claim7 := { stood := { row := traceKindsUptoRow, standIns := [], harness := (true, "74d1e7c5f53d275a75a9351e0c8aaa676dc2191b76f612568baef3b3ec2a5ee8"), looks := true }, kinds := [], alts := [], laidByText := true, laidKinds := [.data, .data, .data, .data, .sentinel, .sentinel, .widerDeep, .pinned], laidTests := true, laidLooks := .later }
def TraceKindsUptoCardSaid : Prop := Claim7.holds Tryd.pinned (.plain (OpenSpec.upto traceKindsSpec)) traceKindsUptoCard

/-- THE SECOND FORM's CARD OF 'tricklelaw52.TraceAttempts'. -/
def traceAttemptsUptoCard : Claim7 := { stood := { row := traceAttemptsUptoRow, standIns := [], harness := (true, "74d1e7c5f53d275a75a9351e0c8aaa676dc2191b76f612568baef3b3ec2a5ee8"), looks := true }, kinds := [], alts := [], laidByText := true, laidKinds := [.data, .data, .data, .data, .sentinel, .sentinel, .widerDeep, .pinned], laidTests := true, laidLooks := .later }
def TraceAttemptsUptoCardSaid : Prop := Claim7.holds Tryd.pinned (.plain (OpenSpec.upto traceAttemptsSpec)) traceAttemptsUptoCard

/-- THE SECOND FORM's CARD OF 'tricklelaw52.TraceAttemptsCover'. -/
def traceAttemptsCoverUptoCard : Claim7 := { stood := { row := traceAttemptsCoverUptoRow, standIns := [], harness := (true, "74d1e7c5f53d275a75a9351e0c8aaa676dc2191b76f612568baef3b3ec2a5ee8"), looks := true }, kinds := [], alts := [], laidByText := true, laidKinds := [.data, .data, .data, .data, .sentinel, .sentinel, .widerDeep, .pinned], laidTests := true, laidLooks := .later }
def TraceAttemptsCoverUptoCardSaid : Prop := Claim7.holds Tryd.pinned (.plain (OpenSpec.upto traceAttemptsCoverSpec)) traceAttemptsCoverUptoCard

/-- THE SECOND FORM's CARD OF 'tricklelaw52.TraceReadings'. -/
def traceReadingsUptoCard : Claim7 := { stood := { row := traceReadingsUptoRow, standIns := [], harness := (true, "74d1e7c5f53d275a75a9351e0c8aaa676dc2191b76f612568baef3b3ec2a5ee8"), looks := true }, kinds := [], alts := [], laidByText := true, laidKinds := [.data, .data, .data, .data, .sentinel, .sentinel, .widerDeep, .pinned], laidTests := true, laidLooks := .later }
def TraceReadingsUptoCardSaid : Prop := Claim7.holds Tryd.pinned (.plain (OpenSpec.upto traceReadingsSpec)) traceReadingsUptoCard
end Rows
end Go.Proofs.YtdfconiahfdhbaaDoor
