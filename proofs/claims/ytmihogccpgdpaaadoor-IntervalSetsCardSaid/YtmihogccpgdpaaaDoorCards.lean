/-
  DERIVED. GIVEN WITH THE SEED: THE CARDS: each row of YtmihogccpgdpaaaDoorRows.lean that lists a variable, with what it lists TIED to the program's text (the seventh form; the later family's looks); each row that meets fmt, with fmt's text TOLD by the authors' own Lean function (tested against real Go, not proved from fmt's source: count such statements apart). THE CARD IS WHAT COUNTS. Prove the row's statement (the work); the ties are given (YtmihogccpgdpaaaDoorTie.lean); close each card by the builder's one call (the guide's Derived/Test/ToyasCard.lean, 'card_holds'). Laid BY PROGRAM, IN A SANDBOX (cutbox-door.mjs). By AI agents, Wed Nov 11 2026. No macro, syntax, notation, axiom, sorry.
-/
import Derived.Test.YtmihogccpgdpaaaDoorRows
import GoSem.ClaimSeven
namespace Go.Proofs.YtmihogccpgdpaaaDoor
namespace Rows

/-- THE TIED CARD OF 'tricklelaw05.IntervalAdd'. -/
def intervalAddCard : Claim7 := { stood := { row := intervalAddRow, standIns := [], harness := (true, "e93d5f06f0677fe4cc3be2f2a3280bda38be741edc87fa351e11e0e457941208"), looks := true }, kinds := [], alts := [], laidByText := true, laidKinds := [.data, .data, .data, .sentinel, .sentinel], laidTests := true, laidLooks := .later }
def IntervalAddCardSaid : Prop := Claim7.holds Tryd.pinned (.plain (OpenSpec.ofChange intervalAddSpec)) intervalAddCard

/-- THE TIED CARD OF 'tricklelaw05.IntervalSub'. -/
def intervalSubCard : Claim7 := { stood := { row := intervalSubRow, standIns := [], harness := (true, "e93d5f06f0677fe4cc3be2f2a3280bda38be741edc87fa351e11e0e457941208"), looks := true }, kinds := [], alts := [], laidByText := true, laidKinds := [.data, .data, .data, .sentinel, .sentinel], laidTests := true, laidLooks := .later }
def IntervalSubCardSaid : Prop := Claim7.holds Tryd.pinned (.plain (OpenSpec.ofChange intervalSubSpec)) intervalSubCard

/-- THE TIED CARD OF 'tricklelaw05.IntervalOrder'. -/
def intervalOrderCard : Claim7 := { stood := { row := intervalOrderRow, standIns := [], harness := (true, "e93d5f06f0677fe4cc3be2f2a3280bda38be741edc87fa351e11e0e457941208"), looks := true }, kinds := [], alts := [], laidByText := true, laidKinds := [.data, .data, .data, .sentinel, .sentinel], laidTests := true, laidLooks := .later }
def IntervalOrderCardSaid : Prop := Claim7.holds Tryd.pinned (.plain (OpenSpec.ofChange intervalOrderSpec)) intervalOrderCard

/-- THE TIED CARD OF 'tricklelaw05.IntervalText'. -/
def intervalTextCard : Claim7 := { stood := { row := intervalTextRow, standIns := [], harness := (true, "e93d5f06f0677fe4cc3be2f2a3280bda38be741edc87fa351e11e0e457941208"), looks := true }, kinds := [], alts := [], laidByText := true, laidKinds := [.data, .data, .data, .sentinel, .sentinel], laidTests := true, laidLooks := .later }
def IntervalTextCardSaid : Prop := Claim7.holds Tryd.pinned (.plain (OpenSpec.ofChange intervalTextSpec)) intervalTextCard

/-- THE TIED CARD OF 'tricklelaw05.IntervalParse'. -/
def intervalParseCard : Claim7 := { stood := { row := intervalParseRow, standIns := [], harness := (true, "e93d5f06f0677fe4cc3be2f2a3280bda38be741edc87fa351e11e0e457941208"), looks := true }, kinds := [], alts := [], laidByText := true, laidKinds := [.data, .data, .data, .sentinel, .sentinel], laidTests := true, laidLooks := .later }
def IntervalParseCardSaid : Prop := Claim7.holds Tryd.pinned (.plain (OpenSpec.ofChange intervalParseSpec)) intervalParseCard

/-- THE TIED CARD OF 'tricklelaw05.IntervalSets'. -/
def intervalSetsCard : Claim7 := { stood := { row := intervalSetsRow, standIns := [], harness := (true, "e93d5f06f0677fe4cc3be2f2a3280bda38be741edc87fa351e11e0e457941208"), looks := true }, kinds := [], alts := [], laidByText := true, laidKinds := [.data, .data, .data, .sentinel, .sentinel], laidTests := true, laidLooks := .later }
def IntervalSetsCardSaid : Prop := Claim7.holds Tryd.pinned (.plain (OpenSpec.ofChange intervalSetsSpec)) intervalSetsCard

/-- THE TIED CARD OF 'tricklelaw05.IntervalPoints'. -/
def intervalPointsCard : Claim7 := { stood := { row := intervalPointsRow, standIns := [], harness := (true, "e93d5f06f0677fe4cc3be2f2a3280bda38be741edc87fa351e11e0e457941208"), looks := true }, kinds := [], alts := [], laidByText := true, laidKinds := [.data, .data, .data, .sentinel, .sentinel], laidTests := true, laidLooks := .later }
def IntervalPointsCardSaid : Prop := Claim7.holds Tryd.pinned (.plain (OpenSpec.ofChange intervalPointsSpec)) intervalPointsCard

/-- THE SECOND FORM's CARD OF 'tricklelaw05.IntervalAdd'. -/
def intervalAddUptoCard : Claim7 := { stood := { row := intervalAddUptoRow, standIns := [], harness := (true, "e93d5f06f0677fe4cc3be2f2a3280bda38be741edc87fa351e11e0e457941208"), looks := true }, kinds := [], alts := [], laidByText := true, laidKinds := [.data, .data, .data, .sentinel, .sentinel], laidTests := true, laidLooks := .later }
def IntervalAddUptoCardSaid : Prop := Claim7.holds Tryd.pinned (.plain (OpenSpec.upto intervalAddSpec)) intervalAddUptoCard

/-- THE SECOND FORM's CARD OF 'tricklelaw05.IntervalSub'. -/
def intervalSubUptoCard : Claim7 := { stood := { row := intervalSubUptoRow, standIns := [], harness := (true, "e93d5f06f0677fe4cc3be2f2a3280bda38be741edc87fa351e11e0e457941208"), looks := true }, kinds := [], alts := [], laidByText := true, laidKinds := [.data, .data, .data, .sentinel, .sentinel], laidTests := true, laidLooks := .later }
def IntervalSubUptoCardSaid : Prop := Claim7.holds Tryd.pinned (.plain (OpenSpec.upto intervalSubSpec)) intervalSubUptoCard

/-- THE SECOND FORM's CARD OF 'tricklelaw05.IntervalOrder'. -/
def intervalOrderUptoCard : Claim7 := { stood := { row := intervalOrderUptoRow, standIns := [], harness := (true, "e93d5f06f0677fe4cc3be2f2a3280bda38be741edc87fa351e11e0e457941208"), looks := true }, kinds := [], alts := [], laidByText := true, laidKinds := [.data, .data, .data, .sentinel, .sentinel], laidTests := true, laidLooks := .later }
def IntervalOrderUptoCardSaid : Prop := Claim7.holds Tryd.pinned (.plain (OpenSpec.upto intervalOrderSpec)) intervalOrderUptoCard

/-- THE SECOND FORM's CARD OF 'tricklelaw05.IntervalText'. -/
def intervalTextUptoCard : Claim7 := { stood := { row := intervalTextUptoRow, standIns := [], harness := (true, "e93d5f06f0677fe4cc3be2f2a3280bda38be741edc87fa351e11e0e457941208"), looks := true }, kinds := [], alts := [], laidByText := true, laidKinds := [.data, .data, .data, .sentinel, .sentinel], laidTests := true, laidLooks := .later }
def IntervalTextUptoCardSaid : Prop := Claim7.holds Tryd.pinned (.plain (OpenSpec.upto intervalTextSpec)) intervalTextUptoCard

/-- THE SECOND FORM's CARD OF 'tricklelaw05.IntervalParse'. -/
def intervalParseUptoCard : Claim7 := { stood := { row := intervalParseUptoRow, standIns := [], harness := (true, "e93d5f06f0677fe4cc3be2f2a3280bda38be741edc87fa351e11e0e457941208"), looks := true }, kinds := [], alts := [], laidByText := true, laidKinds := [.data, .data, .data, .sentinel, .sentinel], laidTests := true, laidLooks := .later }
def IntervalParseUptoCardSaid : Prop := Claim7.holds Tryd.pinned (.plain (OpenSpec.upto intervalParseSpec)) intervalParseUptoCard

/-- THE SECOND FORM's CARD OF 'tricklelaw05.IntervalSets'. -/
def intervalSetsUptoCard : Claim7 := { stood := { row := intervalSetsUptoRow, standIns := [], harness := (true, "e93d5f06f0677fe4cc3be2f2a3280bda38be741edc87fa351e11e0e457941208"), looks := true }, kinds := [], alts := [], laidByText := true, laidKinds := [.data, .data, .data, .sentinel, .sentinel], laidTests := true, laidLooks := .later }
def IntervalSetsUptoCardSaid : Prop := Claim7.holds Tryd.pinned (.plain (OpenSpec.upto intervalSetsSpec)) intervalSetsUptoCard

/-- THE SECOND FORM's CARD OF 'tricklelaw05.IntervalPoints'. -/
def intervalPointsUptoCard : Claim7 := { stood := { row := intervalPointsUptoRow, standIns := [], harness := (true, "e93d5f06f0677fe4cc3be2f2a3280bda38be741edc87fa351e11e0e457941208"), looks := true }, kinds := [], alts := [], laidByText := true, laidKinds := [.data, .data, .data, .sentinel, .sentinel], laidTests := true, laidLooks := .later }
def IntervalPointsUptoCardSaid : Prop := Claim7.holds Tryd.pinned (.plain (OpenSpec.upto intervalPointsSpec)) intervalPointsUptoCard
end Rows
end Go.Proofs.YtmihogccpgdpaaaDoor
