/-
  DERIVED. GIVEN WITH THE SEED: THE CARDS: each row of YtamlemhpgfjdoaaGreatDoorRows.lean that lists a variable, with what it lists TIED to the program's text (the seventh form; the later family's looks); each row that meets fmt, with fmt's text TOLD by the authors' own Lean function (tested against real Go, not proved from fmt's source: count such statements apart). THE CARD IS WHAT COUNTS. Prove the row's statement (the work); the ties are given (YtamlemhpgfjdoaaGreatDoorTie.lean); close each card by the builder's one call (the guide's Derived/Test/ToyasCard.lean, 'card_holds'). Laid BY PROGRAM, IN A SANDBOX (cutbox-door.mjs). By AI agents, Wed Nov 11 2026. No macro, syntax, notation, axiom, sorry.
-/
import Derived.Test.YtamlemhpgfjdoaaGreatDoorRows
import GoSem.ClaimSeven
namespace Go.Proofs.YtamlemhpgfjdoaaGreatDoor
namespace Rows

/-- THE TIED CARD OF 'ashlarlaw13.VennTells'. -/
def vennTellsCard : Claim7 := { stood := { row := vennTellsRow, standIns := [], harness := (true, "da6f15d23617214188382f494f53f055c24aa2df19472f97bbe9d61480b20a06"), looks := true }, kinds := [], alts := [], laidByText := true, laidKinds := [.data, .pinned], laidTests := true, laidLooks := .later }
def VennTellsCardSaid : Prop := Claim7.holds Tryz.pinned (.plain (OpenSpec.ofChange vennTellsSpec)) vennTellsCard

/-- THE TIED CARD OF 'ashlarlaw13.VennBase'. -/
def vennBaseCard : Claim7 := { stood := { row := vennBaseRow, standIns := [], harness := (true, "da6f15d23617214188382f494f53f055c24aa2df19472f97bbe9d61480b20a06"), looks := true }, kinds := [], alts := [], laidByText := true, laidKinds := [.data, .pinned], laidTests := true, laidLooks := .later }
def VennBaseCardSaid : Prop := Claim7.holds Tryz.pinned (.plain (OpenSpec.ofChange vennBaseSpec)) vennBaseCard

/-- THE TIED CARD OF 'ashlarlaw13.VennTurned'. -/
def vennTurnedCard : Claim7 := { stood := { row := vennTurnedRow, standIns := [], harness := (true, "da6f15d23617214188382f494f53f055c24aa2df19472f97bbe9d61480b20a06"), looks := true }, kinds := [], alts := [], laidByText := true, laidKinds := [.data, .pinned], laidTests := true, laidLooks := .later }
def VennTurnedCardSaid : Prop := Claim7.holds Tryz.pinned (.plain (OpenSpec.ofChange vennTurnedSpec)) vennTurnedCard

/-- THE TIED CARD OF 'ashlarlaw13.VennAdds'. -/
def vennAddsCard : Claim7 := { stood := { row := vennAddsRow, standIns := [], harness := (true, "da6f15d23617214188382f494f53f055c24aa2df19472f97bbe9d61480b20a06"), looks := true }, kinds := [], alts := [], laidByText := true, laidKinds := [.data, .pinned], laidTests := true, laidLooks := .later }
def VennAddsCardSaid : Prop := Claim7.holds Tryz.pinned (.plain (OpenSpec.ofChange vennAddsSpec)) vennAddsCard

/-- THE TIED CARD OF 'ashlarlaw13.VennRegions'. -/
def vennRegionsCard : Claim7 := { stood := { row := vennRegionsRow, standIns := [], harness := (true, "da6f15d23617214188382f494f53f055c24aa2df19472f97bbe9d61480b20a06"), looks := true }, kinds := [], alts := [], laidByText := true, laidKinds := [.data, .pinned], laidTests := true, laidLooks := .later }
def VennRegionsCardSaid : Prop := Claim7.holds Tryz.pinned (.plain (OpenSpec.ofChange vennRegionsSpec)) vennRegionsCard

/-- THE TIED CARD OF 'ashlarlaw13.VennHolds'. -/
def vennHoldsCard : Claim7 := { stood := { row := vennHoldsRow, standIns := [], harness := (true, "da6f15d23617214188382f494f53f055c24aa2df19472f97bbe9d61480b20a06"), looks := true }, kinds := [], alts := [], laidByText := true, laidKinds := [.data, .pinned], laidTests := true, laidLooks := .later }
def VennHoldsCardSaid : Prop := Claim7.holds Tryz.pinned (.plain (OpenSpec.ofChange vennHoldsSpec)) vennHoldsCard

/-- THE TIED CARD OF 'ashlarlaw19.HornFirst'. -/
def hornFirstCard : Claim7 := { stood := { row := hornFirstRow, standIns := [], harness := (true, "da6f15d23617214188382f494f53f055c24aa2df19472f97bbe9d61480b20a06"), looks := true }, kinds := [], alts := [], laidByText := true, laidKinds := [.data, .pinned], laidTests := true, laidLooks := .later }
def HornFirstCardSaid : Prop := Claim7.holds Tryz.pinned (.plain (OpenSpec.ofChange hornFirstSpec)) hornFirstCard

/-- THE TIED CARD OF 'ashlarlaw19.HornSteps'. -/
def hornStepsCard : Claim7 := { stood := { row := hornStepsRow, standIns := [], harness := (true, "da6f15d23617214188382f494f53f055c24aa2df19472f97bbe9d61480b20a06"), looks := true }, kinds := [], alts := [], laidByText := true, laidKinds := [.data, .pinned], laidTests := true, laidLooks := .later }
def HornStepsCardSaid : Prop := Claim7.holds Tryz.pinned (.plain (OpenSpec.ofChange hornStepsSpec)) hornStepsCard

/-- THE TIED CARD OF 'ashlarlaw18.SimRuns'. -/
def simRunsCard : Claim7 := { stood := { row := simRunsRow, standIns := [], harness := (true, "da6f15d23617214188382f494f53f055c24aa2df19472f97bbe9d61480b20a06"), looks := true }, kinds := [], alts := [], laidByText := true, laidKinds := [.data, .pinned], laidTests := true, laidLooks := .later }
def SimRunsCardSaid : Prop := Claim7.holds Tryz.pinned (.plain (OpenSpec.ofChange simRunsSpec)) simRunsCard

/-- THE TIED CARD OF 'ashlarlaw18.SimRight'. -/
def simRightCard : Claim7 := { stood := { row := simRightRow, standIns := [], harness := (true, "da6f15d23617214188382f494f53f055c24aa2df19472f97bbe9d61480b20a06"), looks := true }, kinds := [], alts := [], laidByText := true, laidKinds := [.data, .pinned], laidTests := true, laidLooks := .later }
def SimRightCardSaid : Prop := Claim7.holds Tryz.pinned (.plain (OpenSpec.ofChange simRightSpec)) simRightCard

/-- THE TIED CARD OF 'ashlarlaw18.SimRefused'. -/
def simRefusedCard : Claim7 := { stood := { row := simRefusedRow, standIns := [], harness := (true, "da6f15d23617214188382f494f53f055c24aa2df19472f97bbe9d61480b20a06"), looks := true }, kinds := [], alts := [], laidByText := true, laidKinds := [.data, .pinned], laidTests := true, laidLooks := .later }
def SimRefusedCardSaid : Prop := Claim7.holds Tryz.pinned (.plain (OpenSpec.ofChange simRefusedSpec)) simRefusedCard

/-- THE TIED CARD OF 'ashlarlaw18.SimAgain'. -/
def simAgainCard : Claim7 := { stood := { row := simAgainRow, standIns := [], harness := (true, "da6f15d23617214188382f494f53f055c24aa2df19472f97bbe9d61480b20a06"), looks := true }, kinds := [], alts := [], laidByText := true, laidKinds := [.data, .pinned], laidTests := true, laidLooks := .later }
def SimAgainCardSaid : Prop := Claim7.holds Tryz.pinned (.plain (OpenSpec.ofChange simAgainSpec)) simAgainCard

/-- THE TIED CARD OF 'ashlarlaw18.SimFirst'. -/
def simFirstCard : Claim7 := { stood := { row := simFirstRow, standIns := [], harness := (true, "da6f15d23617214188382f494f53f055c24aa2df19472f97bbe9d61480b20a06"), looks := true }, kinds := [], alts := [], laidByText := true, laidKinds := [.data, .pinned], laidTests := true, laidLooks := .later }
def SimFirstCardSaid : Prop := Claim7.holds Tryz.pinned (.plain (OpenSpec.ofChange simFirstSpec)) simFirstCard

/-- THE TIED CARD OF 'ashlarlaw18.SimOrder'. -/
def simOrderCard : Claim7 := { stood := { row := simOrderRow, standIns := [], harness := (true, "da6f15d23617214188382f494f53f055c24aa2df19472f97bbe9d61480b20a06"), looks := true }, kinds := [], alts := [], laidByText := true, laidKinds := [.data, .pinned], laidTests := true, laidLooks := .later }
def SimOrderCardSaid : Prop := Claim7.holds Tryz.pinned (.plain (OpenSpec.ofChange simOrderSpec)) simOrderCard

/-- THE TIED CARD OF 'ashlarlaw18.SimDoubles'. -/
def simDoublesCard : Claim7 := { stood := { row := simDoublesRow, standIns := [], harness := (true, "da6f15d23617214188382f494f53f055c24aa2df19472f97bbe9d61480b20a06"), looks := true }, kinds := [], alts := [], laidByText := true, laidKinds := [.data, .pinned], laidTests := true, laidLooks := .later }
def SimDoublesCardSaid : Prop := Claim7.holds Tryz.pinned (.plain (OpenSpec.ofChange simDoublesSpec)) simDoublesCard

/-- THE SECOND FORM's CARD OF 'ashlarlaw13.VennTells'. -/
def vennTellsUptoCard : Claim7 := { stood := { row := vennTellsUptoRow, standIns := [], harness := (true, "da6f15d23617214188382f494f53f055c24aa2df19472f97bbe9d61480b20a06"), looks := true }, kinds := [], alts := [], laidByText := true, laidKinds := [.data, .pinned], laidTests := true, laidLooks := .later }
def VennTellsUptoCardSaid : Prop := Claim7.holds Tryz.pinned (.plain (OpenSpec.upto vennTellsSpec)) vennTellsUptoCard

/-- THE SECOND FORM's CARD OF 'ashlarlaw13.VennBase'. -/
def vennBaseUptoCard : Claim7 := { stood := { row := vennBaseUptoRow, standIns := [], harness := (true, "da6f15d23617214188382f494f53f055c24aa2df19472f97bbe9d61480b20a06"), looks := true }, kinds := [], alts := [], laidByText := true, laidKinds := [.data, .pinned], laidTests := true, laidLooks := .later }
def VennBaseUptoCardSaid : Prop := Claim7.holds Tryz.pinned (.plain (OpenSpec.upto vennBaseSpec)) vennBaseUptoCard

/-- THE SECOND FORM's CARD OF 'ashlarlaw13.VennTurned'. -/
def vennTurnedUptoCard : Claim7 := { stood := { row := vennTurnedUptoRow, standIns := [], harness := (true, "da6f15d23617214188382f494f53f055c24aa2df19472f97bbe9d61480b20a06"), looks := true }, kinds := [], alts := [], laidByText := true, laidKinds := [.data, .pinned], laidTests := true, laidLooks := .later }
def VennTurnedUptoCardSaid : Prop := Claim7.holds Tryz.pinned (.plain (OpenSpec.upto vennTurnedSpec)) vennTurnedUptoCard

/-- THE SECOND FORM's CARD OF 'ashlarlaw13.VennAdds'. -/
def vennAddsUptoCard : Claim7 := { stood := { row := vennAddsUptoRow, standIns := [], harness := (true, "da6f15d23617214188382f494f53f055c24aa2df19472f97bbe9d61480b20a06"), looks := true }, kinds := [], alts := [], laidByText := true, laidKinds := [.data, .pinned], laidTests := true, laidLooks := .later }
def VennAddsUptoCardSaid : Prop := Claim7.holds Tryz.pinned (.plain (OpenSpec.upto vennAddsSpec)) vennAddsUptoCard

/-- THE SECOND FORM's CARD OF 'ashlarlaw13.VennRegions'. -/
def vennRegionsUptoCard : Claim7 := { stood := { row := vennRegionsUptoRow, standIns := [], harness := (true, "da6f15d23617214188382f494f53f055c24aa2df19472f97bbe9d61480b20a06"), looks := true }, kinds := [], alts := [], laidByText := true, laidKinds := [.data, .pinned], laidTests := true, laidLooks := .later }
def VennRegionsUptoCardSaid : Prop := Claim7.holds Tryz.pinned (.plain (OpenSpec.upto vennRegionsSpec)) vennRegionsUptoCard

/-- THE SECOND FORM's CARD OF 'ashlarlaw13.VennHolds'. -/
def vennHoldsUptoCard : Claim7 := { stood := { row := vennHoldsUptoRow, standIns := [], harness := (true, "da6f15d23617214188382f494f53f055c24aa2df19472f97bbe9d61480b20a06"), looks := true }, kinds := [], alts := [], laidByText := true, laidKinds := [.data, .pinned], laidTests := true, laidLooks := .later }
def VennHoldsUptoCardSaid : Prop := Claim7.holds Tryz.pinned (.plain (OpenSpec.upto vennHoldsSpec)) vennHoldsUptoCard

/-- THE SECOND FORM's CARD OF 'ashlarlaw19.HornFirst'. -/
def hornFirstUptoCard : Claim7 := { stood := { row := hornFirstUptoRow, standIns := [], harness := (true, "da6f15d23617214188382f494f53f055c24aa2df19472f97bbe9d61480b20a06"), looks := true }, kinds := [], alts := [], laidByText := true, laidKinds := [.data, .pinned], laidTests := true, laidLooks := .later }
def HornFirstUptoCardSaid : Prop := Claim7.holds Tryz.pinned (.plain (OpenSpec.upto hornFirstSpec)) hornFirstUptoCard

/-- THE SECOND FORM's CARD OF 'ashlarlaw19.HornSteps'. -/
def hornStepsUptoCard : Claim7 := { stood := { row := hornStepsUptoRow, standIns := [], harness := (true, "da6f15d23617214188382f494f53f055c24aa2df19472f97bbe9d61480b20a06"), looks := true }, kinds := [], alts := [], laidByText := true, laidKinds := [.data, .pinned], laidTests := true, laidLooks := .later }
def HornStepsUptoCardSaid : Prop := Claim7.holds Tryz.pinned (.plain (OpenSpec.upto hornStepsSpec)) hornStepsUptoCard

/-- THE SECOND FORM's CARD OF 'ashlarlaw18.SimRuns'. -/
def simRunsUptoCard : Claim7 := { stood := { row := simRunsUptoRow, standIns := [], harness := (true, "da6f15d23617214188382f494f53f055c24aa2df19472f97bbe9d61480b20a06"), looks := true }, kinds := [], alts := [], laidByText := true, laidKinds := [.data, .pinned], laidTests := true, laidLooks := .later }
def SimRunsUptoCardSaid : Prop := Claim7.holds Tryz.pinned (.plain (OpenSpec.upto simRunsSpec)) simRunsUptoCard

/-- THE SECOND FORM's CARD OF 'ashlarlaw18.SimRight'. -/
def simRightUptoCard : Claim7 := { stood := { row := simRightUptoRow, standIns := [], harness := (true, "da6f15d23617214188382f494f53f055c24aa2df19472f97bbe9d61480b20a06"), looks := true }, kinds := [], alts := [], laidByText := true, laidKinds := [.data, .pinned], laidTests := true, laidLooks := .later }
def SimRightUptoCardSaid : Prop := Claim7.holds Tryz.pinned (.plain (OpenSpec.upto simRightSpec)) simRightUptoCard

/-- THE SECOND FORM's CARD OF 'ashlarlaw18.SimRefused'. -/
def simRefusedUptoCard : Claim7 := { stood := { row := simRefusedUptoRow, standIns := [], harness := (true, "da6f15d23617214188382f494f53f055c24aa2df19472f97bbe9d61480b20a06"), looks := true }, kinds := [], alts := [], laidByText := true, laidKinds := [.data, .pinned], laidTests := true, laidLooks := .later }
def SimRefusedUptoCardSaid : Prop := Claim7.holds Tryz.pinned (.plain (OpenSpec.upto simRefusedSpec)) simRefusedUptoCard

/-- THE SECOND FORM's CARD OF 'ashlarlaw18.SimAgain'. -/
def simAgainUptoCard : Claim7 := { stood := { row := simAgainUptoRow, standIns := [], harness := (true, "da6f15d23617214188382f494f53f055c24aa2df19472f97bbe9d61480b20a06"), looks := true }, kinds := [], alts := [], laidByText := true, laidKinds := [.data, .pinned], laidTests := true, laidLooks := .later }
def SimAgainUptoCardSaid : Prop := Claim7.holds Tryz.pinned (.plain (OpenSpec.upto simAgainSpec)) simAgainUptoCard

/-- THE SECOND FORM's CARD OF 'ashlarlaw18.SimFirst'. -/
def simFirstUptoCard : Claim7 := { stood := { row := simFirstUptoRow, standIns := [], harness := (true, "da6f15d23617214188382f494f53f055c24aa2df19472f97bbe9d61480b20a06"), looks := true }, kinds := [], alts := [], laidByText := true, laidKinds := [.data, .pinned], laidTests := true, laidLooks := .later }
def SimFirstUptoCardSaid : Prop := Claim7.holds Tryz.pinned (.plain (OpenSpec.upto simFirstSpec)) simFirstUptoCard

/-- THE SECOND FORM's CARD OF 'ashlarlaw18.SimOrder'. -/
def simOrderUptoCard : Claim7 := { stood := { row := simOrderUptoRow, standIns := [], harness := (true, "da6f15d23617214188382f494f53f055c24aa2df19472f97bbe9d61480b20a06"), looks := true }, kinds := [], alts := [], laidByText := true, laidKinds := [.data, .pinned], laidTests := true, laidLooks := .later }
def SimOrderUptoCardSaid : Prop := Claim7.holds Tryz.pinned (.plain (OpenSpec.upto simOrderSpec)) simOrderUptoCard

/-- THE SECOND FORM's CARD OF 'ashlarlaw18.SimDoubles'. -/
def simDoublesUptoCard : Claim7 := { stood := { row := simDoublesUptoRow, standIns := [], harness := (true, "da6f15d23617214188382f494f53f055c24aa2df19472f97bbe9d61480b20a06"), looks := true }, kinds := [], alts := [], laidByText := true, laidKinds := [.data, .pinned], laidTests := true, laidLooks := .later }
def SimDoublesUptoCardSaid : Prop := Claim7.holds Tryz.pinned (.plain (OpenSpec.upto simDoublesSpec)) simDoublesUptoCard
end Rows
end Go.Proofs.YtamlemhpgfjdoaaGreatDoor
