/-
  DERIVED. GIVEN WITH THE SEED: THE CARDS: each row of YtdalobojhfafbaaGreatDoorRows.lean that lists a variable, with what it lists TIED to the program's text (the seventh form; the later family's looks); each row that meets fmt, with fmt's text TOLD by the authors' own Lean function (tested against real Go, not proved from fmt's source: count such statements apart). THE CARD IS WHAT COUNTS. Prove the row's statement (the work); the ties are given (YtdalobojhfafbaaGreatDoorTie.lean); close each card by the builder's one call (the guide's Derived/Test/ToyasCard.lean, 'card_holds'). Laid BY PROGRAM, IN A SANDBOX (cutbox-door.mjs). By AI agents, Wed Nov 11 2026. No macro, syntax, notation, axiom, sorry.
-/
import Derived.Test.YtdalobojhfafbaaGreatDoorRows
import GoSem.ClaimSeven
namespace Go.Proofs.YtdalobojhfafbaaGreatDoor
namespace Rows

/-- THE TIED CARD OF 'ashlarlaw18.SimRuns'. -/
def simRunsCard : Claim7 := { stood := { row := simRunsRow, standIns := [], harness := (true, "50a3f6cfe270cfd2b053c47aae9af329fb7a0314b858c65007e606ea5051f804"), looks := true }, kinds := [], alts := [], laidByText := true, laidKinds := [.data, .pinned], laidTests := true, laidLooks := .later }
def SimRunsCardSaid : Prop := Claim7.holds Tryz.pinned (.plain (OpenSpec.ofChange simRunsSpec)) simRunsCard

/-- THE TIED CARD OF 'ashlarlaw18.SimRight'. -/
def simRightCard : Claim7 := { stood := { row := simRightRow, standIns := [], harness := (true, "50a3f6cfe270cfd2b053c47aae9af329fb7a0314b858c65007e606ea5051f804"), looks := true }, kinds := [], alts := [], laidByText := true, laidKinds := [.data, .pinned], laidTests := true, laidLooks := .later }
def SimRightCardSaid : Prop := Claim7.holds Tryz.pinned (.plain (OpenSpec.ofChange simRightSpec)) simRightCard

/-- THE TIED CARD OF 'ashlarlaw18.SimRefused'. -/
def simRefusedCard : Claim7 := { stood := { row := simRefusedRow, standIns := [], harness := (true, "50a3f6cfe270cfd2b053c47aae9af329fb7a0314b858c65007e606ea5051f804"), looks := true }, kinds := [], alts := [], laidByText := true, laidKinds := [.data, .pinned], laidTests := true, laidLooks := .later }
def SimRefusedCardSaid : Prop := Claim7.holds Tryz.pinned (.plain (OpenSpec.ofChange simRefusedSpec)) simRefusedCard

/-- THE TIED CARD OF 'ashlarlaw18.SimAgain'. -/
def simAgainCard : Claim7 := { stood := { row := simAgainRow, standIns := [], harness := (true, "50a3f6cfe270cfd2b053c47aae9af329fb7a0314b858c65007e606ea5051f804"), looks := true }, kinds := [], alts := [], laidByText := true, laidKinds := [.data, .pinned], laidTests := true, laidLooks := .later }
def SimAgainCardSaid : Prop := Claim7.holds Tryz.pinned (.plain (OpenSpec.ofChange simAgainSpec)) simAgainCard

/-- THE TIED CARD OF 'ashlarlaw18.SimFirst'. -/
def simFirstCard : Claim7 := { stood := { row := simFirstRow, standIns := [], harness := (true, "50a3f6cfe270cfd2b053c47aae9af329fb7a0314b858c65007e606ea5051f804"), looks := true }, kinds := [], alts := [], laidByText := true, laidKinds := [.data, .pinned], laidTests := true, laidLooks := .later }
def SimFirstCardSaid : Prop := Claim7.holds Tryz.pinned (.plain (OpenSpec.ofChange simFirstSpec)) simFirstCard

/-- THE TIED CARD OF 'ashlarlaw18.SimOrder'. -/
def simOrderCard : Claim7 := { stood := { row := simOrderRow, standIns := [], harness := (true, "50a3f6cfe270cfd2b053c47aae9af329fb7a0314b858c65007e606ea5051f804"), looks := true }, kinds := [], alts := [], laidByText := true, laidKinds := [.data, .pinned], laidTests := true, laidLooks := .later }
def SimOrderCardSaid : Prop := Claim7.holds Tryz.pinned (.plain (OpenSpec.ofChange simOrderSpec)) simOrderCard

/-- THE TIED CARD OF 'ashlarlaw18.SimDoubles'. -/
def simDoublesCard : Claim7 := { stood := { row := simDoublesRow, standIns := [], harness := (true, "50a3f6cfe270cfd2b053c47aae9af329fb7a0314b858c65007e606ea5051f804"), looks := true }, kinds := [], alts := [], laidByText := true, laidKinds := [.data, .pinned], laidTests := true, laidLooks := .later }
def SimDoublesCardSaid : Prop := Claim7.holds Tryz.pinned (.plain (OpenSpec.ofChange simDoublesSpec)) simDoublesCard

/-- THE TIED CARD OF 'ashlarlaw19.HornFirst'. -/
def hornFirstCard : Claim7 := { stood := { row := hornFirstRow, standIns := [], harness := (true, "50a3f6cfe270cfd2b053c47aae9af329fb7a0314b858c65007e606ea5051f804"), looks := true }, kinds := [], alts := [], laidByText := true, laidKinds := [.data, .pinned], laidTests := true, laidLooks := .later }
def HornFirstCardSaid : Prop := Claim7.holds Tryz.pinned (.plain (OpenSpec.ofChange hornFirstSpec)) hornFirstCard

/-- THE TIED CARD OF 'ashlarlaw19.HornSteps'. -/
def hornStepsCard : Claim7 := { stood := { row := hornStepsRow, standIns := [], harness := (true, "50a3f6cfe270cfd2b053c47aae9af329fb7a0314b858c65007e606ea5051f804"), looks := true }, kinds := [], alts := [], laidByText := true, laidKinds := [.data, .pinned], laidTests := true, laidLooks := .later }
def HornStepsCardSaid : Prop := Claim7.holds Tryz.pinned (.plain (OpenSpec.ofChange hornStepsSpec)) hornStepsCard

/-- THE SECOND FORM's CARD OF 'ashlarlaw18.SimRuns'. -/
def simRunsUptoCard : Claim7 := { stood := { row := simRunsUptoRow, standIns := [], harness := (true, "50a3f6cfe270cfd2b053c47aae9af329fb7a0314b858c65007e606ea5051f804"), looks := true }, kinds := [], alts := [], laidByText := true, laidKinds := [.data, .pinned], laidTests := true, laidLooks := .later }
def SimRunsUptoCardSaid : Prop := Claim7.holds Tryz.pinned (.plain (OpenSpec.upto simRunsSpec)) simRunsUptoCard

/-- THE SECOND FORM's CARD OF 'ashlarlaw18.SimRight'. -/
def simRightUptoCard : Claim7 := { stood := { row := simRightUptoRow, standIns := [], harness := (true, "50a3f6cfe270cfd2b053c47aae9af329fb7a0314b858c65007e606ea5051f804"), looks := true }, kinds := [], alts := [], laidByText := true, laidKinds := [.data, .pinned], laidTests := true, laidLooks := .later }
def SimRightUptoCardSaid : Prop := Claim7.holds Tryz.pinned (.plain (OpenSpec.upto simRightSpec)) simRightUptoCard

/-- THE SECOND FORM's CARD OF 'ashlarlaw18.SimRefused'. -/
def simRefusedUptoCard : Claim7 := { stood := { row := simRefusedUptoRow, standIns := [], harness := (true, "50a3f6cfe270cfd2b053c47aae9af329fb7a0314b858c65007e606ea5051f804"), looks := true }, kinds := [], alts := [], laidByText := true, laidKinds := [.data, .pinned], laidTests := true, laidLooks := .later }
def SimRefusedUptoCardSaid : Prop := Claim7.holds Tryz.pinned (.plain (OpenSpec.upto simRefusedSpec)) simRefusedUptoCard

/-- THE SECOND FORM's CARD OF 'ashlarlaw18.SimAgain'. -/
def simAgainUptoCard : Claim7 := { stood := { row := simAgainUptoRow, standIns := [], harness := (true, "50a3f6cfe270cfd2b053c47aae9af329fb7a0314b858c65007e606ea5051f804"), looks := true }, kinds := [], alts := [], laidByText := true, laidKinds := [.data, .pinned], laidTests := true, laidLooks := .later }
def SimAgainUptoCardSaid : Prop := Claim7.holds Tryz.pinned (.plain (OpenSpec.upto simAgainSpec)) simAgainUptoCard

/-- THE SECOND FORM's CARD OF 'ashlarlaw18.SimFirst'. -/
def simFirstUptoCard : Claim7 := { stood := { row := simFirstUptoRow, standIns := [], harness := (true, "50a3f6cfe270cfd2b053c47aae9af329fb7a0314b858c65007e606ea5051f804"), looks := true }, kinds := [], alts := [], laidByText := true, laidKinds := [.data, .pinned], laidTests := true, laidLooks := .later }
def SimFirstUptoCardSaid : Prop := Claim7.holds Tryz.pinned (.plain (OpenSpec.upto simFirstSpec)) simFirstUptoCard

/-- THE SECOND FORM's CARD OF 'ashlarlaw18.SimOrder'. -/
def simOrderUptoCard : Claim7 := { stood := { row := simOrderUptoRow, standIns := [], harness := (true, "50a3f6cfe270cfd2b053c47aae9af329fb7a0314b858c65007e606ea5051f804"), looks := true }, kinds := [], alts := [], laidByText := true, laidKinds := [.data, .pinned], laidTests := true, laidLooks := .later }
def SimOrderUptoCardSaid : Prop := Claim7.holds Tryz.pinned (.plain (OpenSpec.upto simOrderSpec)) simOrderUptoCard

/-- THE SECOND FORM's CARD OF 'ashlarlaw18.SimDoubles'. -/
def simDoublesUptoCard : Claim7 := { stood := { row := simDoublesUptoRow, standIns := [], harness := (true, "50a3f6cfe270cfd2b053c47aae9af329fb7a0314b858c65007e606ea5051f804"), looks := true }, kinds := [], alts := [], laidByText := true, laidKinds := [.data, .pinned], laidTests := true, laidLooks := .later }
def SimDoublesUptoCardSaid : Prop := Claim7.holds Tryz.pinned (.plain (OpenSpec.upto simDoublesSpec)) simDoublesUptoCard

/-- THE SECOND FORM's CARD OF 'ashlarlaw19.HornFirst'. -/
def hornFirstUptoCard : Claim7 := { stood := { row := hornFirstUptoRow, standIns := [], harness := (true, "50a3f6cfe270cfd2b053c47aae9af329fb7a0314b858c65007e606ea5051f804"), looks := true }, kinds := [], alts := [], laidByText := true, laidKinds := [.data, .pinned], laidTests := true, laidLooks := .later }
def HornFirstUptoCardSaid : Prop := Claim7.holds Tryz.pinned (.plain (OpenSpec.upto hornFirstSpec)) hornFirstUptoCard

/-- THE SECOND FORM's CARD OF 'ashlarlaw19.HornSteps'. -/
def hornStepsUptoCard : Claim7 := { stood := { row := hornStepsUptoRow, standIns := [], harness := (true, "50a3f6cfe270cfd2b053c47aae9af329fb7a0314b858c65007e606ea5051f804"), looks := true }, kinds := [], alts := [], laidByText := true, laidKinds := [.data, .pinned], laidTests := true, laidLooks := .later }
def HornStepsUptoCardSaid : Prop := Claim7.holds Tryz.pinned (.plain (OpenSpec.upto hornStepsSpec)) hornStepsUptoCard
end Rows
end Go.Proofs.YtdalobojhfafbaaGreatDoor
