/-
  DERIVED. GIVEN WITH THE SEED: THE CARDS: each row of YtokpeggkofjclaaGreatDoorRows.lean that lists a variable, with what it lists TIED to the program's text (the seventh form; the later family's looks); each row that meets fmt, with fmt's text TOLD by the authors' own Lean function (tested against real Go, not proved from fmt's source: count such statements apart). THE CARD IS WHAT COUNTS. Prove the row's statement (the work); the ties are given (YtokpeggkofjclaaGreatDoorTie.lean); close each card by the builder's one call (the guide's Derived/Test/ToyasCard.lean, 'card_holds'). Laid BY PROGRAM, IN A SANDBOX (cutbox-door.mjs). By AI agents, Wed Nov 11 2026. No macro, syntax, notation, axiom, sorry.
-/
import Derived.Test.YtokpeggkofjclaaGreatDoorRows
import GoSem.ClaimSeven
namespace Go.Proofs.YtokpeggkofjclaaGreatDoor
namespace Rows

/-- THE TIED CARD OF 'ashlarlaw13.VennTells'. -/
def vennTellsCard : Claim7 := { stood := { row := vennTellsRow, standIns := [], harness := (true, "549c1017fc3757ce4dee9193f72f3a951a3200c54f7e7f22f6796485bc2f4efb"), looks := true }, kinds := [], alts := [], laidByText := true, laidKinds := [.data, .pinned], laidTests := true, laidLooks := .later }
def VennTellsCardSaid : Prop := Claim7.holds Tryz.pinned (.plain (OpenSpec.ofChange vennTellsSpec)) vennTellsCard

/-- THE TIED CARD OF 'ashlarlaw13.VennBase'. -/
def vennBaseCard : Claim7 := { stood := { row := vennBaseRow, standIns := [], harness := (true, "549c1017fc3757ce4dee9193f72f3a951a3200c54f7e7f22f6796485bc2f4efb"), looks := true }, kinds := [], alts := [], laidByText := true, laidKinds := [.data, .pinned], laidTests := true, laidLooks := .later }
def VennBaseCardSaid : Prop := Claim7.holds Tryz.pinned (.plain (OpenSpec.ofChange vennBaseSpec)) vennBaseCard

/-- THE TIED CARD OF 'ashlarlaw13.VennTurned'. -/
def vennTurnedCard : Claim7 := { stood := { row := vennTurnedRow, standIns := [], harness := (true, "549c1017fc3757ce4dee9193f72f3a951a3200c54f7e7f22f6796485bc2f4efb"), looks := true }, kinds := [], alts := [], laidByText := true, laidKinds := [.data, .pinned], laidTests := true, laidLooks := .later }
def VennTurnedCardSaid : Prop := Claim7.holds Tryz.pinned (.plain (OpenSpec.ofChange vennTurnedSpec)) vennTurnedCard

/-- THE TIED CARD OF 'ashlarlaw13.VennAdds'. -/
def vennAddsCard : Claim7 := { stood := { row := vennAddsRow, standIns := [], harness := (true, "549c1017fc3757ce4dee9193f72f3a951a3200c54f7e7f22f6796485bc2f4efb"), looks := true }, kinds := [], alts := [], laidByText := true, laidKinds := [.data, .pinned], laidTests := true, laidLooks := .later }
def VennAddsCardSaid : Prop := Claim7.holds Tryz.pinned (.plain (OpenSpec.ofChange vennAddsSpec)) vennAddsCard

/-- THE TIED CARD OF 'ashlarlaw13.VennRegions'. -/
def vennRegionsCard : Claim7 := { stood := { row := vennRegionsRow, standIns := [], harness := (true, "549c1017fc3757ce4dee9193f72f3a951a3200c54f7e7f22f6796485bc2f4efb"), looks := true }, kinds := [], alts := [], laidByText := true, laidKinds := [.data, .pinned], laidTests := true, laidLooks := .later }
def VennRegionsCardSaid : Prop := Claim7.holds Tryz.pinned (.plain (OpenSpec.ofChange vennRegionsSpec)) vennRegionsCard

/-- THE TIED CARD OF 'ashlarlaw13.VennHolds'. -/
def vennHoldsCard : Claim7 := { stood := { row := vennHoldsRow, standIns := [], harness := (true, "549c1017fc3757ce4dee9193f72f3a951a3200c54f7e7f22f6796485bc2f4efb"), looks := true }, kinds := [], alts := [], laidByText := true, laidKinds := [.data, .pinned], laidTests := true, laidLooks := .later }
def VennHoldsCardSaid : Prop := Claim7.holds Tryz.pinned (.plain (OpenSpec.ofChange vennHoldsSpec)) vennHoldsCard

/-- THE SECOND FORM's CARD OF 'ashlarlaw13.VennTells'. -/
def vennTellsUptoCard : Claim7 := { stood := { row := vennTellsUptoRow, standIns := [], harness := (true, "549c1017fc3757ce4dee9193f72f3a951a3200c54f7e7f22f6796485bc2f4efb"), looks := true }, kinds := [], alts := [], laidByText := true, laidKinds := [.data, .pinned], laidTests := true, laidLooks := .later }
def VennTellsUptoCardSaid : Prop := Claim7.holds Tryz.pinned (.plain (OpenSpec.upto vennTellsSpec)) vennTellsUptoCard

/-- THE SECOND FORM's CARD OF 'ashlarlaw13.VennBase'. -/
def vennBaseUptoCard : Claim7 := { stood := { row := vennBaseUptoRow, standIns := [], harness := (true, "549c1017fc3757ce4dee9193f72f3a951a3200c54f7e7f22f6796485bc2f4efb"), looks := true }, kinds := [], alts := [], laidByText := true, laidKinds := [.data, .pinned], laidTests := true, laidLooks := .later }
def VennBaseUptoCardSaid : Prop := Claim7.holds Tryz.pinned (.plain (OpenSpec.upto vennBaseSpec)) vennBaseUptoCard

/-- THE SECOND FORM's CARD OF 'ashlarlaw13.VennTurned'. -/
def vennTurnedUptoCard : Claim7 := { stood := { row := vennTurnedUptoRow, standIns := [], harness := (true, "549c1017fc3757ce4dee9193f72f3a951a3200c54f7e7f22f6796485bc2f4efb"), looks := true }, kinds := [], alts := [], laidByText := true, laidKinds := [.data, .pinned], laidTests := true, laidLooks := .later }
def VennTurnedUptoCardSaid : Prop := Claim7.holds Tryz.pinned (.plain (OpenSpec.upto vennTurnedSpec)) vennTurnedUptoCard

/-- THE SECOND FORM's CARD OF 'ashlarlaw13.VennAdds'. -/
def vennAddsUptoCard : Claim7 := { stood := { row := vennAddsUptoRow, standIns := [], harness := (true, "549c1017fc3757ce4dee9193f72f3a951a3200c54f7e7f22f6796485bc2f4efb"), looks := true }, kinds := [], alts := [], laidByText := true, laidKinds := [.data, .pinned], laidTests := true, laidLooks := .later }
def VennAddsUptoCardSaid : Prop := Claim7.holds Tryz.pinned (.plain (OpenSpec.upto vennAddsSpec)) vennAddsUptoCard

/-- THE SECOND FORM's CARD OF 'ashlarlaw13.VennRegions'. -/
def vennRegionsUptoCard : Claim7 := { stood := { row := vennRegionsUptoRow, standIns := [], harness := (true, "549c1017fc3757ce4dee9193f72f3a951a3200c54f7e7f22f6796485bc2f4efb"), looks := true }, kinds := [], alts := [], laidByText := true, laidKinds := [.data, .pinned], laidTests := true, laidLooks := .later }
def VennRegionsUptoCardSaid : Prop := Claim7.holds Tryz.pinned (.plain (OpenSpec.upto vennRegionsSpec)) vennRegionsUptoCard

/-- THE SECOND FORM's CARD OF 'ashlarlaw13.VennHolds'. -/
def vennHoldsUptoCard : Claim7 := { stood := { row := vennHoldsUptoRow, standIns := [], harness := (true, "549c1017fc3757ce4dee9193f72f3a951a3200c54f7e7f22f6796485bc2f4efb"), looks := true }, kinds := [], alts := [], laidByText := true, laidKinds := [.data, .pinned], laidTests := true, laidLooks := .later }
def VennHoldsUptoCardSaid : Prop := Claim7.holds Tryz.pinned (.plain (OpenSpec.upto vennHoldsSpec)) vennHoldsUptoCard
end Rows
end Go.Proofs.YtokpeggkofjclaaGreatDoor
