/-
  DERIVED. GIVEN WITH THE SEED: THE CARDS: each row of YtlonmopppgadgaaDoorRows.lean that lists a variable, with what it lists TIED to the program's text (the seventh form; the later family's looks); each row that meets fmt, with fmt's text TOLD by the authors' own Lean function (tested against real Go, not proved from fmt's source: count such statements apart). THE CARD IS WHAT COUNTS. Prove the row's statement (the work); the ties are given (YtlonmopppgadgaaDoorTie.lean); close each card by the builder's one call (the guide's Derived/Test/ToyasCard.lean, 'card_holds'). Laid BY PROGRAM, IN A SANDBOX (cutbox-door.mjs). By AI agents, Wed Nov 11 2026. No macro, syntax, notation, axiom, sorry.
-/
import Derived.Test.YtlonmopppgadgaaDoorRows
import GoSem.ClaimSeven
namespace Go.Proofs.YtlonmopppgadgaaDoor
namespace Rows

/-- THE TIED CARD OF 'ashlarlaw06.NormTells'. -/
def normTellsCard : Claim7 := { stood := { row := normTellsRow, standIns := [], harness := (true, "0816e8313d5bd36f8c047a9f50dd7a10e7633b5c133b95f2e4fb6e82058e42ba"), looks := true }, kinds := [], alts := [], laidByText := true, laidKinds := [.data, .pinned], laidTests := true, laidLooks := .later }
def NormTellsCardSaid : Prop := Claim7.holds Tryd.pinned (.plain (OpenSpec.ofChange normTellsSpec)) normTellsCard

/-- THE TIED CARD OF 'ashlarlaw06.NormAgain'. -/
def normAgainCard : Claim7 := { stood := { row := normAgainRow, standIns := [], harness := (true, "0816e8313d5bd36f8c047a9f50dd7a10e7633b5c133b95f2e4fb6e82058e42ba"), looks := true }, kinds := [], alts := [], laidByText := true, laidKinds := [.data, .pinned], laidTests := true, laidLooks := .later }
def NormAgainCardSaid : Prop := Claim7.holds Tryd.pinned (.plain (OpenSpec.ofChange normAgainSpec)) normAgainCard

/-- THE TIED CARD OF 'ashlarlaw06.NormTurned'. -/
def normTurnedCard : Claim7 := { stood := { row := normTurnedRow, standIns := [], harness := (true, "0816e8313d5bd36f8c047a9f50dd7a10e7633b5c133b95f2e4fb6e82058e42ba"), looks := true }, kinds := [], alts := [], laidByText := true, laidKinds := [.data, .pinned], laidTests := true, laidLooks := .later }
def NormTurnedCardSaid : Prop := Claim7.holds Tryd.pinned (.plain (OpenSpec.ofChange normTurnedSpec)) normTurnedCard

/-- THE TIED CARD OF 'ashlarlaw04.EvalBig'. -/
def evalBigCard : Claim7 := { stood := { row := evalBigRow, standIns := [], harness := (true, "0816e8313d5bd36f8c047a9f50dd7a10e7633b5c133b95f2e4fb6e82058e42ba"), looks := true }, kinds := [], alts := [], laidByText := true, laidKinds := [.data, .pinned], laidTests := true, laidLooks := .later }
def EvalBigCardSaid : Prop := Claim7.holds Tryd.pinned (.plain (OpenSpec.ofChange evalBigSpec)) evalBigCard

/-- THE TIED CARD OF 'ashlarlaw04.EvalTurned'. -/
def evalTurnedCard : Claim7 := { stood := { row := evalTurnedRow, standIns := [], harness := (true, "0816e8313d5bd36f8c047a9f50dd7a10e7633b5c133b95f2e4fb6e82058e42ba"), looks := true }, kinds := [], alts := [], laidByText := true, laidKinds := [.data, .pinned], laidTests := true, laidLooks := .later }
def EvalTurnedCardSaid : Prop := Claim7.holds Tryd.pinned (.plain (OpenSpec.ofChange evalTurnedSpec)) evalTurnedCard

/-- THE TIED CARD OF 'ashlarlaw04.EvalWith'. -/
def evalWithCard : Claim7 := { stood := { row := evalWithRow, standIns := [], harness := (true, "0816e8313d5bd36f8c047a9f50dd7a10e7633b5c133b95f2e4fb6e82058e42ba"), looks := true }, kinds := [], alts := [], laidByText := true, laidKinds := [.data, .pinned], laidTests := true, laidLooks := .later }
def EvalWithCardSaid : Prop := Claim7.holds Tryd.pinned (.plain (OpenSpec.ofChange evalWithSpec)) evalWithCard

/-- THE TIED CARD OF 'ashlarlaw04.EvalLaws'. -/
def evalLawsCard : Claim7 := { stood := { row := evalLawsRow, standIns := [], harness := (true, "0816e8313d5bd36f8c047a9f50dd7a10e7633b5c133b95f2e4fb6e82058e42ba"), looks := true }, kinds := [], alts := [], laidByText := true, laidKinds := [.data, .pinned], laidTests := true, laidLooks := .later }
def EvalLawsCardSaid : Prop := Claim7.holds Tryd.pinned (.plain (OpenSpec.ofChange evalLawsSpec)) evalLawsCard

/-- THE TIED CARD OF 'ashlarlaw06.NormValues'. -/
def normValuesCard : Claim7 := { stood := { row := normValuesRow, standIns := [], harness := (true, "0816e8313d5bd36f8c047a9f50dd7a10e7633b5c133b95f2e4fb6e82058e42ba"), looks := true }, kinds := [], alts := [], laidByText := true, laidKinds := [.data, .pinned], laidTests := true, laidLooks := .later }
def NormValuesCardSaid : Prop := Claim7.holds Tryd.pinned (.plain (OpenSpec.ofChange normValuesSpec)) normValuesCard

/-- THE TIED CARD OF 'ashlarlaw03.TermTells'. -/
def termTellsCard : Claim7 := { stood := { row := termTellsRow, standIns := [], harness := (true, "0816e8313d5bd36f8c047a9f50dd7a10e7633b5c133b95f2e4fb6e82058e42ba"), looks := true }, kinds := [], alts := [], laidByText := true, laidKinds := [.data, .pinned], laidTests := true, laidLooks := .later }
def TermTellsCardSaid : Prop := Claim7.holds Tryd.pinned (.plain (OpenSpec.ofChange termTellsSpec)) termTellsCard

/-- THE TIED CARD OF 'ashlarlaw03.TermParts'. -/
def termPartsCard : Claim7 := { stood := { row := termPartsRow, standIns := [], harness := (true, "0816e8313d5bd36f8c047a9f50dd7a10e7633b5c133b95f2e4fb6e82058e42ba"), looks := true }, kinds := [], alts := [], laidByText := true, laidKinds := [.data, .pinned], laidTests := true, laidLooks := .later }
def TermPartsCardSaid : Prop := Claim7.holds Tryd.pinned (.plain (OpenSpec.ofChange termPartsSpec)) termPartsCard

/-- THE TIED CARD OF 'ashlarlaw03.TermJoins'. -/
def termJoinsCard : Claim7 := { stood := { row := termJoinsRow, standIns := [], harness := (true, "0816e8313d5bd36f8c047a9f50dd7a10e7633b5c133b95f2e4fb6e82058e42ba"), looks := true }, kinds := [], alts := [], laidByText := true, laidKinds := [.data, .pinned], laidTests := true, laidLooks := .later }
def TermJoinsCardSaid : Prop := Claim7.holds Tryd.pinned (.plain (OpenSpec.ofChange termJoinsSpec)) termJoinsCard

/-- THE TIED CARD OF 'ashlarlaw03.TermNames'. -/
def termNamesCard : Claim7 := { stood := { row := termNamesRow, standIns := [], harness := (true, "0816e8313d5bd36f8c047a9f50dd7a10e7633b5c133b95f2e4fb6e82058e42ba"), looks := true }, kinds := [], alts := [], laidByText := true, laidKinds := [.data, .pinned], laidTests := true, laidLooks := .later }
def TermNamesCardSaid : Prop := Claim7.holds Tryd.pinned (.plain (OpenSpec.ofChange termNamesSpec)) termNamesCard

/-- THE TIED CARD OF 'ashlarlaw03.TermWraps'. -/
def termWrapsCard : Claim7 := { stood := { row := termWrapsRow, standIns := [], harness := (true, "0816e8313d5bd36f8c047a9f50dd7a10e7633b5c133b95f2e4fb6e82058e42ba"), looks := true }, kinds := [], alts := [], laidByText := true, laidKinds := [.data, .pinned], laidTests := true, laidLooks := .later }
def TermWrapsCardSaid : Prop := Claim7.holds Tryd.pinned (.plain (OpenSpec.ofChange termWrapsSpec)) termWrapsCard

/-- THE TIED CARD OF 'ashlarlaw06.NormNames'. -/
def normNamesCard : Claim7 := { stood := { row := normNamesRow, standIns := [], harness := (true, "0816e8313d5bd36f8c047a9f50dd7a10e7633b5c133b95f2e4fb6e82058e42ba"), looks := true }, kinds := [], alts := [], laidByText := true, laidKinds := [.data, .pinned], laidTests := true, laidLooks := .later }
def NormNamesCardSaid : Prop := Claim7.holds Tryd.pinned (.plain (OpenSpec.ofChange normNamesSpec)) normNamesCard

/-- THE SECOND FORM's CARD OF 'ashlarlaw06.NormTells'. -/
def normTellsUptoCard : Claim7 := { stood := { row := normTellsUptoRow, standIns := [], harness := (true, "0816e8313d5bd36f8c047a9f50dd7a10e7633b5c133b95f2e4fb6e82058e42ba"), looks := true }, kinds := [], alts := [], laidByText := true, laidKinds := [.data, .pinned], laidTests := true, laidLooks := .later }
def NormTellsUptoCardSaid : Prop := Claim7.holds Tryd.pinned (.plain (OpenSpec.upto normTellsSpec)) normTellsUptoCard

/-- THE SECOND FORM's CARD OF 'ashlarlaw06.NormAgain'. -/
def normAgainUptoCard : Claim7 := { stood := { row := normAgainUptoRow, standIns := [], harness := (true, "0816e8313d5bd36f8c047a9f50dd7a10e7633b5c133b95f2e4fb6e82058e42ba"), looks := true }, kinds := [], alts := [], laidByText := true, laidKinds := [.data, .pinned], laidTests := true, laidLooks := .later }
def NormAgainUptoCardSaid : Prop := Claim7.holds Tryd.pinned (.plain (OpenSpec.upto normAgainSpec)) normAgainUptoCard

/-- THE SECOND FORM's CARD OF 'ashlarlaw06.NormTurned'. -/
def normTurnedUptoCard : Claim7 := { stood := { row := normTurnedUptoRow, standIns := [], harness := (true, "0816e8313d5bd36f8c047a9f50dd7a10e7633b5c133b95f2e4fb6e82058e42ba"), looks := true }, kinds := [], alts := [], laidByText := true, laidKinds := [.data, .pinned], laidTests := true, laidLooks := .later }
def NormTurnedUptoCardSaid : Prop := Claim7.holds Tryd.pinned (.plain (OpenSpec.upto normTurnedSpec)) normTurnedUptoCard

/-- THE SECOND FORM's CARD OF 'ashlarlaw04.EvalBig'. -/
def evalBigUptoCard : Claim7 := { stood := { row := evalBigUptoRow, standIns := [], harness := (true, "0816e8313d5bd36f8c047a9f50dd7a10e7633b5c133b95f2e4fb6e82058e42ba"), looks := true }, kinds := [], alts := [], laidByText := true, laidKinds := [.data, .pinned], laidTests := true, laidLooks := .later }
def EvalBigUptoCardSaid : Prop := Claim7.holds Tryd.pinned (.plain (OpenSpec.upto evalBigSpec)) evalBigUptoCard

/-- THE SECOND FORM's CARD OF 'ashlarlaw04.EvalTurned'. -/
def evalTurnedUptoCard : Claim7 := { stood := { row := evalTurnedUptoRow, standIns := [], harness := (true, "0816e8313d5bd36f8c047a9f50dd7a10e7633b5c133b95f2e4fb6e82058e42ba"), looks := true }, kinds := [], alts := [], laidByText := true, laidKinds := [.data, .pinned], laidTests := true, laidLooks := .later }
def EvalTurnedUptoCardSaid : Prop := Claim7.holds Tryd.pinned (.plain (OpenSpec.upto evalTurnedSpec)) evalTurnedUptoCard

/-- THE SECOND FORM's CARD OF 'ashlarlaw04.EvalWith'. -/
def evalWithUptoCard : Claim7 := { stood := { row := evalWithUptoRow, standIns := [], harness := (true, "0816e8313d5bd36f8c047a9f50dd7a10e7633b5c133b95f2e4fb6e82058e42ba"), looks := true }, kinds := [], alts := [], laidByText := true, laidKinds := [.data, .pinned], laidTests := true, laidLooks := .later }
def EvalWithUptoCardSaid : Prop := Claim7.holds Tryd.pinned (.plain (OpenSpec.upto evalWithSpec)) evalWithUptoCard

/-- THE SECOND FORM's CARD OF 'ashlarlaw04.EvalLaws'. -/
def evalLawsUptoCard : Claim7 := { stood := { row := evalLawsUptoRow, standIns := [], harness := (true, "0816e8313d5bd36f8c047a9f50dd7a10e7633b5c133b95f2e4fb6e82058e42ba"), looks := true }, kinds := [], alts := [], laidByText := true, laidKinds := [.data, .pinned], laidTests := true, laidLooks := .later }
def EvalLawsUptoCardSaid : Prop := Claim7.holds Tryd.pinned (.plain (OpenSpec.upto evalLawsSpec)) evalLawsUptoCard

/-- THE SECOND FORM's CARD OF 'ashlarlaw06.NormValues'. -/
def normValuesUptoCard : Claim7 := { stood := { row := normValuesUptoRow, standIns := [], harness := (true, "0816e8313d5bd36f8c047a9f50dd7a10e7633b5c133b95f2e4fb6e82058e42ba"), looks := true }, kinds := [], alts := [], laidByText := true, laidKinds := [.data, .pinned], laidTests := true, laidLooks := .later }
def NormValuesUptoCardSaid : Prop := Claim7.holds Tryd.pinned (.plain (OpenSpec.upto normValuesSpec)) normValuesUptoCard

/-- THE SECOND FORM's CARD OF 'ashlarlaw03.TermTells'. -/
def termTellsUptoCard : Claim7 := { stood := { row := termTellsUptoRow, standIns := [], harness := (true, "0816e8313d5bd36f8c047a9f50dd7a10e7633b5c133b95f2e4fb6e82058e42ba"), looks := true }, kinds := [], alts := [], laidByText := true, laidKinds := [.data, .pinned], laidTests := true, laidLooks := .later }
def TermTellsUptoCardSaid : Prop := Claim7.holds Tryd.pinned (.plain (OpenSpec.upto termTellsSpec)) termTellsUptoCard

/-- THE SECOND FORM's CARD OF 'ashlarlaw03.TermParts'. -/
def termPartsUptoCard : Claim7 := { stood := { row := termPartsUptoRow, standIns := [], harness := (true, "0816e8313d5bd36f8c047a9f50dd7a10e7633b5c133b95f2e4fb6e82058e42ba"), looks := true }, kinds := [], alts := [], laidByText := true, laidKinds := [.data, .pinned], laidTests := true, laidLooks := .later }
def TermPartsUptoCardSaid : Prop := Claim7.holds Tryd.pinned (.plain (OpenSpec.upto termPartsSpec)) termPartsUptoCard

/-- THE SECOND FORM's CARD OF 'ashlarlaw03.TermJoins'. -/
def termJoinsUptoCard : Claim7 := { stood := { row := termJoinsUptoRow, standIns := [], harness := (true, "0816e8313d5bd36f8c047a9f50dd7a10e7633b5c133b95f2e4fb6e82058e42ba"), looks := true }, kinds := [], alts := [], laidByText := true, laidKinds := [.data, .pinned], laidTests := true, laidLooks := .later }
def TermJoinsUptoCardSaid : Prop := Claim7.holds Tryd.pinned (.plain (OpenSpec.upto termJoinsSpec)) termJoinsUptoCard

/-- THE SECOND FORM's CARD OF 'ashlarlaw03.TermNames'. -/
def termNamesUptoCard : Claim7 := { stood := { row := termNamesUptoRow, standIns := [], harness := (true, "0816e8313d5bd36f8c047a9f50dd7a10e7633b5c133b95f2e4fb6e82058e42ba"), looks := true }, kinds := [], alts := [], laidByText := true, laidKinds := [.data, .pinned], laidTests := true, laidLooks := .later }
def TermNamesUptoCardSaid : Prop := Claim7.holds Tryd.pinned (.plain (OpenSpec.upto termNamesSpec)) termNamesUptoCard

/-- THE SECOND FORM's CARD OF 'ashlarlaw03.TermWraps'. -/
def termWrapsUptoCard : Claim7 := { stood := { row := termWrapsUptoRow, standIns := [], harness := (true, "0816e8313d5bd36f8c047a9f50dd7a10e7633b5c133b95f2e4fb6e82058e42ba"), looks := true }, kinds := [], alts := [], laidByText := true, laidKinds := [.data, .pinned], laidTests := true, laidLooks := .later }
def TermWrapsUptoCardSaid : Prop := Claim7.holds Tryd.pinned (.plain (OpenSpec.upto termWrapsSpec)) termWrapsUptoCard

/-- THE SECOND FORM's CARD OF 'ashlarlaw06.NormNames'. -/
def normNamesUptoCard : Claim7 := { stood := { row := normNamesUptoRow, standIns := [], harness := (true, "0816e8313d5bd36f8c047a9f50dd7a10e7633b5c133b95f2e4fb6e82058e42ba"), looks := true }, kinds := [], alts := [], laidByText := true, laidKinds := [.data, .pinned], laidTests := true, laidLooks := .later }
def NormNamesUptoCardSaid : Prop := Claim7.holds Tryd.pinned (.plain (OpenSpec.upto normNamesSpec)) normNamesUptoCard
end Rows
end Go.Proofs.YtlonmopppgadgaaDoor
