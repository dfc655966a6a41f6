/-
  DERIVED. GIVEN WITH THE SEED: THE CARDS: each row of YtlonmopppgadgaaGreatDoorRows.lean that lists a variable, with what it lists TIED to the program's text (the seventh form; the later family's looks); each row that meets fmt, with fmt's text TOLD by the authors' own Lean function (tested against real Go, not proved from fmt's source: count such statements apart). THE CARD IS WHAT COUNTS. Prove the row's statement (the work); the ties are given (YtlonmopppgadgaaGreatDoorTie.lean); close each card by the builder's one call (the guide's Derived/Test/ToyasCard.lean, 'card_holds'). Laid BY PROGRAM, IN A SANDBOX (cutbox-door.mjs). By AI agents, Wed Nov 11 2026. No macro, syntax, notation, axiom, sorry.
-/
import Derived.Test.YtlonmopppgadgaaGreatDoorRows
import GoSem.ClaimSeven
namespace Go.Proofs.YtlonmopppgadgaaGreatDoor
namespace Rows

/-- THE TIED CARD OF 'ashlarlaw04.EvalSorts'. -/
def evalSortsCard : Claim7 := { stood := { row := evalSortsRow, standIns := [], harness := (true, "68f41f941e8cf6d45aae1ca3c07b06e9efbcfdff36cfd09833601f4575d1cd1d"), looks := true }, kinds := [], alts := [], laidByText := true, laidKinds := [.data, .pinned], laidTests := true, laidLooks := .later }
def EvalSortsCardSaid : Prop := Claim7.holds Tryz.pinned (.plain (OpenSpec.ofChange evalSortsSpec)) evalSortsCard

/-- THE TIED CARD OF 'ashlarlaw04.EvalApart'. -/
def evalApartCard : Claim7 := { stood := { row := evalApartRow, standIns := [], harness := (true, "68f41f941e8cf6d45aae1ca3c07b06e9efbcfdff36cfd09833601f4575d1cd1d"), looks := true }, kinds := [], alts := [], laidByText := true, laidKinds := [.data, .pinned], laidTests := true, laidLooks := .later }
def EvalApartCardSaid : Prop := Claim7.holds Tryz.pinned (.plain (OpenSpec.ofChange evalApartSpec)) evalApartCard

/-- THE SECOND FORM's CARD OF 'ashlarlaw04.EvalSorts'. -/
def evalSortsUptoCard : Claim7 := { stood := { row := evalSortsUptoRow, standIns := [], harness := (true, "68f41f941e8cf6d45aae1ca3c07b06e9efbcfdff36cfd09833601f4575d1cd1d"), looks := true }, kinds := [], alts := [], laidByText := true, laidKinds := [.data, .pinned], laidTests := true, laidLooks := .later }
def EvalSortsUptoCardSaid : Prop := Claim7.holds Tryz.pinned (.plain (OpenSpec.upto evalSortsSpec)) evalSortsUptoCard

/-- THE SECOND FORM's CARD OF 'ashlarlaw04.EvalApart'. -/
def evalApartUptoCard : Claim7 := { stood := { row := evalApartUptoRow, standIns := [], harness := (true, "68f41f941e8cf6d45aae1ca3c07b06e9efbcfdff36cfd09833601f4575d1cd1d"), looks := true }, kinds := [], alts := [], laidByText := true, laidKinds := [.data, .pinned], laidTests := true, laidLooks := .later }
def EvalApartUptoCardSaid : Prop := Claim7.holds Tryz.pinned (.plain (OpenSpec.upto evalApartSpec)) evalApartUptoCard
end Rows
end Go.Proofs.YtlonmopppgadgaaGreatDoor
