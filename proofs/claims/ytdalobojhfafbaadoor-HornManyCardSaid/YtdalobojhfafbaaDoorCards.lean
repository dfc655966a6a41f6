/-
  DERIVED. GIVEN WITH THE SEED: THE CARDS: each row of YtdalobojhfafbaaDoorRows.lean that lists a variable, with what it lists TIED to the program's text (the seventh form; the later family's looks); each row that meets fmt, with fmt's text TOLD by the authors' own Lean function (tested against real Go, not proved from fmt's source: count such statements apart). THE CARD IS WHAT COUNTS. Prove the row's statement (the work); the ties are given (YtdalobojhfafbaaDoorTie.lean); close each card by the builder's one call (the guide's Derived/Test/ToyasCard.lean, 'card_holds'). Laid BY PROGRAM, IN A SANDBOX (cutbox-door.mjs). By AI agents, Wed Nov 11 2026. No macro, syntax, notation, axiom, sorry.
-/
import Derived.Test.YtdalobojhfafbaaDoorRows
import GoSem.ClaimSeven
namespace Go.Proofs.YtdalobojhfafbaaDoor
namespace Rows

/-- THE TIED CARD OF 'ashlarlaw19.HornMany'. -/
def hornManyCard : Claim7 := { stood := { row := hornManyRow, standIns := [], harness := (true, "8f644b117a465599fb86f7bc0f5a828ec396c6a65cce19bd10fa98162a2f65cb"), looks := true }, kinds := [], alts := [], laidByText := true, laidKinds := [.data, .pinned], laidTests := true, laidLooks := .later }
def HornManyCardSaid : Prop := Claim7.holds Tryd.pinned (.plain (OpenSpec.ofChange hornManySpec)) hornManyCard

/-- THE TIED CARD OF 'ashlarlaw19.HornIdle'. -/
def hornIdleCard : Claim7 := { stood := { row := hornIdleRow, standIns := [], harness := (true, "8f644b117a465599fb86f7bc0f5a828ec396c6a65cce19bd10fa98162a2f65cb"), looks := true }, kinds := [], alts := [], laidByText := true, laidKinds := [.data, .pinned], laidTests := true, laidLooks := .later }
def HornIdleCardSaid : Prop := Claim7.holds Tryd.pinned (.plain (OpenSpec.ofChange hornIdleSpec)) hornIdleCard

/-- THE SECOND FORM's CARD OF 'ashlarlaw19.HornMany'. -/
def hornManyUptoCard : Claim7 := { stood := { row := hornManyUptoRow, standIns := [], harness := (true, "8f644b117a465599fb86f7bc0f5a828ec396c6a65cce19bd10fa98162a2f65cb"), looks := true }, kinds := [], alts := [], laidByText := true, laidKinds := [.data, .pinned], laidTests := true, laidLooks := .later }
def HornManyUptoCardSaid : Prop := Claim7.holds Tryd.pinned (.plain (OpenSpec.upto hornManySpec)) hornManyUptoCard

/-- THE SECOND FORM's CARD OF 'ashlarlaw19.HornIdle'. -/
def hornIdleUptoCard : Claim7 := { stood := { row := hornIdleUptoRow, standIns := [], harness := (true, "8f644b117a465599fb86f7bc0f5a828ec396c6a65cce19bd10fa98162a2f65cb"), looks := true }, kinds := [], alts := [], laidByText := true, laidKinds := [.data, .pinned], laidTests := true, laidLooks := .later }
def HornIdleUptoCardSaid : Prop := Claim7.holds Tryd.pinned (.plain (OpenSpec.upto hornIdleSpec)) hornIdleUptoCard
end Rows
end Go.Proofs.YtdalobojhfafbaaDoor
