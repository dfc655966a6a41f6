/-
  DERIVED. GIVEN WITH THE SEED: THE CARDS: each row of YtaigilchnadmpaaDoorRows.lean that lists a variable, with what it lists TIED to the program's text (the seventh form; the later family's looks); each row that meets fmt, with fmt's text TOLD by the authors' own Lean function (tested against real Go, not proved from fmt's source: count such statements apart). THE CARD IS WHAT COUNTS. Prove the row's statement (the work); the ties are given (YtaigilchnadmpaaDoorTie.lean); close each card by the builder's one call (the guide's Derived/Test/ToyasCard.lean, 'card_holds'). Laid BY PROGRAM, IN A SANDBOX (cutbox-door.mjs). By AI agents, Wed Nov 11 2026. No macro, syntax, notation, axiom, sorry.
-/
import Derived.Test.YtaigilchnadmpaaDoorRows
import GoSem.ClaimSeven
namespace Go.Proofs.YtaigilchnadmpaaDoor
namespace Rows

/-- THE TIED CARD OF 'ashlarlaw05.SubstNone'. -/
def substNoneCard : Claim7 := { stood := { row := substNoneRow, standIns := [], harness := (true, "6a797e00d106edd1fb9107cbcfdc4315951a1812b49fcf6f15a27c229f542325"), looks := false }, kinds := [], alts := [], laidByText := true, laidKinds := [.data, .data, .data, .data, .pinned], laidTests := true, laidLooks := .later }
def SubstNoneCardSaid : Prop := Claim7.holds Tryd.pinned (.plain (OpenSpec.ofChange substNoneSpec)) substNoneCard

/-- THE TIED CARD OF 'ashlarlaw05.SubstTwice'. -/
def substTwiceCard : Claim7 := { stood := { row := substTwiceRow, standIns := [], harness := (true, "6a797e00d106edd1fb9107cbcfdc4315951a1812b49fcf6f15a27c229f542325"), looks := false }, kinds := [], alts := [], laidByText := true, laidKinds := [.data, .data, .data, .data, .pinned], laidTests := true, laidLooks := .later }
def SubstTwiceCardSaid : Prop := Claim7.holds Tryd.pinned (.plain (OpenSpec.ofChange substTwiceSpec)) substTwiceCard

/-- THE TIED CARD OF 'ashlarlaw05.SubstFresh'. -/
def substFreshCard : Claim7 := { stood := { row := substFreshRow, standIns := [], harness := (true, "6a797e00d106edd1fb9107cbcfdc4315951a1812b49fcf6f15a27c229f542325"), looks := false }, kinds := [], alts := [], laidByText := true, laidKinds := [.data, .data, .data, .data, .pinned], laidTests := true, laidLooks := .later }
def SubstFreshCardSaid : Prop := Claim7.holds Tryd.pinned (.plain (OpenSpec.ofChange substFreshSpec)) substFreshCard

/-- THE SECOND FORM's CARD OF 'ashlarlaw05.SubstNone'. -/
def substNoneUptoCard : Claim7 := { stood := { row := substNoneUptoRow, standIns := [], harness := (true, "6a797e00d106edd1fb9107cbcfdc4315951a1812b49fcf6f15a27c229f542325"), looks := false }, kinds := [], alts := [], laidByText := true, laidKinds := [.data, .data, .data, .data, .pinned], laidTests := true, laidLooks := .later }
def SubstNoneUptoCardSaid : Prop := Claim7.holds Tryd.pinned (.plain (OpenSpec.upto substNoneSpec)) substNoneUptoCard

/-- THE SECOND FORM's CARD OF 'ashlarlaw05.SubstTwice'. -/
def substTwiceUptoCard : Claim7 := { stood := { row := substTwiceUptoRow, standIns := [], harness := (true, "6a797e00d106edd1fb9107cbcfdc4315951a1812b49fcf6f15a27c229f542325"), looks := false }, kinds := [], alts := [], laidByText := true, laidKinds := [.data, .data, .data, .data, .pinned], laidTests := true, laidLooks := .later }
def SubstTwiceUptoCardSaid : Prop := Claim7.holds Tryd.pinned (.plain (OpenSpec.upto substTwiceSpec)) substTwiceUptoCard

/-- THE SECOND FORM's CARD OF 'ashlarlaw05.SubstFresh'. -/
def substFreshUptoCard : Claim7 := { stood := { row := substFreshUptoRow, standIns := [], harness := (true, "6a797e00d106edd1fb9107cbcfdc4315951a1812b49fcf6f15a27c229f542325"), looks := false }, kinds := [], alts := [], laidByText := true, laidKinds := [.data, .data, .data, .data, .pinned], laidTests := true, laidLooks := .later }
def SubstFreshUptoCardSaid : Prop := Claim7.holds Tryd.pinned (.plain (OpenSpec.upto substFreshSpec)) substFreshUptoCard
end Rows
end Go.Proofs.YtaigilchnadmpaaDoor
