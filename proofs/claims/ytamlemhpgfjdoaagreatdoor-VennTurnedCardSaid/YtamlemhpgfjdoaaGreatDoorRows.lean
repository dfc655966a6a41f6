/-
  NARROWER THAN 'FOR EVERY INPUT', by the rows' own cells (each row's printed sentence says how): VennTells: loops, laid · VennBase: loops, laid · VennTurned: loops, laid · VennAdds: loops, laid · VennRegions: loops, laid · VennHolds: loops, laid · HornFirst: loops, laid · HornSteps: loops, laid · SimRuns: loops, laid · SimRight: loops, laid · SimRefused: loops, laid · SimAgain: loops, laid · SimFirst: loops, laid · SimOrder: loops, laid · SimDoubles: loops, laid.
  DERIVED. THE GIVEN ROWS OF THIS SEAT. 15 by the template 'for every input the law returns true; each argument reads behind the call as it read before'; 0 by the template 'total and deterministic' (their statements: YtamlemhpgfjdoaaGreatDoorTotals.lean).
  GIVEN WITH THE SEED: the statements are not yours to turn. If you find one false, say at which input.
  Laid BY PROGRAM, IN A SANDBOX (cutbox-rows.mjs): the forced cells as the released guide's own fill.sh prints them over the translation 047a917ed1c50855… (all of the seat's roots in one cut). By AI agents, Wed Nov 11 2026. No macro, syntax, notation, axiom, sorry.
-/
import Derived.Test.YtamlemhpgfjdoaaGreatDoorChecked
import GoSem.PinnedTables
import GoSem.Claim
import GoSem.ClaimJoined
import GoSem.ClaimMapViews
import Derived.JoinedTies
import Derived.KernelRfl
namespace Go.Proofs.YtamlemhpgfjdoaaGreatDoor
/- THE CELL 'sum', in the pinned program and in every row, IS THE sha256 OF THE DUMP (.gsa) THAT YtamlemhpgfjdoaaGreatDoorProg.lean LOADS. Nothing in Lean hashes anything: it is a label: what it is worth is what the hold of that sum in a sandbox is worth. -/
noncomputable def Tryz.pinned : Pinned := { name := "ytamlemhpgfjdoaagreatdoor", sum := "047a917ed1c508557dff7460393f995a7a15b12d399c00076cf587a357103273", checked := Tryz.checked }
namespace Rows
def none {H : Type} : Left H := { results := [], args := [] }

/- WHAT THE LISTED PACKAGE-LEVEL VARIABLES READ AS WHEN THE CALL BEGINS. Each datum BY PROGRAM (the guide's laid-datum.mjs) off the statement by which the dump's own 'gosem.cut.vars' lays the variable. In a bare row this is a premise. The card (YtamlemhpgfjdoaaGreatDoorCards.lean) ties it to the program's text. -/
def laid_unicode_utf8_acceptRanges {H : Type} : DataW H := .agg [.agg [.lit (.int .u8 128), .lit (.int .u8 191)], .agg [.lit (.int .u8 160), .lit (.int .u8 191)], .agg [.lit (.int .u8 128), .lit (.int .u8 159)], .agg [.lit (.int .u8 144), .lit (.int .u8 191)], .agg [.lit (.int .u8 128), .lit (.int .u8 143)], .agg [.lit (.int .u8 0), .lit (.int .u8 0)], .agg [.lit (.int .u8 0), .lit (.int .u8 0)], .agg [.lit (.int .u8 0), .lit (.int .u8 0)], .agg [.lit (.int .u8 0), .lit (.int .u8 0)], .agg [.lit (.int .u8 0), .lit (.int .u8 0)], .agg [.lit (.int .u8 0), .lit (.int .u8 0)], .agg [.lit (.int .u8 0), .lit (.int .u8 0)], .agg [.lit (.int .u8 0), .lit (.int .u8 0)], .agg [.lit (.int .u8 0), .lit (.int .u8 0)], .agg [.lit (.int .u8 0), .lit (.int .u8 0)], .agg [.lit (.int .u8 0), .lit (.int .u8 0)]]
/-- One of Go's own tables, pinned by name: the form's constant. -/
def laid_unicode_utf8_first : DataW Unit := Go.Pinned.utf8First

/-- 'ashlarlaw13.VennTells': WHATEVER THE INPUT: true; the input reads as it did. -/
def vennTellsSpec : ChangeSpec := { name := "vennTells", fn := fun _ => fun
  | [d1, d2, d3, d4, d5] => { results := [.lit (.bool true)], args := [d1, d2, d3, d4, d5] }
  | _ => none }
def vennTellsRow : OpenClaim := { program := "ytamlemhpgfjdoaagreatdoor", sum := "047a917ed1c508557dff7460393f995a7a15b12d399c00076cf587a357103273", func := "ashlar/ashlarlaw13.VennTells", spec := "vennTells", inPlace := ["internal/bytealg.IndexByteString", "internal/bytealg.IndexString", "math/bits.Add64", "math/bits.Sub64"], unfollowed := true, recurses := true, named := ["unicode/utf8.first", "unicode/utf8.acceptRanges", "internal/bytealg.MaxLen"], loops := true, plainKeys := false, apart := false, laid := [("unicode/utf8.acceptRanges", laid_unicode_utf8_acceptRanges), ("unicode/utf8.first", laid_unicode_utf8_first)] }
def VennTellsSaid : Prop := vennTellsRow.holds Tryz.pinned (OpenSpec.ofChange vennTellsSpec)

/-- ITS FALSE NEIGHBOUR: 'it returns false'. Refute it at one input. -/
def vennTellsWrong : ChangeSpec := { name := "vennTells", fn := fun _ => fun
  | [d1, d2, d3, d4, d5] => { results := [.lit (.bool false)], args := [d1, d2, d3, d4, d5] }
  | _ => none }
def VennTellsWrongFalsely : Prop := vennTellsRow.holds Tryz.pinned (OpenSpec.ofChange vennTellsWrong)

/-- 'ashlarlaw13.VennBase': WHATEVER THE INPUT: true; the input reads as it did. -/
def vennBaseSpec : ChangeSpec := { name := "vennBase", fn := fun _ => fun
  | [d1, d2] => { results := [.lit (.bool true)], args := [d1, d2] }
  | _ => none }
def vennBaseRow : OpenClaim := { program := "ytamlemhpgfjdoaagreatdoor", sum := "047a917ed1c508557dff7460393f995a7a15b12d399c00076cf587a357103273", func := "ashlar/ashlarlaw13.VennBase", spec := "vennBase", inPlace := ["internal/bytealg.IndexByteString", "internal/bytealg.IndexString", "math/bits.Add64", "math/bits.Sub64"], unfollowed := true, recurses := true, named := ["unicode/utf8.first", "unicode/utf8.acceptRanges", "internal/bytealg.MaxLen"], loops := true, plainKeys := false, apart := false, laid := [("unicode/utf8.acceptRanges", laid_unicode_utf8_acceptRanges), ("unicode/utf8.first", laid_unicode_utf8_first)] }
def VennBaseSaid : Prop := vennBaseRow.holds Tryz.pinned (OpenSpec.ofChange vennBaseSpec)

/-- ITS FALSE NEIGHBOUR: 'it returns false'. Refute it at one input. -/
def vennBaseWrong : ChangeSpec := { name := "vennBase", fn := fun _ => fun
  | [d1, d2] => { results := [.lit (.bool false)], args := [d1, d2] }
  | _ => none }
def VennBaseWrongFalsely : Prop := vennBaseRow.holds Tryz.pinned (OpenSpec.ofChange vennBaseWrong)

/-- 'ashlarlaw13.VennTurned': WHATEVER THE INPUT: true; the input reads as it did. -/
def vennTurnedSpec : ChangeSpec := { name := "vennTurned", fn := fun _ => fun
  | [d] => { results := [.lit (.bool true)], args := [d] }
  | _ => none }
def vennTurnedRow : OpenClaim := { program := "ytamlemhpgfjdoaagreatdoor", sum := "047a917ed1c508557dff7460393f995a7a15b12d399c00076cf587a357103273", func := "ashlar/ashlarlaw13.VennTurned", spec := "vennTurned", inPlace := ["internal/bytealg.IndexByteString", "internal/bytealg.IndexString", "math/bits.Add64", "math/bits.Sub64"], unfollowed := true, recurses := true, named := ["unicode/utf8.first", "unicode/utf8.acceptRanges", "internal/bytealg.MaxLen"], loops := true, plainKeys := false, apart := false, laid := [("unicode/utf8.acceptRanges", laid_unicode_utf8_acceptRanges), ("unicode/utf8.first", laid_unicode_utf8_first)] }
def VennTurnedSaid : Prop := vennTurnedRow.holds Tryz.pinned (OpenSpec.ofChange vennTurnedSpec)

/-- ITS FALSE NEIGHBOUR: 'it returns false'. Refute it at one input. -/
def vennTurnedWrong : ChangeSpec := { name := "vennTurned", fn := fun _ => fun
  | [d] => { results := [.lit (.bool false)], args := [d] }
  | _ => none }
def VennTurnedWrongFalsely : Prop := vennTurnedRow.holds Tryz.pinned (OpenSpec.ofChange vennTurnedWrong)

/-- 'ashlarlaw13.VennAdds': WHATEVER THE INPUT: true; the input reads as it did. -/
def vennAddsSpec : ChangeSpec := { name := "vennAdds", fn := fun _ => fun
  | [d1, d2] => { results := [.lit (.bool true)], args := [d1, d2] }
  | _ => none }
def vennAddsRow : OpenClaim := { program := "ytamlemhpgfjdoaagreatdoor", sum := "047a917ed1c508557dff7460393f995a7a15b12d399c00076cf587a357103273", func := "ashlar/ashlarlaw13.VennAdds", spec := "vennAdds", inPlace := ["internal/bytealg.IndexByteString", "internal/bytealg.IndexString", "math/bits.Add64", "math/bits.Sub64"], unfollowed := true, recurses := true, named := ["unicode/utf8.first", "unicode/utf8.acceptRanges", "internal/bytealg.MaxLen"], loops := true, plainKeys := false, apart := false, laid := [("unicode/utf8.acceptRanges", laid_unicode_utf8_acceptRanges), ("unicode/utf8.first", laid_unicode_utf8_first)] }
def VennAddsSaid : Prop := vennAddsRow.holds Tryz.pinned (OpenSpec.ofChange vennAddsSpec)

/-- ITS FALSE NEIGHBOUR: 'it returns false'. Refute it at one input. -/
def vennAddsWrong : ChangeSpec := { name := "vennAdds", fn := fun _ => fun
  | [d1, d2] => { results := [.lit (.bool false)], args := [d1, d2] }
  | _ => none }
def VennAddsWrongFalsely : Prop := vennAddsRow.holds Tryz.pinned (OpenSpec.ofChange vennAddsWrong)

/-- 'ashlarlaw13.VennRegions': WHATEVER THE INPUT: true; the input reads as it did. -/
def vennRegionsSpec : ChangeSpec := { name := "vennRegions", fn := fun _ => fun
  | [d1, d2] => { results := [.lit (.bool true)], args := [d1, d2] }
  | _ => none }
def vennRegionsRow : OpenClaim := { program := "ytamlemhpgfjdoaagreatdoor", sum := "047a917ed1c508557dff7460393f995a7a15b12d399c00076cf587a357103273", func := "ashlar/ashlarlaw13.VennRegions", spec := "vennRegions", inPlace := ["internal/bytealg.IndexByteString", "internal/bytealg.IndexString", "math/bits.Add64", "math/bits.Sub64"], unfollowed := true, recurses := true, named := ["unicode/utf8.first", "unicode/utf8.acceptRanges", "internal/bytealg.MaxLen"], loops := true, plainKeys := false, apart := false, laid := [("unicode/utf8.acceptRanges", laid_unicode_utf8_acceptRanges), ("unicode/utf8.first", laid_unicode_utf8_first)] }
def VennRegionsSaid : Prop := vennRegionsRow.holds Tryz.pinned (OpenSpec.ofChange vennRegionsSpec)

/-- ITS FALSE NEIGHBOUR: 'it returns false'. Refute it at one input. -/
def vennRegionsWrong : ChangeSpec := { name := "vennRegions", fn := fun _ => fun
  | [d1, d2] => { results := [.lit (.bool false)], args := [d1, d2] }
  | _ => none }
def VennRegionsWrongFalsely : Prop := vennRegionsRow.holds Tryz.pinned (OpenSpec.ofChange vennRegionsWrong)

/-- 'ashlarlaw13.VennHolds': WHATEVER THE INPUT: true; the input reads as it did. -/
def vennHoldsSpec : ChangeSpec := { name := "vennHolds", fn := fun _ => fun
  | [d1, d2, d3] => { results := [.lit (.bool true)], args := [d1, d2, d3] }
  | _ => none }
def vennHoldsRow : OpenClaim := { program := "ytamlemhpgfjdoaagreatdoor", sum := "047a917ed1c508557dff7460393f995a7a15b12d399c00076cf587a357103273", func := "ashlar/ashlarlaw13.VennHolds", spec := "vennHolds", inPlace := ["internal/bytealg.IndexByteString", "internal/bytealg.IndexString", "math/bits.Add64", "math/bits.Sub64"], unfollowed := true, recurses := true, named := ["unicode/utf8.first", "unicode/utf8.acceptRanges", "internal/bytealg.MaxLen"], loops := true, plainKeys := false, apart := false, laid := [("unicode/utf8.acceptRanges", laid_unicode_utf8_acceptRanges), ("unicode/utf8.first", laid_unicode_utf8_first)] }
def VennHoldsSaid : Prop := vennHoldsRow.holds Tryz.pinned (OpenSpec.ofChange vennHoldsSpec)

/-- ITS FALSE NEIGHBOUR: 'it returns false'. Refute it at one input. -/
def vennHoldsWrong : ChangeSpec := { name := "vennHolds", fn := fun _ => fun
  | [d1, d2, d3] => { results := [.lit (.bool false)], args := [d1, d2, d3] }
  | _ => none }
def VennHoldsWrongFalsely : Prop := vennHoldsRow.holds Tryz.pinned (OpenSpec.ofChange vennHoldsWrong)

/-- 'ashlarlaw19.HornFirst': WHATEVER THE INPUT: true; the input reads as it did. -/
def hornFirstSpec : ChangeSpec := { name := "hornFirst", fn := fun _ => fun
  | [d1, d2, d3] => { results := [.lit (.bool true)], args := [d1, d2, d3] }
  | _ => none }
def hornFirstRow : OpenClaim := { program := "ytamlemhpgfjdoaagreatdoor", sum := "047a917ed1c508557dff7460393f995a7a15b12d399c00076cf587a357103273", func := "ashlar/ashlarlaw19.HornFirst", spec := "hornFirst", inPlace := ["internal/bytealg.IndexByteString", "internal/bytealg.IndexString", "math/bits.Add64", "math/bits.Sub64"], unfollowed := true, recurses := true, named := ["unicode/utf8.first", "unicode/utf8.acceptRanges", "internal/bytealg.MaxLen"], loops := true, plainKeys := false, apart := false, laid := [("unicode/utf8.acceptRanges", laid_unicode_utf8_acceptRanges), ("unicode/utf8.first", laid_unicode_utf8_first)] }
def HornFirstSaid : Prop := hornFirstRow.holds Tryz.pinned (OpenSpec.ofChange hornFirstSpec)

/-- ITS FALSE NEIGHBOUR: 'it returns false'. Refute it at one input. -/
def hornFirstWrong : ChangeSpec := { name := "hornFirst", fn := fun _ => fun
  | [d1, d2, d3] => { results := [.lit (.bool false)], args := [d1, d2, d3] }
  | _ => none }
def HornFirstWrongFalsely : Prop := hornFirstRow.holds Tryz.pinned (OpenSpec.ofChange hornFirstWrong)

/-- 'ashlarlaw19.HornSteps': WHATEVER THE INPUT: true; the input reads as it did. -/
def hornStepsSpec : ChangeSpec := { name := "hornSteps", fn := fun _ => fun
  | [d1, d2, d3, d4] => { results := [.lit (.bool true)], args := [d1, d2, d3, d4] }
  | _ => none }
def hornStepsRow : OpenClaim := { program := "ytamlemhpgfjdoaagreatdoor", sum := "047a917ed1c508557dff7460393f995a7a15b12d399c00076cf587a357103273", func := "ashlar/ashlarlaw19.HornSteps", spec := "hornSteps", inPlace := ["internal/bytealg.IndexByteString", "internal/bytealg.IndexString", "math/bits.Add64", "math/bits.Sub64"], unfollowed := true, recurses := true, named := ["unicode/utf8.first", "unicode/utf8.acceptRanges", "internal/bytealg.MaxLen"], loops := true, plainKeys := false, apart := false, laid := [("unicode/utf8.acceptRanges", laid_unicode_utf8_acceptRanges), ("unicode/utf8.first", laid_unicode_utf8_first)] }
def HornStepsSaid : Prop := hornStepsRow.holds Tryz.pinned (OpenSpec.ofChange hornStepsSpec)

/-- ITS FALSE NEIGHBOUR: 'it returns false'. Refute it at one input. -/
def hornStepsWrong : ChangeSpec := { name := "hornSteps", fn := fun _ => fun
  | [d1, d2, d3, d4] => { results := [.lit (.bool false)], args := [d1, d2, d3, d4] }
  | _ => none }
def HornStepsWrongFalsely : Prop := hornStepsRow.holds Tryz.pinned (OpenSpec.ofChange hornStepsWrong)

/-- 'ashlarlaw18.SimRuns': WHATEVER THE INPUT: true; the input reads as it did. -/
def simRunsSpec : ChangeSpec := { name := "simRuns", fn := fun _ => fun
  | [d1, d2, d3] => { results := [.lit (.bool true)], args := [d1, d2, d3] }
  | _ => none }
def simRunsRow : OpenClaim := { program := "ytamlemhpgfjdoaagreatdoor", sum := "047a917ed1c508557dff7460393f995a7a15b12d399c00076cf587a357103273", func := "ashlar/ashlarlaw18.SimRuns", spec := "simRuns", inPlace := ["internal/bytealg.IndexByteString", "internal/bytealg.IndexString", "math/bits.Add64", "math/bits.Sub64"], unfollowed := true, recurses := true, named := ["unicode/utf8.first", "unicode/utf8.acceptRanges", "internal/bytealg.MaxLen"], loops := true, plainKeys := false, apart := false, laid := [("unicode/utf8.acceptRanges", laid_unicode_utf8_acceptRanges), ("unicode/utf8.first", laid_unicode_utf8_first)] }
def SimRunsSaid : Prop := simRunsRow.holds Tryz.pinned (OpenSpec.ofChange simRunsSpec)

/-- ITS FALSE NEIGHBOUR: 'it returns false'. Refute it at one input. -/
def simRunsWrong : ChangeSpec := { name := "simRuns", fn := fun _ => fun
  | [d1, d2, d3] => { results := [.lit (.bool false)], args := [d1, d2, d3] }
  | _ => none }
def SimRunsWrongFalsely : Prop := simRunsRow.holds Tryz.pinned (OpenSpec.ofChange simRunsWrong)

/-- 'ashlarlaw18.SimRight': WHATEVER THE INPUT: true; the input reads as it did. -/
def simRightSpec : ChangeSpec := { name := "simRight", fn := fun _ => fun
  | [d1, d2, d3] => { results := [.lit (.bool true)], args := [d1, d2, d3] }
  | _ => none }
def simRightRow : OpenClaim := { program := "ytamlemhpgfjdoaagreatdoor", sum := "047a917ed1c508557dff7460393f995a7a15b12d399c00076cf587a357103273", func := "ashlar/ashlarlaw18.SimRight", spec := "simRight", inPlace := ["internal/bytealg.IndexByteString", "internal/bytealg.IndexString", "math/bits.Add64", "math/bits.Sub64"], unfollowed := true, recurses := true, named := ["unicode/utf8.first", "unicode/utf8.acceptRanges", "internal/bytealg.MaxLen"], loops := true, plainKeys := false, apart := false, laid := [("unicode/utf8.acceptRanges", laid_unicode_utf8_acceptRanges), ("unicode/utf8.first", laid_unicode_utf8_first)] }
def SimRightSaid : Prop := simRightRow.holds Tryz.pinned (OpenSpec.ofChange simRightSpec)

/-- ITS FALSE NEIGHBOUR: 'it returns false'. Refute it at one input. -/
def simRightWrong : ChangeSpec := { name := "simRight", fn := fun _ => fun
  | [d1, d2, d3] => { results := [.lit (.bool false)], args := [d1, d2, d3] }
  | _ => none }
def SimRightWrongFalsely : Prop := simRightRow.holds Tryz.pinned (OpenSpec.ofChange simRightWrong)

/-- 'ashlarlaw18.SimRefused': WHATEVER THE INPUT: true; the input reads as it did. -/
def simRefusedSpec : ChangeSpec := { name := "simRefused", fn := fun _ => fun
  | [d1, d2, d3] => { results := [.lit (.bool true)], args := [d1, d2, d3] }
  | _ => none }
def simRefusedRow : OpenClaim := { program := "ytamlemhpgfjdoaagreatdoor", sum := "047a917ed1c508557dff7460393f995a7a15b12d399c00076cf587a357103273", func := "ashlar/ashlarlaw18.SimRefused", spec := "simRefused", inPlace := ["internal/bytealg.IndexByteString", "internal/bytealg.IndexString", "math/bits.Add64", "math/bits.Sub64"], unfollowed := true, recurses := true, named := ["unicode/utf8.first", "unicode/utf8.acceptRanges", "internal/bytealg.MaxLen"], loops := true, plainKeys := false, apart := false, laid := [("unicode/utf8.acceptRanges", laid_unicode_utf8_acceptRanges), ("unicode/utf8.first", laid_unicode_utf8_first)] }
def SimRefusedSaid : Prop := simRefusedRow.holds Tryz.pinned (OpenSpec.ofChange simRefusedSpec)

/-- ITS FALSE NEIGHBOUR: 'it returns false'. Refute it at one input. -/
def simRefusedWrong : ChangeSpec := { name := "simRefused", fn := fun _ => fun
  | [d1, d2, d3] => { results := [.lit (.bool false)], args := [d1, d2, d3] }
  | _ => none }
def SimRefusedWrongFalsely : Prop := simRefusedRow.holds Tryz.pinned (OpenSpec.ofChange simRefusedWrong)

/-- 'ashlarlaw18.SimAgain': WHATEVER THE INPUT: true; the input reads as it did. -/
def simAgainSpec : ChangeSpec := { name := "simAgain", fn := fun _ => fun
  | [d1, d2, d3] => { results := [.lit (.bool true)], args := [d1, d2, d3] }
  | _ => none }
def simAgainRow : OpenClaim := { program := "ytamlemhpgfjdoaagreatdoor", sum := "047a917ed1c508557dff7460393f995a7a15b12d399c00076cf587a357103273", func := "ashlar/ashlarlaw18.SimAgain", spec := "simAgain", inPlace := ["internal/bytealg.IndexByteString", "internal/bytealg.IndexString", "math/bits.Add64", "math/bits.Sub64"], unfollowed := true, recurses := true, named := ["unicode/utf8.first", "unicode/utf8.acceptRanges", "internal/bytealg.MaxLen"], loops := true, plainKeys := false, apart := false, laid := [("unicode/utf8.acceptRanges", laid_unicode_utf8_acceptRanges), ("unicode/utf8.first", laid_unicode_utf8_first)] }
def SimAgainSaid : Prop := simAgainRow.holds Tryz.pinned (OpenSpec.ofChange simAgainSpec)

/-- ITS FALSE NEIGHBOUR: 'it returns false'. Refute it at one input. -/
def simAgainWrong : ChangeSpec := { name := "simAgain", fn := fun _ => fun
  | [d1, d2, d3] => { results := [.lit (.bool false)], args := [d1, d2, d3] }
  | _ => none }
def SimAgainWrongFalsely : Prop := simAgainRow.holds Tryz.pinned (OpenSpec.ofChange simAgainWrong)

/-- 'ashlarlaw18.SimFirst': WHATEVER THE INPUT: true; the input reads as it did. -/
def simFirstSpec : ChangeSpec := { name := "simFirst", fn := fun _ => fun
  | [d1, d2] => { results := [.lit (.bool true)], args := [d1, d2] }
  | _ => none }
def simFirstRow : OpenClaim := { program := "ytamlemhpgfjdoaagreatdoor", sum := "047a917ed1c508557dff7460393f995a7a15b12d399c00076cf587a357103273", func := "ashlar/ashlarlaw18.SimFirst", spec := "simFirst", inPlace := ["internal/bytealg.IndexByteString", "internal/bytealg.IndexString", "math/bits.Add64", "math/bits.Sub64"], unfollowed := true, recurses := true, named := ["unicode/utf8.first", "unicode/utf8.acceptRanges", "internal/bytealg.MaxLen"], loops := true, plainKeys := false, apart := false, laid := [("unicode/utf8.acceptRanges", laid_unicode_utf8_acceptRanges), ("unicode/utf8.first", laid_unicode_utf8_first)] }
def SimFirstSaid : Prop := simFirstRow.holds Tryz.pinned (OpenSpec.ofChange simFirstSpec)

/-- ITS FALSE NEIGHBOUR: 'it returns false'. Refute it at one input. -/
def simFirstWrong : ChangeSpec := { name := "simFirst", fn := fun _ => fun
  | [d1, d2] => { results := [.lit (.bool false)], args := [d1, d2] }
  | _ => none }
def SimFirstWrongFalsely : Prop := simFirstRow.holds Tryz.pinned (OpenSpec.ofChange simFirstWrong)

/-- 'ashlarlaw18.SimOrder': WHATEVER THE INPUT: true; the input reads as it did. -/
def simOrderSpec : ChangeSpec := { name := "simOrder", fn := fun _ => fun
  | [d1, d2, d3, d4] => { results := [.lit (.bool true)], args := [d1, d2, d3, d4] }
  | _ => none }
def simOrderRow : OpenClaim := { program := "ytamlemhpgfjdoaagreatdoor", sum := "047a917ed1c508557dff7460393f995a7a15b12d399c00076cf587a357103273", func := "ashlar/ashlarlaw18.SimOrder", spec := "simOrder", inPlace := ["internal/bytealg.IndexByteString", "internal/bytealg.IndexString", "math/bits.Add64", "math/bits.Sub64"], unfollowed := true, recurses := true, named := ["unicode/utf8.first", "unicode/utf8.acceptRanges", "internal/bytealg.MaxLen"], loops := true, plainKeys := false, apart := false, laid := [("unicode/utf8.acceptRanges", laid_unicode_utf8_acceptRanges), ("unicode/utf8.first", laid_unicode_utf8_first)] }
def SimOrderSaid : Prop := simOrderRow.holds Tryz.pinned (OpenSpec.ofChange simOrderSpec)

/-- ITS FALSE NEIGHBOUR: 'it returns false'. Refute it at one input. -/
def simOrderWrong : ChangeSpec := { name := "simOrder", fn := fun _ => fun
  | [d1, d2, d3, d4] => { results := [.lit (.bool false)], args := [d1, d2, d3, d4] }
  | _ => none }
def SimOrderWrongFalsely : Prop := simOrderRow.holds Tryz.pinned (OpenSpec.ofChange simOrderWrong)

/-- 'ashlarlaw18.SimDoubles': WHATEVER THE INPUT: true; the input reads as it did. -/
def simDoublesSpec : ChangeSpec := { name := "simDoubles", fn := fun _ => fun
  | [d1, d2, d3, d4] => { results := [.lit (.bool true)], args := [d1, d2, d3, d4] }
  | _ => none }
def simDoublesRow : OpenClaim := { program := "ytamlemhpgfjdoaagreatdoor", sum := "047a917ed1c508557dff7460393f995a7a15b12d399c00076cf587a357103273", func := "ashlar/ashlarlaw18.SimDoubles", spec := "simDoubles", inPlace := ["internal/bytealg.IndexByteString", "internal/bytealg.IndexString", "math/bits.Add64", "math/bits.Sub64"], unfollowed := true, recurses := true, named := ["unicode/utf8.first", "unicode/utf8.acceptRanges", "internal/bytealg.MaxLen"], loops := true, plainKeys := false, apart := false, laid := [("unicode/utf8.acceptRanges", laid_unicode_utf8_acceptRanges), ("unicode/utf8.first", laid_unicode_utf8_first)] }
def SimDoublesSaid : Prop := simDoublesRow.holds Tryz.pinned (OpenSpec.ofChange simDoublesSpec)

/-- ITS FALSE NEIGHBOUR: 'it returns false'. Refute it at one input. -/
def simDoublesWrong : ChangeSpec := { name := "simDoubles", fn := fun _ => fun
  | [d1, d2, d3, d4] => { results := [.lit (.bool false)], args := [d1, d2, d3, d4] }
  | _ => none }
def SimDoublesWrongFalsely : Prop := simDoublesRow.holds Tryz.pinned (OpenSpec.ofChange simDoublesWrong)

/- THE SECOND FORM. 'bulk': how many values and letters a reading holds, each counted each time it is reached (what is shared counts as often as it is met; a slice's spare places count too). A statement '..UptoSaid' is the law's where the arguments, and the package variables that the reading takes, are together of bulk at most 1048576: NARROWER than '..Said'. Prove '..Said' where nothing that the law and all that it calls make is longer than what came in: it says more and counts as full. Else prove '..UptoSaid'. A law counts once. -/
mutual
def uptoBulk {H : Type} : DataW H → Nat
  | .lit (.string bytes) => bytes.length + 1
  | .lit _ => 1
  | .nil => 1
  | .ptr d => uptoBulk d + 1
  | .slice elems spare => uptoBulkAll elems + uptoBulkAll spare + 1
  | .agg parts => uptoBulkAll parts + 1
  | .iface _ d => uptoBulk d + 1
  | .map entries => uptoBulkEntries entries + 1
  | .held _ => 1
def uptoBulkAll {H : Type} : List (DataW H) → Nat
  | [] => 0
  | d :: r => uptoBulk d + uptoBulkAll r
def uptoBulkEntries {H : Type} : List (Lit × DataW H) → Nat
  | [] => 0
  | x :: r => uptoBulkEntry x + uptoBulkEntries r
def uptoBulkEntry {H : Type} : Lit × DataW H → Nat
  | (.string bytes, d) => bytes.length + uptoBulk d + 1
  | (_, d) => uptoBulk d + 1
 end
def uptoSmall : (H : Type) → List (DataW H) → Bool := fun _ ds => decide (uptoBulkAll ds ≤ 1048576)
def OpenSpec.upto (s : _root_.Go.ChangeSpec) : _root_.Go.OpenSpec := { _root_.Go.OpenSpec.ofChange s with cond := some uptoSmall }

/-- 'ashlarlaw13.VennTells', WHERE WHAT IT READS IS OF BULK AT MOST 1048576: true; the input reads as it did. -/
def vennTellsUptoRow : OpenClaim := { program := "ytamlemhpgfjdoaagreatdoor", sum := "047a917ed1c508557dff7460393f995a7a15b12d399c00076cf587a357103273", func := "ashlar/ashlarlaw13.VennTells", spec := "vennTells", inPlace := ["internal/bytealg.IndexByteString", "internal/bytealg.IndexString", "math/bits.Add64", "math/bits.Sub64"], unfollowed := true, recurses := true, named := ["unicode/utf8.first", "unicode/utf8.acceptRanges", "internal/bytealg.MaxLen"], loops := true, plainKeys := false, apart := false, laid := [("unicode/utf8.acceptRanges", laid_unicode_utf8_acceptRanges), ("unicode/utf8.first", laid_unicode_utf8_first)], narrowed := true }
def VennTellsUptoSaid : Prop := vennTellsUptoRow.holds Tryz.pinned (OpenSpec.upto vennTellsSpec)

/-- 'ashlarlaw13.VennBase', WHERE WHAT IT READS IS OF BULK AT MOST 1048576: true; the input reads as it did. -/
def vennBaseUptoRow : OpenClaim := { program := "ytamlemhpgfjdoaagreatdoor", sum := "047a917ed1c508557dff7460393f995a7a15b12d399c00076cf587a357103273", func := "ashlar/ashlarlaw13.VennBase", spec := "vennBase", inPlace := ["internal/bytealg.IndexByteString", "internal/bytealg.IndexString", "math/bits.Add64", "math/bits.Sub64"], unfollowed := true, recurses := true, named := ["unicode/utf8.first", "unicode/utf8.acceptRanges", "internal/bytealg.MaxLen"], loops := true, plainKeys := false, apart := false, laid := [("unicode/utf8.acceptRanges", laid_unicode_utf8_acceptRanges), ("unicode/utf8.first", laid_unicode_utf8_first)], narrowed := true }
def VennBaseUptoSaid : Prop := vennBaseUptoRow.holds Tryz.pinned (OpenSpec.upto vennBaseSpec)

/-- 'ashlarlaw13.VennTurned', WHERE WHAT IT READS IS OF BULK AT MOST 1048576: true; the input reads as it did. -/
def vennTurnedUptoRow : OpenClaim := { program := "ytamlemhpgfjdoaagreatdoor", sum := "047a917ed1c508557dff7460393f995a7a15b12d399c00076cf587a357103273", func := "ashlar/ashlarlaw13.VennTurned", spec := "vennTurned", inPlace := ["internal/bytealg.IndexByteString", "internal/bytealg.IndexString", "math/bits.Add64", "math/bits.Sub64"], unfollowed := true, recurses := true, named := ["unicode/utf8.first", "unicode/utf8.acceptRanges", "internal/bytealg.MaxLen"], loops := true, plainKeys := false, apart := false, laid := [("unicode/utf8.acceptRanges", laid_unicode_utf8_acceptRanges), ("unicode/utf8.first", laid_unicode_utf8_first)], narrowed := true }
def VennTurnedUptoSaid : Prop := vennTurnedUptoRow.holds Tryz.pinned (OpenSpec.upto vennTurnedSpec)

/-- 'ashlarlaw13.VennAdds', WHERE WHAT IT READS IS OF BULK AT MOST 1048576: true; the input reads as it did. -/
def vennAddsUptoRow : OpenClaim := { program := "ytamlemhpgfjdoaagreatdoor", sum := "047a917ed1c508557dff7460393f995a7a15b12d399c00076cf587a357103273", func := "ashlar/ashlarlaw13.VennAdds", spec := "vennAdds", inPlace := ["internal/bytealg.IndexByteString", "internal/bytealg.IndexString", "math/bits.Add64", "math/bits.Sub64"], unfollowed := true, recurses := true, named := ["unicode/utf8.first", "unicode/utf8.acceptRanges", "internal/bytealg.MaxLen"], loops := true, plainKeys := false, apart := false, laid := [("unicode/utf8.acceptRanges", laid_unicode_utf8_acceptRanges), ("unicode/utf8.first", laid_unicode_utf8_first)], narrowed := true }
def VennAddsUptoSaid : Prop := vennAddsUptoRow.holds Tryz.pinned (OpenSpec.upto vennAddsSpec)

/-- 'ashlarlaw13.VennRegions', WHERE WHAT IT READS IS OF BULK AT MOST 1048576: true; the input reads as it did. -/
def vennRegionsUptoRow : OpenClaim := { program := "ytamlemhpgfjdoaagreatdoor", sum := "047a917ed1c508557dff7460393f995a7a15b12d399c00076cf587a357103273", func := "ashlar/ashlarlaw13.VennRegions", spec := "vennRegions", inPlace := ["internal/bytealg.IndexByteString", "internal/bytealg.IndexString", "math/bits.Add64", "math/bits.Sub64"], unfollowed := true, recurses := true, named := ["unicode/utf8.first", "unicode/utf8.acceptRanges", "internal/bytealg.MaxLen"], loops := true, plainKeys := false, apart := false, laid := [("unicode/utf8.acceptRanges", laid_unicode_utf8_acceptRanges), ("unicode/utf8.first", laid_unicode_utf8_first)], narrowed := true }
def VennRegionsUptoSaid : Prop := vennRegionsUptoRow.holds Tryz.pinned (OpenSpec.upto vennRegionsSpec)

/-- 'ashlarlaw13.VennHolds', WHERE WHAT IT READS IS OF BULK AT MOST 1048576: true; the input reads as it did. -/
def vennHoldsUptoRow : OpenClaim := { program := "ytamlemhpgfjdoaagreatdoor", sum := "047a917ed1c508557dff7460393f995a7a15b12d399c00076cf587a357103273", func := "ashlar/ashlarlaw13.VennHolds", spec := "vennHolds", inPlace := ["internal/bytealg.IndexByteString", "internal/bytealg.IndexString", "math/bits.Add64", "math/bits.Sub64"], unfollowed := true, recurses := true, named := ["unicode/utf8.first", "unicode/utf8.acceptRanges", "internal/bytealg.MaxLen"], loops := true, plainKeys := false, apart := false, laid := [("unicode/utf8.acceptRanges", laid_unicode_utf8_acceptRanges), ("unicode/utf8.first", laid_unicode_utf8_first)], narrowed := true }
def VennHoldsUptoSaid : Prop := vennHoldsUptoRow.holds Tryz.pinned (OpenSpec.upto vennHoldsSpec)

/-- 'ashlarlaw19.HornFirst', WHERE WHAT IT READS IS OF BULK AT MOST 1048576: true; the input reads as it did. -/
def hornFirstUptoRow : OpenClaim := { program := "ytamlemhpgfjdoaagreatdoor", sum := "047a917ed1c508557dff7460393f995a7a15b12d399c00076cf587a357103273", func := "ashlar/ashlarlaw19.HornFirst", spec := "hornFirst", inPlace := ["internal/bytealg.IndexByteString", "internal/bytealg.IndexString", "math/bits.Add64", "math/bits.Sub64"], unfollowed := true, recurses := true, named := ["unicode/utf8.first", "unicode/utf8.acceptRanges", "internal/bytealg.MaxLen"], loops := true, plainKeys := false, apart := false, laid := [("unicode/utf8.acceptRanges", laid_unicode_utf8_acceptRanges), ("unicode/utf8.first", laid_unicode_utf8_first)], narrowed := true }
def HornFirstUptoSaid : Prop := hornFirstUptoRow.holds Tryz.pinned (OpenSpec.upto hornFirstSpec)

/-- 'ashlarlaw19.HornSteps', WHERE WHAT IT READS IS OF BULK AT MOST 1048576: true; the input reads as it did. -/
def hornStepsUptoRow : OpenClaim := { program := "ytamlemhpgfjdoaagreatdoor", sum := "047a917ed1c508557dff7460393f995a7a15b12d399c00076cf587a357103273", func := "ashlar/ashlarlaw19.HornSteps", spec := "hornSteps", inPlace := ["internal/bytealg.IndexByteString", "internal/bytealg.IndexString", "math/bits.Add64", "math/bits.Sub64"], unfollowed := true, recurses := true, named := ["unicode/utf8.first", "unicode/utf8.acceptRanges", "internal/bytealg.MaxLen"], loops := true, plainKeys := false, apart := false, laid := [("unicode/utf8.acceptRanges", laid_unicode_utf8_acceptRanges), ("unicode/utf8.first", laid_unicode_utf8_first)], narrowed := true }
def HornStepsUptoSaid : Prop := hornStepsUptoRow.holds Tryz.pinned (OpenSpec.upto hornStepsSpec)

/-- 'ashlarlaw18.SimRuns', WHERE WHAT IT READS IS OF BULK AT MOST 1048576: true; the input reads as it did. -/
def simRunsUptoRow : OpenClaim := { program := "ytamlemhpgfjdoaagreatdoor", sum := "047a917ed1c508557dff7460393f995a7a15b12d399c00076cf587a357103273", func := "ashlar/ashlarlaw18.SimRuns", spec := "simRuns", inPlace := ["internal/bytealg.IndexByteString", "internal/bytealg.IndexString", "math/bits.Add64", "math/bits.Sub64"], unfollowed := true, recurses := true, named := ["unicode/utf8.first", "unicode/utf8.acceptRanges", "internal/bytealg.MaxLen"], loops := true, plainKeys := false, apart := false, laid := [("unicode/utf8.acceptRanges", laid_unicode_utf8_acceptRanges), ("unicode/utf8.first", laid_unicode_utf8_first)], narrowed := true }
def SimRunsUptoSaid : Prop := simRunsUptoRow.holds Tryz.pinned (OpenSpec.upto simRunsSpec)

/-- 'ashlarlaw18.SimRight', WHERE WHAT IT READS IS OF BULK AT MOST 1048576: true; the input reads as it did. -/
def simRightUptoRow : OpenClaim := { program := "ytamlemhpgfjdoaagreatdoor", sum := "047a917ed1c508557dff7460393f995a7a15b12d399c00076cf587a357103273", func := "ashlar/ashlarlaw18.SimRight", spec := "simRight", inPlace := ["internal/bytealg.IndexByteString", "internal/bytealg.IndexString", "math/bits.Add64", "math/bits.Sub64"], unfollowed := true, recurses := true, named := ["unicode/utf8.first", "unicode/utf8.acceptRanges", "internal/bytealg.MaxLen"], loops := true, plainKeys := false, apart := false, laid := [("unicode/utf8.acceptRanges", laid_unicode_utf8_acceptRanges), ("unicode/utf8.first", laid_unicode_utf8_first)], narrowed := true }
def SimRightUptoSaid : Prop := simRightUptoRow.holds Tryz.pinned (OpenSpec.upto simRightSpec)

/-- 'ashlarlaw18.SimRefused', WHERE WHAT IT READS IS OF BULK AT MOST 1048576: true; the input reads as it did. -/
def simRefusedUptoRow : OpenClaim := { program := "ytamlemhpgfjdoaagreatdoor", sum := "047a917ed1c508557dff7460393f995a7a15b12d399c00076cf587a357103273", func := "ashlar/ashlarlaw18.SimRefused", spec := "simRefused", inPlace := ["internal/bytealg.IndexByteString", "internal/bytealg.IndexString", "math/bits.Add64", "math/bits.Sub64"], unfollowed := true, recurses := true, named := ["unicode/utf8.first", "unicode/utf8.acceptRanges", "internal/bytealg.MaxLen"], loops := true, plainKeys := false, apart := false, laid := [("unicode/utf8.acceptRanges", laid_unicode_utf8_acceptRanges), ("unicode/utf8.first", laid_unicode_utf8_first)], narrowed := true }
def SimRefusedUptoSaid : Prop := simRefusedUptoRow.holds Tryz.pinned (OpenSpec.upto simRefusedSpec)

/-- 'ashlarlaw18.SimAgain', WHERE WHAT IT READS IS OF BULK AT MOST 1048576: true; the input reads as it did. -/
def simAgainUptoRow : OpenClaim := { program := "ytamlemhpgfjdoaagreatdoor", sum := "047a917ed1c508557dff7460393f995a7a15b12d399c00076cf587a357103273", func := "ashlar/ashlarlaw18.SimAgain", spec := "simAgain", inPlace := ["internal/bytealg.IndexByteString", "internal/bytealg.IndexString", "math/bits.Add64", "math/bits.Sub64"], unfollowed := true, recurses := true, named := ["unicode/utf8.first", "unicode/utf8.acceptRanges", "internal/bytealg.MaxLen"], loops := true, plainKeys := false, apart := false, laid := [("unicode/utf8.acceptRanges", laid_unicode_utf8_acceptRanges), ("unicode/utf8.first", laid_unicode_utf8_first)], narrowed := true }
def SimAgainUptoSaid : Prop := simAgainUptoRow.holds Tryz.pinned (OpenSpec.upto simAgainSpec)

/-- 'ashlarlaw18.SimFirst', WHERE WHAT IT READS IS OF BULK AT MOST 1048576: true; the input reads as it did. -/
def simFirstUptoRow : OpenClaim := { program := "ytamlemhpgfjdoaagreatdoor", sum := "047a917ed1c508557dff7460393f995a7a15b12d399c00076cf587a357103273", func := "ashlar/ashlarlaw18.SimFirst", spec := "simFirst", inPlace := ["internal/bytealg.IndexByteString", "internal/bytealg.IndexString", "math/bits.Add64", "math/bits.Sub64"], unfollowed := true, recurses := true, named := ["unicode/utf8.first", "unicode/utf8.acceptRanges", "internal/bytealg.MaxLen"], loops := true, plainKeys := false, apart := false, laid := [("unicode/utf8.acceptRanges", laid_unicode_utf8_acceptRanges), ("unicode/utf8.first", laid_unicode_utf8_first)], narrowed := true }
def SimFirstUptoSaid : Prop := simFirstUptoRow.holds Tryz.pinned (OpenSpec.upto simFirstSpec)

/-- 'ashlarlaw18.SimOrder', WHERE WHAT IT READS IS OF BULK AT MOST 1048576: true; the input reads as it did. -/
def simOrderUptoRow : OpenClaim := { program := "ytamlemhpgfjdoaagreatdoor", sum := "047a917ed1c508557dff7460393f995a7a15b12d399c00076cf587a357103273", func := "ashlar/ashlarlaw18.SimOrder", spec := "simOrder", inPlace := ["internal/bytealg.IndexByteString", "internal/bytealg.IndexString", "math/bits.Add64", "math/bits.Sub64"], unfollowed := true, recurses := true, named := ["unicode/utf8.first", "unicode/utf8.acceptRanges", "internal/bytealg.MaxLen"], loops := true, plainKeys := false, apart := false, laid := [("unicode/utf8.acceptRanges", laid_unicode_utf8_acceptRanges), ("unicode/utf8.first", laid_unicode_utf8_first)], narrowed := true }
def SimOrderUptoSaid : Prop := simOrderUptoRow.holds Tryz.pinned (OpenSpec.upto simOrderSpec)

/-- 'ashlarlaw18.SimDoubles', WHERE WHAT IT READS IS OF BULK AT MOST 1048576: true; the input reads as it did. -/
def simDoublesUptoRow : OpenClaim := { program := "ytamlemhpgfjdoaagreatdoor", sum := "047a917ed1c508557dff7460393f995a7a15b12d399c00076cf587a357103273", func := "ashlar/ashlarlaw18.SimDoubles", spec := "simDoubles", inPlace := ["internal/bytealg.IndexByteString", "internal/bytealg.IndexString", "math/bits.Add64", "math/bits.Sub64"], unfollowed := true, recurses := true, named := ["unicode/utf8.first", "unicode/utf8.acceptRanges", "internal/bytealg.MaxLen"], loops := true, plainKeys := false, apart := false, laid := [("unicode/utf8.acceptRanges", laid_unicode_utf8_acceptRanges), ("unicode/utf8.first", laid_unicode_utf8_first)], narrowed := true }
def SimDoublesUptoSaid : Prop := simDoublesUptoRow.holds Tryz.pinned (OpenSpec.upto simDoublesSpec)

end Rows
end Go.Proofs.YtamlemhpgfjdoaaGreatDoor
