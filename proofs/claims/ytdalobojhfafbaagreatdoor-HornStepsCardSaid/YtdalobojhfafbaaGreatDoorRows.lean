/-
  NARROWER THAN 'FOR EVERY INPUT', by the rows' own cells (each row's printed sentence says how): SimRuns: loops, laid · SimRight: loops, laid · SimRefused: loops, laid · SimAgain: loops, laid · SimFirst: loops, laid · SimOrder: loops, laid · SimDoubles: loops, laid · HornFirst: loops, laid · HornSteps: loops, laid.
  DERIVED. THE GIVEN ROWS OF THIS SEAT. 9 by the template 'for every input the law returns true; each argument reads behind the call as it read before'; 0 by the template 'total and deterministic' (their statements: YtdalobojhfafbaaGreatDoorTotals.lean).
  GIVEN WITH THE SEED: the statements are not yours to turn. If you find one false, say at which input.
  Laid BY PROGRAM, IN A SANDBOX (cutbox-rows.mjs): the forced cells as the released guide's own fill.sh prints them over the translation af728dfe6b44163d… (all of the seat's roots in one cut). By AI agents, Wed Nov 11 2026. No macro, syntax, notation, axiom, sorry.
-/
import Derived.Test.YtdalobojhfafbaaGreatDoorChecked
import GoSem.PinnedTables
import GoSem.Claim
import GoSem.ClaimJoined
import GoSem.ClaimMapViews
import Derived.JoinedTies
import Derived.KernelRfl
namespace Go.Proofs.YtdalobojhfafbaaGreatDoor
/- THE CELL 'sum', in the pinned program and in every row, IS THE sha256 OF THE DUMP (.gsa) THAT YtdalobojhfafbaaGreatDoorProg.lean LOADS. Nothing in Lean hashes anything: it is a label: what it is worth is what the hold of that sum in a sandbox is worth. -/
noncomputable def Tryz.pinned : Pinned := { name := "ytdalobojhfafbaagreatdoor", sum := "af728dfe6b44163d9c670b4e80491afa5addb3ef5675e2a4a95a84eb70f103e9", checked := Tryz.checked }
namespace Rows
def none {H : Type} : Left H := { results := [], args := [] }

/- WHAT THE LISTED PACKAGE-LEVEL VARIABLES READ AS WHEN THE CALL BEGINS. Each datum BY PROGRAM (the guide's laid-datum.mjs) off the statement by which the dump's own 'gosem.cut.vars' lays the variable. In a bare row this is a premise. The card (YtdalobojhfafbaaGreatDoorCards.lean) ties it to the program's text. -/
def laid_unicode_utf8_acceptRanges {H : Type} : DataW H := .agg [.agg [.lit (.int .u8 128), .lit (.int .u8 191)], .agg [.lit (.int .u8 160), .lit (.int .u8 191)], .agg [.lit (.int .u8 128), .lit (.int .u8 159)], .agg [.lit (.int .u8 144), .lit (.int .u8 191)], .agg [.lit (.int .u8 128), .lit (.int .u8 143)], .agg [.lit (.int .u8 0), .lit (.int .u8 0)], .agg [.lit (.int .u8 0), .lit (.int .u8 0)], .agg [.lit (.int .u8 0), .lit (.int .u8 0)], .agg [.lit (.int .u8 0), .lit (.int .u8 0)], .agg [.lit (.int .u8 0), .lit (.int .u8 0)], .agg [.lit (.int .u8 0), .lit (.int .u8 0)], .agg [.lit (.int .u8 0), .lit (.int .u8 0)], .agg [.lit (.int .u8 0), .lit (.int .u8 0)], .agg [.lit (.int .u8 0), .lit (.int .u8 0)], .agg [.lit (.int .u8 0), .lit (.int .u8 0)], .agg [.lit (.int .u8 0), .lit (.int .u8 0)]]
/-- One of Go's own tables, pinned by name: the form's constant. -/
def laid_unicode_utf8_first : DataW Unit := Go.Pinned.utf8First

/-- 'ashlarlaw18.SimRuns': WHATEVER THE INPUT: true; the input reads as it did. -/
def simRunsSpec : ChangeSpec := { name := "simRuns", fn := fun _ => fun
  | [d1, d2, d3] => { results := [.lit (.bool true)], args := [d1, d2, d3] }
  | _ => none }
def simRunsRow : OpenClaim := { program := "ytdalobojhfafbaagreatdoor", sum := "af728dfe6b44163d9c670b4e80491afa5addb3ef5675e2a4a95a84eb70f103e9", func := "ashlar/ashlarlaw18.SimRuns", spec := "simRuns", inPlace := ["internal/bytealg.IndexByteString", "internal/bytealg.IndexString", "math/bits.Add64", "math/bits.Sub64"], unfollowed := true, recurses := true, named := ["unicode/utf8.first", "unicode/utf8.acceptRanges", "internal/bytealg.MaxLen"], loops := true, plainKeys := false, apart := false, laid := [("unicode/utf8.acceptRanges", laid_unicode_utf8_acceptRanges), ("unicode/utf8.first", laid_unicode_utf8_first)] }
def SimRunsSaid : Prop := simRunsRow.holds Tryz.pinned (OpenSpec.ofChange simRunsSpec)

/-- ITS FALSE NEIGHBOUR: 'it returns false'. Refute it at one input. -/
def simRunsWrong : ChangeSpec := { name := "simRuns", fn := fun _ => fun
  | [d1, d2, d3] => { results := [.lit (.bool false)], args := [d1, d2, d3] }
  | _ => none }
def SimRunsWrongFalsely : Prop := simRunsRow.holds Tryz.pinned (OpenSpec.ofChange simRunsWrong)

/-- 'ashlarlaw18.SimRight': WHATEVER THE INPUT: true; the input reads as it did. -/
def simRightSpec : ChangeSpec := { name := "simRight", fn := fun _ => fun
  | [d1, d2, d3] => { results := [.lit (.bool true)], args := [d1, d2, d3] }
  | _ => none }
def simRightRow : OpenClaim := { program := "ytdalobojhfafbaagreatdoor", sum := "af728dfe6b44163d9c670b4e80491afa5addb3ef5675e2a4a95a84eb70f103e9", func := "ashlar/ashlarlaw18.SimRight", spec := "simRight", inPlace := ["internal/bytealg.IndexByteString", "internal/bytealg.IndexString", "math/bits.Add64", "math/bits.Sub64"], unfollowed := true, recurses := true, named := ["unicode/utf8.first", "unicode/utf8.acceptRanges", "internal/bytealg.MaxLen"], loops := true, plainKeys := false, apart := false, laid := [("unicode/utf8.acceptRanges", laid_unicode_utf8_acceptRanges), ("unicode/utf8.first", laid_unicode_utf8_first)] }
def SimRightSaid : Prop := simRightRow.holds Tryz.pinned (OpenSpec.ofChange simRightSpec)

/-- ITS FALSE NEIGHBOUR: 'it returns false'. Refute it at one input. -/
def simRightWrong : ChangeSpec := { name := "simRight", fn := fun _ => fun
  | [d1, d2, d3] => { results := [.lit (.bool false)], args := [d1, d2, d3] }
  | _ => none }
def SimRightWrongFalsely : Prop := simRightRow.holds Tryz.pinned (OpenSpec.ofChange simRightWrong)

/-- 'ashlarlaw18.SimRefused': WHATEVER THE INPUT: true; the input reads as it did. -/
def simRefusedSpec : ChangeSpec := { name := "simRefused", fn := fun _ => fun
  | [d1, d2, d3] => { results := [.lit (.bool true)], args := [d1, d2, d3] }
  | _ => none }
def simRefusedRow : OpenClaim := { program := "ytdalobojhfafbaagreatdoor", sum := "af728dfe6b44163d9c670b4e80491afa5addb3ef5675e2a4a95a84eb70f103e9", func := "ashlar/ashlarlaw18.SimRefused", spec := "simRefused", inPlace := ["internal/bytealg.IndexByteString", "internal/bytealg.IndexString", "math/bits.Add64", "math/bits.Sub64"], unfollowed := true, recurses := true, named := ["unicode/utf8.first", "unicode/utf8.acceptRanges", "internal/bytealg.MaxLen"], loops := true, plainKeys := false, apart := false, laid := [("unicode/utf8.acceptRanges", laid_unicode_utf8_acceptRanges), ("unicode/utf8.first", laid_unicode_utf8_first)] }
def SimRefusedSaid : Prop := simRefusedRow.holds Tryz.pinned (OpenSpec.ofChange simRefusedSpec)

/-- ITS FALSE NEIGHBOUR: 'it returns false'. Refute it at one input. -/
def simRefusedWrong : ChangeSpec := { name := "simRefused", fn := fun _ => fun
  | [d1, d2, d3] => { results := [.lit (.bool false)], args := [d1, d2, d3] }
  | _ => none }
def SimRefusedWrongFalsely : Prop := simRefusedRow.holds Tryz.pinned (OpenSpec.ofChange simRefusedWrong)

/-- 'ashlarlaw18.SimAgain': WHATEVER THE INPUT: true; the input reads as it did. -/
def simAgainSpec : ChangeSpec := { name := "simAgain", fn := fun _ => fun
  | [d1, d2, d3] => { results := [.lit (.bool true)], args := [d1, d2, d3] }
  | _ => none }
def simAgainRow : OpenClaim := { program := "ytdalobojhfafbaagreatdoor", sum := "af728dfe6b44163d9c670b4e80491afa5addb3ef5675e2a4a95a84eb70f103e9", func := "ashlar/ashlarlaw18.SimAgain", spec := "simAgain", inPlace := ["internal/bytealg.IndexByteString", "internal/bytealg.IndexString", "math/bits.Add64", "math/bits.Sub64"], unfollowed := true, recurses := true, named := ["unicode/utf8.first", "unicode/utf8.acceptRanges", "internal/bytealg.MaxLen"], loops := true, plainKeys := false, apart := false, laid := [("unicode/utf8.acceptRanges", laid_unicode_utf8_acceptRanges), ("unicode/utf8.first", laid_unicode_utf8_first)] }
def SimAgainSaid : Prop := simAgainRow.holds Tryz.pinned (OpenSpec.ofChange simAgainSpec)

/-- ITS FALSE NEIGHBOUR: 'it returns false'. Refute it at one input. -/
def simAgainWrong : ChangeSpec := { name := "simAgain", fn := fun _ => fun
  | [d1, d2, d3] => { results := [.lit (.bool false)], args := [d1, d2, d3] }
  | _ => none }
def SimAgainWrongFalsely : Prop := simAgainRow.holds Tryz.pinned (OpenSpec.ofChange simAgainWrong)

/-- 'ashlarlaw18.SimFirst': WHATEVER THE INPUT: true; the input reads as it did. -/
def simFirstSpec : ChangeSpec := { name := "simFirst", fn := fun _ => fun
  | [d1, d2] => { results := [.lit (.bool true)], args := [d1, d2] }
  | _ => none }
def simFirstRow : OpenClaim := { program := "ytdalobojhfafbaagreatdoor", sum := "af728dfe6b44163d9c670b4e80491afa5addb3ef5675e2a4a95a84eb70f103e9", func := "ashlar/ashlarlaw18.SimFirst", spec := "simFirst", inPlace := ["internal/bytealg.IndexByteString", "internal/bytealg.IndexString", "math/bits.Add64", "math/bits.Sub64"], unfollowed := true, recurses := true, named := ["unicode/utf8.first", "unicode/utf8.acceptRanges", "internal/bytealg.MaxLen"], loops := true, plainKeys := false, apart := false, laid := [("unicode/utf8.acceptRanges", laid_unicode_utf8_acceptRanges), ("unicode/utf8.first", laid_unicode_utf8_first)] }
def SimFirstSaid : Prop := simFirstRow.holds Tryz.pinned (OpenSpec.ofChange simFirstSpec)

/-- ITS FALSE NEIGHBOUR: 'it returns false'. Refute it at one input. -/
def simFirstWrong : ChangeSpec := { name := "simFirst", fn := fun _ => fun
  | [d1, d2] => { results := [.lit (.bool false)], args := [d1, d2] }
  | _ => none }
def SimFirstWrongFalsely : Prop := simFirstRow.holds Tryz.pinned (OpenSpec.ofChange simFirstWrong)

/-- 'ashlarlaw18.SimOrder': WHATEVER THE INPUT: true; the input reads as it did. -/
def simOrderSpec : ChangeSpec := { name := "simOrder", fn := fun _ => fun
  | [d1, d2, d3, d4] => { results := [.lit (.bool true)], args := [d1, d2, d3, d4] }
  | _ => none }
def simOrderRow : OpenClaim := { program := "ytdalobojhfafbaagreatdoor", sum := "af728dfe6b44163d9c670b4e80491afa5addb3ef5675e2a4a95a84eb70f103e9", func := "ashlar/ashlarlaw18.SimOrder", spec := "simOrder", inPlace := ["internal/bytealg.IndexByteString", "internal/bytealg.IndexString", "math/bits.Add64", "math/bits.Sub64"], unfollowed := true, recurses := true, named := ["unicode/utf8.first", "unicode/utf8.acceptRanges", "internal/bytealg.MaxLen"], loops := true, plainKeys := false, apart := false, laid := [("unicode/utf8.acceptRanges", laid_unicode_utf8_acceptRanges), ("unicode/utf8.first", laid_unicode_utf8_first)] }
def SimOrderSaid : Prop := simOrderRow.holds Tryz.pinned (OpenSpec.ofChange simOrderSpec)

/-- ITS FALSE NEIGHBOUR: 'it returns false'. Refute it at one input. -/
def simOrderWrong : ChangeSpec := { name := "simOrder", fn := fun _ => fun
  | [d1, d2, d3, d4] => { results := [.lit (.bool false)], args := [d1, d2, d3, d4] }
  | _ => none }
def SimOrderWrongFalsely : Prop := simOrderRow.holds Tryz.pinned (OpenSpec.ofChange simOrderWrong)

/-- 'ashlarlaw18.SimDoubles': WHATEVER THE INPUT: true; the input reads as it did. -/
def simDoublesSpec : ChangeSpec := { name := "simDoubles", fn := fun _ => fun
  | [d1, d2, d3, d4] => { results := [.lit (.bool true)], args := [d1, d2, d3, d4] }
  | _ => none }
def simDoublesRow : OpenClaim := { program := "ytdalobojhfafbaagreatdoor", sum := "af728dfe6b44163d9c670b4e80491afa5addb3ef5675e2a4a95a84eb70f103e9", func := "ashlar/ashlarlaw18.SimDoubles", spec := "simDoubles", inPlace := ["internal/bytealg.IndexByteString", "internal/bytealg.IndexString", "math/bits.Add64", "math/bits.Sub64"], unfollowed := true, recurses := true, named := ["unicode/utf8.first", "unicode/utf8.acceptRanges", "internal/bytealg.MaxLen"], loops := true, plainKeys := false, apart := false, laid := [("unicode/utf8.acceptRanges", laid_unicode_utf8_acceptRanges), ("unicode/utf8.first", laid_unicode_utf8_first)] }
def SimDoublesSaid : Prop := simDoublesRow.holds Tryz.pinned (OpenSpec.ofChange simDoublesSpec)

/-- ITS FALSE NEIGHBOUR: 'it returns false'. Refute it at one input. -/
def simDoublesWrong : ChangeSpec := { name := "simDoubles", fn := fun _ => fun
  | [d1, d2, d3, d4] => { results := [.lit (.bool false)], args := [d1, d2, d3, d4] }
  | _ => none }
def SimDoublesWrongFalsely : Prop := simDoublesRow.holds Tryz.pinned (OpenSpec.ofChange simDoublesWrong)

/-- 'ashlarlaw19.HornFirst': WHATEVER THE INPUT: true; the input reads as it did. -/
def hornFirstSpec : ChangeSpec := { name := "hornFirst", fn := fun _ => fun
  | [d1, d2, d3] => { results := [.lit (.bool true)], args := [d1, d2, d3] }
  | _ => none }
def hornFirstRow : OpenClaim := { program := "ytdalobojhfafbaagreatdoor", sum := "af728dfe6b44163d9c670b4e80491afa5addb3ef5675e2a4a95a84eb70f103e9", func := "ashlar/ashlarlaw19.HornFirst", spec := "hornFirst", inPlace := ["internal/bytealg.IndexByteString", "internal/bytealg.IndexString", "math/bits.Add64", "math/bits.Sub64"], unfollowed := true, recurses := true, named := ["unicode/utf8.first", "unicode/utf8.acceptRanges", "internal/bytealg.MaxLen"], loops := true, plainKeys := false, apart := false, laid := [("unicode/utf8.acceptRanges", laid_unicode_utf8_acceptRanges), ("unicode/utf8.first", laid_unicode_utf8_first)] }
def HornFirstSaid : Prop := hornFirstRow.holds Tryz.pinned (OpenSpec.ofChange hornFirstSpec)

/-- ITS FALSE NEIGHBOUR: 'it returns false'. Refute it at one input. -/
def hornFirstWrong : ChangeSpec := { name := "hornFirst", fn := fun _ => fun
  | [d1, d2, d3] => { results := [.lit (.bool false)], args := [d1, d2, d3] }
  | _ => none }
def HornFirstWrongFalsely : Prop := hornFirstRow.holds Tryz.pinned (OpenSpec.ofChange hornFirstWrong)

/-- 'ashlarlaw19.HornSteps': WHATEVER THE INPUT: true; the input reads as it did. -/
def hornStepsSpec : ChangeSpec := { name := "hornSteps", fn := fun _ => fun
  | [d1, d2, d3, d4] => { results := [.lit (.bool true)], args := [d1, d2, d3, d4] }
  | _ => none }
def hornStepsRow : OpenClaim := { program := "ytdalobojhfafbaagreatdoor", sum := "af728dfe6b44163d9c670b4e80491afa5addb3ef5675e2a4a95a84eb70f103e9", func := "ashlar/ashlarlaw19.HornSteps", spec := "hornSteps", inPlace := ["internal/bytealg.IndexByteString", "internal/bytealg.IndexString", "math/bits.Add64", "math/bits.Sub64"], unfollowed := true, recurses := true, named := ["unicode/utf8.first", "unicode/utf8.acceptRanges", "internal/bytealg.MaxLen"], loops := true, plainKeys := false, apart := false, laid := [("unicode/utf8.acceptRanges", laid_unicode_utf8_acceptRanges), ("unicode/utf8.first", laid_unicode_utf8_first)] }
def HornStepsSaid : Prop := hornStepsRow.holds Tryz.pinned (OpenSpec.ofChange hornStepsSpec)

/-- ITS FALSE NEIGHBOUR: 'it returns false'. Refute it at one input. -/
def hornStepsWrong : ChangeSpec := { name := "hornSteps", fn := fun _ => fun
  | [d1, d2, d3, d4] => { results := [.lit (.bool false)], args := [d1, d2, d3, d4] }
  | _ => none }
def HornStepsWrongFalsely : Prop := hornStepsRow.holds Tryz.pinned (OpenSpec.ofChange hornStepsWrong)

/- THE SECOND FORM. 'bulk': how many values and letters a reading holds, each counted each time it is reached (what is shared counts as often as it is met; a slice's spare places count too). A statement '..UptoSaid' is the law's where the arguments, and the package variables that the reading takes, are together of bulk at most 1048576: NARROWER than '..Said'. Prove '..Said' where nothing that the law and all that it calls make is longer than what came in: it says more and counts as full. Else prove '..UptoSaid'. A law counts once. -/
mutual
def uptoBulk {H : Type} : DataW H → Nat
  | .lit (.string bytes) => bytes.length + 1
  | .lit _ => 1
  | .nil => 1
  | .ptr d => uptoBulk d + 1
  | .slice elems spare => uptoBulkAll elems + uptoBulkAll spare + 1
  | .agg parts => uptoBulkAll parts + 1
  | .iface _ d => uptoBulk d + 1
  | .map entries => uptoBulkEntries entries + 1
  | .held _ => 1
def uptoBulkAll {H : Type} : List (DataW H) → Nat
  | [] => 0
  | d :: r => uptoBulk d + uptoBulkAll r
def uptoBulkEntries {H : Type} : List (Lit × DataW H) → Nat
  | [] => 0
  | x :: r => uptoBulkEntry x + uptoBulkEntries r
def uptoBulkEntry {H : Type} : Lit × DataW H → Nat
  | (.string bytes, d) => bytes.length + uptoBulk d + 1
  | (_, d) => uptoBulk d + 1
 end
def uptoSmall : (H : Type) → List (DataW H) → Bool := fun _ ds => decide (uptoBulkAll ds ≤ 1048576)
def OpenSpec.upto (s : _root_.Go.ChangeSpec) : _root_.Go.OpenSpec := { _root_.Go.OpenSpec.ofChange s with cond := some uptoSmall }

/-- 'ashlarlaw18.SimRuns', WHERE WHAT IT READS IS OF BULK AT MOST 1048576: true; the input reads as it did. -/
def simRunsUptoRow : OpenClaim := { program := "ytdalobojhfafbaagreatdoor", sum := "af728dfe6b44163d9c670b4e80491afa5addb3ef5675e2a4a95a84eb70f103e9", func := "ashlar/ashlarlaw18.SimRuns", spec := "simRuns", inPlace := ["internal/bytealg.IndexByteString", "internal/bytealg.IndexString", "math/bits.Add64", "math/bits.Sub64"], unfollowed := true, recurses := true, named := ["unicode/utf8.first", "unicode/utf8.acceptRanges", "internal/bytealg.MaxLen"], loops := true, plainKeys := false, apart := false, laid := [("unicode/utf8.acceptRanges", laid_unicode_utf8_acceptRanges), ("unicode/utf8.first", laid_unicode_utf8_first)], narrowed := true }
def SimRunsUptoSaid : Prop := simRunsUptoRow.holds Tryz.pinned (OpenSpec.upto simRunsSpec)

/-- 'ashlarlaw18.SimRight', WHERE WHAT IT READS IS OF BULK AT MOST 1048576: true; the input reads as it did. -/
def simRightUptoRow : OpenClaim := { program := "ytdalobojhfafbaagreatdoor", sum := "af728dfe6b44163d9c670b4e80491afa5addb3ef5675e2a4a95a84eb70f103e9", func := "ashlar/ashlarlaw18.SimRight", spec := "simRight", inPlace := ["internal/bytealg.IndexByteString", "internal/bytealg.IndexString", "math/bits.Add64", "math/bits.Sub64"], unfollowed := true, recurses := true, named := ["unicode/utf8.first", "unicode/utf8.acceptRanges", "internal/bytealg.MaxLen"], loops := true, plainKeys := false, apart := false, laid := [("unicode/utf8.acceptRanges", laid_unicode_utf8_acceptRanges), ("unicode/utf8.first", laid_unicode_utf8_first)], narrowed := true }
def SimRightUptoSaid : Prop := simRightUptoRow.holds Tryz.pinned (OpenSpec.upto simRightSpec)

/-- 'ashlarlaw18.SimRefused', WHERE WHAT IT READS IS OF BULK AT MOST 1048576: true; the input reads as it did. -/
def simRefusedUptoRow : OpenClaim := { program := "ytdalobojhfafbaagreatdoor", sum := "af728dfe6b44163d9c670b4e80491afa5addb3ef5675e2a4a95a84eb70f103e9", func := "ashlar/ashlarlaw18.SimRefused", spec := "simRefused", inPlace := ["internal/bytealg.IndexByteString", "internal/bytealg.IndexString", "math/bits.Add64", "math/bits.Sub64"], unfollowed := true, recurses := true, named := ["unicode/utf8.first", "unicode/utf8.acceptRanges", "internal/bytealg.MaxLen"], loops := true, plainKeys := false, apart := false, laid := [("unicode/utf8.acceptRanges", laid_unicode_utf8_acceptRanges), ("unicode/utf8.first", laid_unicode_utf8_first)], narrowed := true }
def SimRefusedUptoSaid : Prop := simRefusedUptoRow.holds Tryz.pinned (OpenSpec.upto simRefusedSpec)

/-- 'ashlarlaw18.SimAgain', WHERE WHAT IT READS IS OF BULK AT MOST 1048576: true; the input reads as it did. -/
def simAgainUptoRow : OpenClaim := { program := "ytdalobojhfafbaagreatdoor", sum := "af728dfe6b44163d9c670b4e80491afa5addb3ef5675e2a4a95a84eb70f103e9", func := "ashlar/ashlarlaw18.SimAgain", spec := "simAgain", inPlace := ["internal/bytealg.IndexByteString", "internal/bytealg.IndexString", "math/bits.Add64", "math/bits.Sub64"], unfollowed := true, recurses := true, named := ["unicode/utf8.first", "unicode/utf8.acceptRanges", "internal/bytealg.MaxLen"], loops := true, plainKeys := false, apart := false, laid := [("unicode/utf8.acceptRanges", laid_unicode_utf8_acceptRanges), ("unicode/utf8.first", laid_unicode_utf8_first)], narrowed := true }
def SimAgainUptoSaid : Prop := simAgainUptoRow.holds Tryz.pinned (OpenSpec.upto simAgainSpec)

/-- 'ashlarlaw18.SimFirst', WHERE WHAT IT READS IS OF BULK AT MOST 1048576: true; the input reads as it did. -/
def simFirstUptoRow : OpenClaim := { program := "ytdalobojhfafbaagreatdoor", sum := "af728dfe6b44163d9c670b4e80491afa5addb3ef5675e2a4a95a84eb70f103e9", func := "ashlar/ashlarlaw18.SimFirst", spec := "simFirst", inPlace := ["internal/bytealg.IndexByteString", "internal/bytealg.IndexString", "math/bits.Add64", "math/bits.Sub64"], unfollowed := true, recurses := true, named := ["unicode/utf8.first", "unicode/utf8.acceptRanges", "internal/bytealg.MaxLen"], loops := true, plainKeys := false, apart := false, laid := [("unicode/utf8.acceptRanges", laid_unicode_utf8_acceptRanges), ("unicode/utf8.first", laid_unicode_utf8_first)], narrowed := true }
def SimFirstUptoSaid : Prop := simFirstUptoRow.holds Tryz.pinned (OpenSpec.upto simFirstSpec)

/-- 'ashlarlaw18.SimOrder', WHERE WHAT IT READS IS OF BULK AT MOST 1048576: true; the input reads as it did. -/
def simOrderUptoRow : OpenClaim := { program := "ytdalobojhfafbaagreatdoor", sum := "af728dfe6b44163d9c670b4e80491afa5addb3ef5675e2a4a95a84eb70f103e9", func := "ashlar/ashlarlaw18.SimOrder", spec := "simOrder", inPlace := ["internal/bytealg.IndexByteString", "internal/bytealg.IndexString", "math/bits.Add64", "math/bits.Sub64"], unfollowed := true, recurses := true, named := ["unicode/utf8.first", "unicode/utf8.acceptRanges", "internal/bytealg.MaxLen"], loops := true, plainKeys := false, apart := false, laid := [("unicode/utf8.acceptRanges", laid_unicode_utf8_acceptRanges), ("unicode/utf8.first", laid_unicode_utf8_first)], narrowed := true }
def SimOrderUptoSaid : Prop := simOrderUptoRow.holds Tryz.pinned (OpenSpec.upto simOrderSpec)

/-- 'ashlarlaw18.SimDoubles', WHERE WHAT IT READS IS OF BULK AT MOST 1048576: true; the input reads as it did. -/
def simDoublesUptoRow : OpenClaim := { program := "ytdalobojhfafbaagreatdoor", sum := "af728dfe6b44163d9c670b4e80491afa5addb3ef5675e2a4a95a84eb70f103e9", func := "ashlar/ashlarlaw18.SimDoubles", spec := "simDoubles", inPlace := ["internal/bytealg.IndexByteString", "internal/bytealg.IndexString", "math/bits.Add64", "math/bits.Sub64"], unfollowed := true, recurses := true, named := ["unicode/utf8.first", "unicode/utf8.acceptRanges", "internal/bytealg.MaxLen"], loops := true, plainKeys := false, apart := false, laid := [("unicode/utf8.acceptRanges", laid_unicode_utf8_acceptRanges), ("unicode/utf8.first", laid_unicode_utf8_first)], narrowed := true }
def SimDoublesUptoSaid : Prop := simDoublesUptoRow.holds Tryz.pinned (OpenSpec.upto simDoublesSpec)

/-- 'ashlarlaw19.HornFirst', WHERE WHAT IT READS IS OF BULK AT MOST 1048576: true; the input reads as it did. -/
def hornFirstUptoRow : OpenClaim := { program := "ytdalobojhfafbaagreatdoor", sum := "af728dfe6b44163d9c670b4e80491afa5addb3ef5675e2a4a95a84eb70f103e9", func := "ashlar/ashlarlaw19.HornFirst", spec := "hornFirst", inPlace := ["internal/bytealg.IndexByteString", "internal/bytealg.IndexString", "math/bits.Add64", "math/bits.Sub64"], unfollowed := true, recurses := true, named := ["unicode/utf8.first", "unicode/utf8.acceptRanges", "internal/bytealg.MaxLen"], loops := true, plainKeys := false, apart := false, laid := [("unicode/utf8.acceptRanges", laid_unicode_utf8_acceptRanges), ("unicode/utf8.first", laid_unicode_utf8_first)], narrowed := true }
def HornFirstUptoSaid : Prop := hornFirstUptoRow.holds Tryz.pinned (OpenSpec.upto hornFirstSpec)

/-- 'ashlarlaw19.HornSteps', WHERE WHAT IT READS IS OF BULK AT MOST 1048576: true; the input reads as it did. -/
def hornStepsUptoRow : OpenClaim := { program := "ytdalobojhfafbaagreatdoor", sum := "af728dfe6b44163d9c670b4e80491afa5addb3ef5675e2a4a95a84eb70f103e9", func := "ashlar/ashlarlaw19.HornSteps", spec := "hornSteps", inPlace := ["internal/bytealg.IndexByteString", "internal/bytealg.IndexString", "math/bits.Add64", "math/bits.Sub64"], unfollowed := true, recurses := true, named := ["unicode/utf8.first", "unicode/utf8.acceptRanges", "internal/bytealg.MaxLen"], loops := true, plainKeys := false, apart := false, laid := [("unicode/utf8.acceptRanges", laid_unicode_utf8_acceptRanges), ("unicode/utf8.first", laid_unicode_utf8_first)], narrowed := true }
def HornStepsUptoSaid : Prop := hornStepsUptoRow.holds Tryz.pinned (OpenSpec.upto hornStepsSpec)

end Rows
end Go.Proofs.YtdalobojhfafbaaGreatDoor
