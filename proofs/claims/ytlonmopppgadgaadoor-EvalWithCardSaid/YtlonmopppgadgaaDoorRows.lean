/-
  NARROWER THAN 'FOR EVERY INPUT', by the rows' own cells (each row's printed sentence says how): NormTells: loops, laid · NormAgain: loops, laid · NormTurned: loops, laid · EvalBig: laid · EvalTurned: loops, laid · EvalWith: laid · EvalLaws: loops, laid · NormValues: loops, laid · TermTells: loops, laid · TermParts: loops, laid · TermJoins: loops, laid · TermNames: loops, laid · TermWraps: loops, laid · NormNames: loops, laid.
  DERIVED. THE GIVEN ROWS OF THIS SEAT. 14 by the template 'for every input the law returns true; each argument reads behind the call as it read before'; 0 by the template 'total and deterministic' (their statements: YtlonmopppgadgaaDoorTotals.lean).
  GIVEN WITH THE SEED: the statements are not yours to turn. If you find one false, say at which input.
  Laid BY PROGRAM, IN A SANDBOX (cutbox-rows.mjs): the forced cells as the released guide's own fill.sh prints them over the translation 04b72145c1721f68… (all of the seat's roots in one cut). By AI agents, Wed Nov 11 2026. No macro, syntax, notation, axiom, sorry.
-/
import Derived.Test.YtlonmopppgadgaaDoorChecked
import GoSem.PinnedTables
import GoSem.Claim
import GoSem.ClaimJoined
import GoSem.ClaimMapViews
import Derived.JoinedTies
import Derived.KernelRfl
namespace Go.Proofs.YtlonmopppgadgaaDoor
/- THE CELL 'sum', in the pinned program and in every row, IS THE sha256 OF THE DUMP (.gsa) THAT YtlonmopppgadgaaDoorProg.lean LOADS. Nothing in Lean hashes anything: it is a label: what it is worth is what the hold of that sum in a sandbox is worth. -/
noncomputable def Tryd.pinned : Pinned := { name := "ytlonmopppgadgaadoor", sum := "04b72145c1721f68301660d8532ee4dd0c553f0324ec648941cc4da82da9a70e", checked := Tryd.checked }
namespace Rows
def none {H : Type} : Left H := { results := [], args := [] }

/- WHAT THE LISTED PACKAGE-LEVEL VARIABLES READ AS WHEN THE CALL BEGINS. Each datum BY PROGRAM (the guide's laid-datum.mjs) off the statement by which the dump's own 'gosem.cut.vars' lays the variable. In a bare row this is a premise. The card (YtlonmopppgadgaaDoorCards.lean) ties it to the program's text. -/
def laid_unicode_utf8_acceptRanges {H : Type} : DataW H := .agg [.agg [.lit (.int .u8 128), .lit (.int .u8 191)], .agg [.lit (.int .u8 160), .lit (.int .u8 191)], .agg [.lit (.int .u8 128), .lit (.int .u8 159)], .agg [.lit (.int .u8 144), .lit (.int .u8 191)], .agg [.lit (.int .u8 128), .lit (.int .u8 143)], .agg [.lit (.int .u8 0), .lit (.int .u8 0)], .agg [.lit (.int .u8 0), .lit (.int .u8 0)], .agg [.lit (.int .u8 0), .lit (.int .u8 0)], .agg [.lit (.int .u8 0), .lit (.int .u8 0)], .agg [.lit (.int .u8 0), .lit (.int .u8 0)], .agg [.lit (.int .u8 0), .lit (.int .u8 0)], .agg [.lit (.int .u8 0), .lit (.int .u8 0)], .agg [.lit (.int .u8 0), .lit (.int .u8 0)], .agg [.lit (.int .u8 0), .lit (.int .u8 0)], .agg [.lit (.int .u8 0), .lit (.int .u8 0)], .agg [.lit (.int .u8 0), .lit (.int .u8 0)]]
/-- One of Go's own tables, pinned by name: the form's constant. -/
def laid_unicode_utf8_first : DataW Unit := Go.Pinned.utf8First

/-- 'ashlarlaw06.NormTells': WHATEVER THE INPUT: true; the input reads as it did. -/
def normTellsSpec : ChangeSpec := { name := "normTells", fn := fun _ => fun
  | [d] => { results := [.lit (.bool true)], args := [d] }
  | _ => none }
def normTellsRow : OpenClaim := { program := "ytlonmopppgadgaadoor", sum := "04b72145c1721f68301660d8532ee4dd0c553f0324ec648941cc4da82da9a70e", func := "ashlar/ashlarlaw06.NormTells", spec := "normTells", inPlace := ["internal/bytealg.IndexByteString", "internal/bytealg.IndexString"], unfollowed := true, recurses := true, named := ["unicode/utf8.first", "unicode/utf8.acceptRanges", "internal/bytealg.MaxLen"], loops := true, plainKeys := false, apart := false, laid := [("unicode/utf8.acceptRanges", laid_unicode_utf8_acceptRanges), ("unicode/utf8.first", laid_unicode_utf8_first)] }
def NormTellsSaid : Prop := normTellsRow.holds Tryd.pinned (OpenSpec.ofChange normTellsSpec)

/-- ITS FALSE NEIGHBOUR: 'it returns false'. Refute it at one input. -/
def normTellsWrong : ChangeSpec := { name := "normTells", fn := fun _ => fun
  | [d] => { results := [.lit (.bool false)], args := [d] }
  | _ => none }
def NormTellsWrongFalsely : Prop := normTellsRow.holds Tryd.pinned (OpenSpec.ofChange normTellsWrong)

/-- 'ashlarlaw06.NormAgain': WHATEVER THE INPUT: true; the input reads as it did. -/
def normAgainSpec : ChangeSpec := { name := "normAgain", fn := fun _ => fun
  | [d] => { results := [.lit (.bool true)], args := [d] }
  | _ => none }
def normAgainRow : OpenClaim := { program := "ytlonmopppgadgaadoor", sum := "04b72145c1721f68301660d8532ee4dd0c553f0324ec648941cc4da82da9a70e", func := "ashlar/ashlarlaw06.NormAgain", spec := "normAgain", inPlace := ["internal/bytealg.IndexByteString", "internal/bytealg.IndexString"], unfollowed := true, recurses := true, named := ["unicode/utf8.first", "unicode/utf8.acceptRanges", "internal/bytealg.MaxLen"], loops := true, plainKeys := false, apart := false, laid := [("unicode/utf8.acceptRanges", laid_unicode_utf8_acceptRanges), ("unicode/utf8.first", laid_unicode_utf8_first)] }
def NormAgainSaid : Prop := normAgainRow.holds Tryd.pinned (OpenSpec.ofChange normAgainSpec)

/-- ITS FALSE NEIGHBOUR: 'it returns false'. Refute it at one input. -/
def normAgainWrong : ChangeSpec := { name := "normAgain", fn := fun _ => fun
  | [d] => { results := [.lit (.bool false)], args := [d] }
  | _ => none }
def NormAgainWrongFalsely : Prop := normAgainRow.holds Tryd.pinned (OpenSpec.ofChange normAgainWrong)

/-- 'ashlarlaw06.NormTurned': WHATEVER THE INPUT: true; the input reads as it did. -/
def normTurnedSpec : ChangeSpec := { name := "normTurned", fn := fun _ => fun
  | [d] => { results := [.lit (.bool true)], args := [d] }
  | _ => none }
def normTurnedRow : OpenClaim := { program := "ytlonmopppgadgaadoor", sum := "04b72145c1721f68301660d8532ee4dd0c553f0324ec648941cc4da82da9a70e", func := "ashlar/ashlarlaw06.NormTurned", spec := "normTurned", inPlace := ["internal/bytealg.IndexByteString", "internal/bytealg.IndexString"], unfollowed := true, recurses := true, named := ["unicode/utf8.first", "unicode/utf8.acceptRanges", "internal/bytealg.MaxLen"], loops := true, plainKeys := false, apart := false, laid := [("unicode/utf8.acceptRanges", laid_unicode_utf8_acceptRanges), ("unicode/utf8.first", laid_unicode_utf8_first)] }
def NormTurnedSaid : Prop := normTurnedRow.holds Tryd.pinned (OpenSpec.ofChange normTurnedSpec)

/-- ITS FALSE NEIGHBOUR: 'it returns false'. Refute it at one input. -/
def normTurnedWrong : ChangeSpec := { name := "normTurned", fn := fun _ => fun
  | [d] => { results := [.lit (.bool false)], args := [d] }
  | _ => none }
def NormTurnedWrongFalsely : Prop := normTurnedRow.holds Tryd.pinned (OpenSpec.ofChange normTurnedWrong)

/-- 'ashlarlaw04.EvalBig': WHATEVER THE INPUT: true; the input reads as it did. -/
def evalBigSpec : ChangeSpec := { name := "evalBig", fn := fun _ => fun
  | [d1, d2] => { results := [.lit (.bool true)], args := [d1, d2] }
  | _ => none }
def evalBigRow : OpenClaim := { program := "ytlonmopppgadgaadoor", sum := "04b72145c1721f68301660d8532ee4dd0c553f0324ec648941cc4da82da9a70e", func := "ashlar/ashlarlaw04.EvalBig", spec := "evalBig", inPlace := ["internal/bytealg.IndexByteString", "internal/bytealg.IndexString", "math/bits.Add64", "math/bits.Sub64"], unfollowed := true, recurses := true, named := ["unicode/utf8.first", "unicode/utf8.acceptRanges", "internal/bytealg.MaxLen"], plainKeys := false, apart := false, laid := [("unicode/utf8.acceptRanges", laid_unicode_utf8_acceptRanges), ("unicode/utf8.first", laid_unicode_utf8_first)] }
def EvalBigSaid : Prop := evalBigRow.holds Tryd.pinned (OpenSpec.ofChange evalBigSpec)

/-- ITS FALSE NEIGHBOUR: 'it returns false'. Refute it at one input. -/
def evalBigWrong : ChangeSpec := { name := "evalBig", fn := fun _ => fun
  | [d1, d2] => { results := [.lit (.bool false)], args := [d1, d2] }
  | _ => none }
def EvalBigWrongFalsely : Prop := evalBigRow.holds Tryd.pinned (OpenSpec.ofChange evalBigWrong)

/-- 'ashlarlaw04.EvalTurned': WHATEVER THE INPUT: true; the input reads as it did. -/
def evalTurnedSpec : ChangeSpec := { name := "evalTurned", fn := fun _ => fun
  | [d1, d2, d3, d4] => { results := [.lit (.bool true)], args := [d1, d2, d3, d4] }
  | _ => none }
def evalTurnedRow : OpenClaim := { program := "ytlonmopppgadgaadoor", sum := "04b72145c1721f68301660d8532ee4dd0c553f0324ec648941cc4da82da9a70e", func := "ashlar/ashlarlaw04.EvalTurned", spec := "evalTurned", inPlace := ["internal/bytealg.IndexByteString", "internal/bytealg.IndexString", "math/bits.Add64", "math/bits.Sub64"], unfollowed := true, recurses := true, named := ["unicode/utf8.first", "unicode/utf8.acceptRanges", "internal/bytealg.MaxLen"], loops := true, plainKeys := false, apart := false, laid := [("unicode/utf8.acceptRanges", laid_unicode_utf8_acceptRanges), ("unicode/utf8.first", laid_unicode_utf8_first)] }
def EvalTurnedSaid : Prop := evalTurnedRow.holds Tryd.pinned (OpenSpec.ofChange evalTurnedSpec)

/-- ITS FALSE NEIGHBOUR: 'it returns false'. Refute it at one input. -/
def evalTurnedWrong : ChangeSpec := { name := "evalTurned", fn := fun _ => fun
  | [d1, d2, d3, d4] => { results := [.lit (.bool false)], args := [d1, d2, d3, d4] }
  | _ => none }
def EvalTurnedWrongFalsely : Prop := evalTurnedRow.holds Tryd.pinned (OpenSpec.ofChange evalTurnedWrong)

/-- 'ashlarlaw04.EvalWith': WHATEVER THE INPUT: true; the input reads as it did. -/
def evalWithSpec : ChangeSpec := { name := "evalWith", fn := fun _ => fun
  | [d1, d2, d3, d4, d5] => { results := [.lit (.bool true)], args := [d1, d2, d3, d4, d5] }
  | _ => none }
def evalWithRow : OpenClaim := { program := "ytlonmopppgadgaadoor", sum := "04b72145c1721f68301660d8532ee4dd0c553f0324ec648941cc4da82da9a70e", func := "ashlar/ashlarlaw04.EvalWith", spec := "evalWith", inPlace := ["internal/bytealg.IndexByteString", "internal/bytealg.IndexString", "math/bits.Add64", "math/bits.Sub64"], unfollowed := true, recurses := true, named := ["unicode/utf8.first", "unicode/utf8.acceptRanges", "internal/bytealg.MaxLen"], plainKeys := false, apart := false, laid := [("unicode/utf8.acceptRanges", laid_unicode_utf8_acceptRanges), ("unicode/utf8.first", laid_unicode_utf8_first)] }
def EvalWithSaid : Prop := evalWithRow.holds Tryd.pinned (OpenSpec.ofChange evalWithSpec)

/-- ITS FALSE NEIGHBOUR: 'it returns false'. Refute it at one input. -/
def evalWithWrong : ChangeSpec := { name := "evalWith", fn := fun _ => fun
  | [d1, d2, d3, d4, d5] => { results := [.lit (.bool false)], args := [d1, d2, d3, d4, d5] }
  | _ => none }
def EvalWithWrongFalsely : Prop := evalWithRow.holds Tryd.pinned (OpenSpec.ofChange evalWithWrong)

/-- 'ashlarlaw04.EvalLaws': WHATEVER THE INPUT: true; the input reads as it did. -/
def evalLawsSpec : ChangeSpec := { name := "evalLaws", fn := fun _ => fun
  | [d1, d2, d3] => { results := [.lit (.bool true)], args := [d1, d2, d3] }
  | _ => none }
def evalLawsRow : OpenClaim := { program := "ytlonmopppgadgaadoor", sum := "04b72145c1721f68301660d8532ee4dd0c553f0324ec648941cc4da82da9a70e", func := "ashlar/ashlarlaw04.EvalLaws", spec := "evalLaws", inPlace := ["internal/bytealg.IndexByteString", "internal/bytealg.IndexString", "math/bits.Add64", "math/bits.Sub64"], unfollowed := true, recurses := true, named := ["unicode/utf8.first", "unicode/utf8.acceptRanges", "internal/bytealg.MaxLen"], loops := true, plainKeys := false, apart := false, laid := [("unicode/utf8.acceptRanges", laid_unicode_utf8_acceptRanges), ("unicode/utf8.first", laid_unicode_utf8_first)] }
def EvalLawsSaid : Prop := evalLawsRow.holds Tryd.pinned (OpenSpec.ofChange evalLawsSpec)

/-- ITS FALSE NEIGHBOUR: 'it returns false'. Refute it at one input. -/
def evalLawsWrong : ChangeSpec := { name := "evalLaws", fn := fun _ => fun
  | [d1, d2, d3] => { results := [.lit (.bool false)], args := [d1, d2, d3] }
  | _ => none }
def EvalLawsWrongFalsely : Prop := evalLawsRow.holds Tryd.pinned (OpenSpec.ofChange evalLawsWrong)

/-- 'ashlarlaw06.NormValues': WHATEVER THE INPUT: true; the input reads as it did. -/
def normValuesSpec : ChangeSpec := { name := "normValues", fn := fun _ => fun
  | [d1, d2] => { results := [.lit (.bool true)], args := [d1, d2] }
  | _ => none }
def normValuesRow : OpenClaim := { program := "ytlonmopppgadgaadoor", sum := "04b72145c1721f68301660d8532ee4dd0c553f0324ec648941cc4da82da9a70e", func := "ashlar/ashlarlaw06.NormValues", spec := "normValues", inPlace := ["internal/bytealg.IndexByteString", "internal/bytealg.IndexString", "math/bits.Add64", "math/bits.Sub64"], unfollowed := true, recurses := true, named := ["unicode/utf8.first", "unicode/utf8.acceptRanges", "internal/bytealg.MaxLen"], loops := true, plainKeys := false, apart := false, laid := [("unicode/utf8.acceptRanges", laid_unicode_utf8_acceptRanges), ("unicode/utf8.first", laid_unicode_utf8_first)] }
def NormValuesSaid : Prop := normValuesRow.holds Tryd.pinned (OpenSpec.ofChange normValuesSpec)

/-- ITS FALSE NEIGHBOUR: 'it returns false'. Refute it at one input. -/
def normValuesWrong : ChangeSpec := { name := "normValues", fn := fun _ => fun
  | [d1, d2] => { results := [.lit (.bool false)], args := [d1, d2] }
  | _ => none }
def NormValuesWrongFalsely : Prop := normValuesRow.holds Tryd.pinned (OpenSpec.ofChange normValuesWrong)

/-- 'ashlarlaw03.TermTells': WHATEVER THE INPUT: true; the input reads as it did. -/
def termTellsSpec : ChangeSpec := { name := "termTells", fn := fun _ => fun
  | [d1, d2, d3] => { results := [.lit (.bool true)], args := [d1, d2, d3] }
  | _ => none }
def termTellsRow : OpenClaim := { program := "ytlonmopppgadgaadoor", sum := "04b72145c1721f68301660d8532ee4dd0c553f0324ec648941cc4da82da9a70e", func := "ashlar/ashlarlaw03.TermTells", spec := "termTells", inPlace := ["internal/bytealg.IndexByteString", "internal/bytealg.IndexString"], unfollowed := true, recurses := true, named := ["unicode/utf8.first", "unicode/utf8.acceptRanges", "internal/bytealg.MaxLen"], loops := true, plainKeys := false, apart := false, laid := [("unicode/utf8.acceptRanges", laid_unicode_utf8_acceptRanges), ("unicode/utf8.first", laid_unicode_utf8_first)] }
def TermTellsSaid : Prop := termTellsRow.holds Tryd.pinned (OpenSpec.ofChange termTellsSpec)

/-- ITS FALSE NEIGHBOUR: 'it returns false'. Refute it at one input. -/
def termTellsWrong : ChangeSpec := { name := "termTells", fn := fun _ => fun
  | [d1, d2, d3] => { results := [.lit (.bool false)], args := [d1, d2, d3] }
  | _ => none }
def TermTellsWrongFalsely : Prop := termTellsRow.holds Tryd.pinned (OpenSpec.ofChange termTellsWrong)

/-- 'ashlarlaw03.TermParts': WHATEVER THE INPUT: true; the input reads as it did. -/
def termPartsSpec : ChangeSpec := { name := "termParts", fn := fun _ => fun
  | [d] => { results := [.lit (.bool true)], args := [d] }
  | _ => none }
def termPartsRow : OpenClaim := { program := "ytlonmopppgadgaadoor", sum := "04b72145c1721f68301660d8532ee4dd0c553f0324ec648941cc4da82da9a70e", func := "ashlar/ashlarlaw03.TermParts", spec := "termParts", inPlace := ["internal/bytealg.IndexByteString", "internal/bytealg.IndexString"], unfollowed := true, recurses := true, named := ["unicode/utf8.first", "unicode/utf8.acceptRanges", "internal/bytealg.MaxLen"], loops := true, plainKeys := false, apart := false, laid := [("unicode/utf8.acceptRanges", laid_unicode_utf8_acceptRanges), ("unicode/utf8.first", laid_unicode_utf8_first)] }
def TermPartsSaid : Prop := termPartsRow.holds Tryd.pinned (OpenSpec.ofChange termPartsSpec)

/-- ITS FALSE NEIGHBOUR: 'it returns false'. Refute it at one input. -/
def termPartsWrong : ChangeSpec := { name := "termParts", fn := fun _ => fun
  | [d] => { results := [.lit (.bool false)], args := [d] }
  | _ => none }
def TermPartsWrongFalsely : Prop := termPartsRow.holds Tryd.pinned (OpenSpec.ofChange termPartsWrong)

/-- 'ashlarlaw03.TermJoins': WHATEVER THE INPUT: true; the input reads as it did. -/
def termJoinsSpec : ChangeSpec := { name := "termJoins", fn := fun _ => fun
  | [d1, d2] => { results := [.lit (.bool true)], args := [d1, d2] }
  | _ => none }
def termJoinsRow : OpenClaim := { program := "ytlonmopppgadgaadoor", sum := "04b72145c1721f68301660d8532ee4dd0c553f0324ec648941cc4da82da9a70e", func := "ashlar/ashlarlaw03.TermJoins", spec := "termJoins", inPlace := ["internal/bytealg.IndexByteString", "internal/bytealg.IndexString"], unfollowed := true, recurses := true, named := ["unicode/utf8.first", "unicode/utf8.acceptRanges", "internal/bytealg.MaxLen"], loops := true, plainKeys := false, apart := false, laid := [("unicode/utf8.acceptRanges", laid_unicode_utf8_acceptRanges), ("unicode/utf8.first", laid_unicode_utf8_first)] }
def TermJoinsSaid : Prop := termJoinsRow.holds Tryd.pinned (OpenSpec.ofChange termJoinsSpec)

/-- ITS FALSE NEIGHBOUR: 'it returns false'. Refute it at one input. -/
def termJoinsWrong : ChangeSpec := { name := "termJoins", fn := fun _ => fun
  | [d1, d2] => { results := [.lit (.bool false)], args := [d1, d2] }
  | _ => none }
def TermJoinsWrongFalsely : Prop := termJoinsRow.holds Tryd.pinned (OpenSpec.ofChange termJoinsWrong)

/-- 'ashlarlaw03.TermNames': WHATEVER THE INPUT: true; the input reads as it did. -/
def termNamesSpec : ChangeSpec := { name := "termNames", fn := fun _ => fun
  | [d] => { results := [.lit (.bool true)], args := [d] }
  | _ => none }
def termNamesRow : OpenClaim := { program := "ytlonmopppgadgaadoor", sum := "04b72145c1721f68301660d8532ee4dd0c553f0324ec648941cc4da82da9a70e", func := "ashlar/ashlarlaw03.TermNames", spec := "termNames", inPlace := ["internal/bytealg.IndexByteString", "internal/bytealg.IndexString"], unfollowed := true, recurses := true, named := ["unicode/utf8.first", "unicode/utf8.acceptRanges", "internal/bytealg.MaxLen"], loops := true, plainKeys := false, apart := false, laid := [("unicode/utf8.acceptRanges", laid_unicode_utf8_acceptRanges), ("unicode/utf8.first", laid_unicode_utf8_first)] }
def TermNamesSaid : Prop := termNamesRow.holds Tryd.pinned (OpenSpec.ofChange termNamesSpec)

/-- ITS FALSE NEIGHBOUR: 'it returns false'. Refute it at one input. -/
def termNamesWrong : ChangeSpec := { name := "termNames", fn := fun _ => fun
  | [d] => { results := [.lit (.bool false)], args := [d] }
  | _ => none }
def TermNamesWrongFalsely : Prop := termNamesRow.holds Tryd.pinned (OpenSpec.ofChange termNamesWrong)

/-- 'ashlarlaw03.TermWraps': WHATEVER THE INPUT: true; the input reads as it did. -/
def termWrapsSpec : ChangeSpec := { name := "termWraps", fn := fun _ => fun
  | [d1, d2] => { results := [.lit (.bool true)], args := [d1, d2] }
  | _ => none }
def termWrapsRow : OpenClaim := { program := "ytlonmopppgadgaadoor", sum := "04b72145c1721f68301660d8532ee4dd0c553f0324ec648941cc4da82da9a70e", func := "ashlar/ashlarlaw03.TermWraps", spec := "termWraps", inPlace := ["internal/bytealg.IndexByteString", "internal/bytealg.IndexString"], unfollowed := true, recurses := true, named := ["unicode/utf8.first", "unicode/utf8.acceptRanges", "internal/bytealg.MaxLen"], loops := true, plainKeys := false, apart := false, laid := [("unicode/utf8.acceptRanges", laid_unicode_utf8_acceptRanges), ("unicode/utf8.first", laid_unicode_utf8_first)] }
def TermWrapsSaid : Prop := termWrapsRow.holds Tryd.pinned (OpenSpec.ofChange termWrapsSpec)

/-- ITS FALSE NEIGHBOUR: 'it returns false'. Refute it at one input. -/
def termWrapsWrong : ChangeSpec := { name := "termWraps", fn := fun _ => fun
  | [d1, d2] => { results := [.lit (.bool false)], args := [d1, d2] }
  | _ => none }
def TermWrapsWrongFalsely : Prop := termWrapsRow.holds Tryd.pinned (OpenSpec.ofChange termWrapsWrong)

/-- 'ashlarlaw06.NormNames': WHATEVER THE INPUT: true; the input reads as it did. -/
def normNamesSpec : ChangeSpec := { name := "normNames", fn := fun _ => fun
  | [d] => { results := [.lit (.bool true)], args := [d] }
  | _ => none }
def normNamesRow : OpenClaim := { program := "ytlonmopppgadgaadoor", sum := "04b72145c1721f68301660d8532ee4dd0c553f0324ec648941cc4da82da9a70e", func := "ashlar/ashlarlaw06.NormNames", spec := "normNames", inPlace := ["internal/bytealg.IndexByteString", "internal/bytealg.IndexString"], unfollowed := true, recurses := true, named := ["unicode/utf8.first", "unicode/utf8.acceptRanges", "internal/bytealg.MaxLen"], loops := true, plainKeys := false, apart := false, laid := [("unicode/utf8.acceptRanges", laid_unicode_utf8_acceptRanges), ("unicode/utf8.first", laid_unicode_utf8_first)] }
def NormNamesSaid : Prop := normNamesRow.holds Tryd.pinned (OpenSpec.ofChange normNamesSpec)

/-- ITS FALSE NEIGHBOUR: 'it returns false'. Refute it at one input. -/
def normNamesWrong : ChangeSpec := { name := "normNames", fn := fun _ => fun
  | [d] => { results := [.lit (.bool false)], args := [d] }
  | _ => none }
def NormNamesWrongFalsely : Prop := normNamesRow.holds Tryd.pinned (OpenSpec.ofChange normNamesWrong)

/- THE SECOND FORM. 'bulk': how many values and letters a reading holds, each counted each time it is reached (what is shared counts as often as it is met; a slice's spare places count too). A statement '..UptoSaid' is the law's where the arguments, and the package variables that the reading takes, are together of bulk at most 1048576: NARROWER than '..Said'. Prove '..Said' where nothing that the law and all that it calls make is longer than what came in: it says more and counts as full. Else prove '..UptoSaid'. A law counts once. -/
mutual
def uptoBulk {H : Type} : DataW H → Nat
  | .lit (.string bytes) => bytes.length + 1
  | .lit _ => 1
  | .nil => 1
  | .ptr d => uptoBulk d + 1
  | .slice elems spare => uptoBulkAll elems + uptoBulkAll spare + 1
  | .agg parts => uptoBulkAll parts + 1
  | .iface _ d => uptoBulk d + 1
  | .map entries => uptoBulkEntries entries + 1
  | .held _ => 1
def uptoBulkAll {H : Type} : List (DataW H) → Nat
  | [] => 0
  | d :: r => uptoBulk d + uptoBulkAll r
def uptoBulkEntries {H : Type} : List (Lit × DataW H) → Nat
  | [] => 0
  | x :: r => uptoBulkEntry x + uptoBulkEntries r
def uptoBulkEntry {H : Type} : Lit × DataW H → Nat
  | (.string bytes, d) => bytes.length + uptoBulk d + 1
  | (_, d) => uptoBulk d + 1
 end
def uptoSmall : (H : Type) → List (DataW H) → Bool := fun _ ds => decide (uptoBulkAll ds ≤ 1048576)
def OpenSpec.upto (s : _root_.Go.ChangeSpec) : _root_.Go.OpenSpec := { _root_.Go.OpenSpec.ofChange s with cond := some uptoSmall }

/-- 'ashlarlaw06.NormTells', WHERE WHAT IT READS IS OF BULK AT MOST 1048576: true; the input reads as it did. -/
def normTellsUptoRow : OpenClaim := { program := "ytlonmopppgadgaadoor", sum := "04b72145c1721f68301660d8532ee4dd0c553f0324ec648941cc4da82da9a70e", func := "ashlar/ashlarlaw06.NormTells", spec := "normTells", inPlace := ["internal/bytealg.IndexByteString", "internal/bytealg.IndexString"], unfollowed := true, recurses := true, named := ["unicode/utf8.first", "unicode/utf8.acceptRanges", "internal/bytealg.MaxLen"], loops := true, plainKeys := false, apart := false, laid := [("unicode/utf8.acceptRanges", laid_unicode_utf8_acceptRanges), ("unicode/utf8.first", laid_unicode_utf8_first)], narrowed := true }
def NormTellsUptoSaid : Prop := normTellsUptoRow.holds Tryd.pinned (OpenSpec.upto normTellsSpec)

/-- 'ashlarlaw06.NormAgain', WHERE WHAT IT READS IS OF BULK AT MOST 1048576: true; the input reads as it did. -/
def normAgainUptoRow : OpenClaim := { program := "ytlonmopppgadgaadoor", sum := "04b72145c1721f68301660d8532ee4dd0c553f0324ec648941cc4da82da9a70e", func := "ashlar/ashlarlaw06.NormAgain", spec := "normAgain", inPlace := ["internal/bytealg.IndexByteString", "internal/bytealg.IndexString"], unfollowed := true, recurses := true, named := ["unicode/utf8.first", "unicode/utf8.acceptRanges", "internal/bytealg.MaxLen"], loops := true, plainKeys := false, apart := false, laid := [("unicode/utf8.acceptRanges", laid_unicode_utf8_acceptRanges), ("unicode/utf8.first", laid_unicode_utf8_first)], narrowed := true }
def NormAgainUptoSaid : Prop := normAgainUptoRow.holds Tryd.pinned (OpenSpec.upto normAgainSpec)

/-- 'ashlarlaw06.NormTurned', WHERE WHAT IT READS IS OF BULK AT MOST 1048576: true; the input reads as it did. -/
def normTurnedUptoRow : OpenClaim := { program := "ytlonmopppgadgaadoor", sum := "04b72145c1721f68301660d8532ee4dd0c553f0324ec648941cc4da82da9a70e", func := "ashlar/ashlarlaw06.NormTurned", spec := "normTurned", inPlace := ["internal/bytealg.IndexByteString", "internal/bytealg.IndexString"], unfollowed := true, recurses := true, named := ["unicode/utf8.first", "unicode/utf8.acceptRanges", "internal/bytealg.MaxLen"], loops := true, plainKeys := false, apart := false, laid := [("unicode/utf8.acceptRanges", laid_unicode_utf8_acceptRanges), ("unicode/utf8.first", laid_unicode_utf8_first)], narrowed := true }
def NormTurnedUptoSaid : Prop := normTurnedUptoRow.holds Tryd.pinned (OpenSpec.upto normTurnedSpec)

/-- 'ashlarlaw04.EvalBig', WHERE WHAT IT READS IS OF BULK AT MOST 1048576: true; the input reads as it did. -/
def evalBigUptoRow : OpenClaim := { program := "ytlonmopppgadgaadoor", sum := "04b72145c1721f68301660d8532ee4dd0c553f0324ec648941cc4da82da9a70e", func := "ashlar/ashlarlaw04.EvalBig", spec := "evalBig", inPlace := ["internal/bytealg.IndexByteString", "internal/bytealg.IndexString", "math/bits.Add64", "math/bits.Sub64"], unfollowed := true, recurses := true, named := ["unicode/utf8.first", "unicode/utf8.acceptRanges", "internal/bytealg.MaxLen"], plainKeys := false, apart := false, laid := [("unicode/utf8.acceptRanges", laid_unicode_utf8_acceptRanges), ("unicode/utf8.first", laid_unicode_utf8_first)], narrowed := true }
def EvalBigUptoSaid : Prop := evalBigUptoRow.holds Tryd.pinned (OpenSpec.upto evalBigSpec)

/-- 'ashlarlaw04.EvalTurned', WHERE WHAT IT READS IS OF BULK AT MOST 1048576: true; the input reads as it did. -/
def evalTurnedUptoRow : OpenClaim := { program := "ytlonmopppgadgaadoor", sum := "04b72145c1721f68301660d8532ee4dd0c553f0324ec648941cc4da82da9a70e", func := "ashlar/ashlarlaw04.EvalTurned", spec := "evalTurned", inPlace := ["internal/bytealg.IndexByteString", "internal/bytealg.IndexString", "math/bits.Add64", "math/bits.Sub64"], unfollowed := true, recurses := true, named := ["unicode/utf8.first", "unicode/utf8.acceptRanges", "internal/bytealg.MaxLen"], loops := true, plainKeys := false, apart := false, laid := [("unicode/utf8.acceptRanges", laid_unicode_utf8_acceptRanges), ("unicode/utf8.first", laid_unicode_utf8_first)], narrowed := true }
def EvalTurnedUptoSaid : Prop := evalTurnedUptoRow.holds Tryd.pinned (OpenSpec.upto evalTurnedSpec)

/-- 'ashlarlaw04.EvalWith', WHERE WHAT IT READS IS OF BULK AT MOST 1048576: true; the input reads as it did. -/
def evalWithUptoRow : OpenClaim := { program := "ytlonmopppgadgaadoor", sum := "04b72145c1721f68301660d8532ee4dd0c553f0324ec648941cc4da82da9a70e", func := "ashlar/ashlarlaw04.EvalWith", spec := "evalWith", inPlace := ["internal/bytealg.IndexByteString", "internal/bytealg.IndexString", "math/bits.Add64", "math/bits.Sub64"], unfollowed := true, recurses := true, named := ["unicode/utf8.first", "unicode/utf8.acceptRanges", "internal/bytealg.MaxLen"], plainKeys := false, apart := false, laid := [("unicode/utf8.acceptRanges", laid_unicode_utf8_acceptRanges), ("unicode/utf8.first", laid_unicode_utf8_first)], narrowed := true }
def EvalWithUptoSaid : Prop := evalWithUptoRow.holds Tryd.pinned (OpenSpec.upto evalWithSpec)

/-- 'ashlarlaw04.EvalLaws', WHERE WHAT IT READS IS OF BULK AT MOST 1048576: true; the input reads as it did. -/
def evalLawsUptoRow : OpenClaim := { program := "ytlonmopppgadgaadoor", sum := "04b72145c1721f68301660d8532ee4dd0c553f0324ec648941cc4da82da9a70e", func := "ashlar/ashlarlaw04.EvalLaws", spec := "evalLaws", inPlace := ["internal/bytealg.IndexByteString", "internal/bytealg.IndexString", "math/bits.Add64", "math/bits.Sub64"], unfollowed := true, recurses := true, named := ["unicode/utf8.first", "unicode/utf8.acceptRanges", "internal/bytealg.MaxLen"], loops := true, plainKeys := false, apart := false, laid := [("unicode/utf8.acceptRanges", laid_unicode_utf8_acceptRanges), ("unicode/utf8.first", laid_unicode_utf8_first)], narrowed := true }
def EvalLawsUptoSaid : Prop := evalLawsUptoRow.holds Tryd.pinned (OpenSpec.upto evalLawsSpec)

/-- 'ashlarlaw06.NormValues', WHERE WHAT IT READS IS OF BULK AT MOST 1048576: true; the input reads as it did. -/
def normValuesUptoRow : OpenClaim := { program := "ytlonmopppgadgaadoor", sum := "04b72145c1721f68301660d8532ee4dd0c553f0324ec648941cc4da82da9a70e", func := "ashlar/ashlarlaw06.NormValues", spec := "normValues", inPlace := ["internal/bytealg.IndexByteString", "internal/bytealg.IndexString", "math/bits.Add64", "math/bits.Sub64"], unfollowed := true, recurses := true, named := ["unicode/utf8.first", "unicode/utf8.acceptRanges", "internal/bytealg.MaxLen"], loops := true, plainKeys := false, apart := false, laid := [("unicode/utf8.acceptRanges", laid_unicode_utf8_acceptRanges), ("unicode/utf8.first", laid_unicode_utf8_first)], narrowed := true }
def NormValuesUptoSaid : Prop := normValuesUptoRow.holds Tryd.pinned (OpenSpec.upto normValuesSpec)

/-- 'ashlarlaw03.TermTells', WHERE WHAT IT READS IS OF BULK AT MOST 1048576: true; the input reads as it did. -/
def termTellsUptoRow : OpenClaim := { program := "ytlonmopppgadgaadoor", sum := "04b72145c1721f68301660d8532ee4dd0c553f0324ec648941cc4da82da9a70e", func := "ashlar/ashlarlaw03.TermTells", spec := "termTells", inPlace := ["internal/bytealg.IndexByteString", "internal/bytealg.IndexString"], unfollowed := true, recurses := true, named := ["unicode/utf8.first", "unicode/utf8.acceptRanges", "internal/bytealg.MaxLen"], loops := true, plainKeys := false, apart := false, laid := [("unicode/utf8.acceptRanges", laid_unicode_utf8_acceptRanges), ("unicode/utf8.first", laid_unicode_utf8_first)], narrowed := true }
def TermTellsUptoSaid : Prop := termTellsUptoRow.holds Tryd.pinned (OpenSpec.upto termTellsSpec)

/-- 'ashlarlaw03.TermParts', WHERE WHAT IT READS IS OF BULK AT MOST 1048576: true; the input reads as it did. -/
def termPartsUptoRow : OpenClaim := { program := "ytlonmopppgadgaadoor", sum := "04b72145c1721f68301660d8532ee4dd0c553f0324ec648941cc4da82da9a70e", func := "ashlar/ashlarlaw03.TermParts", spec := "termParts", inPlace := ["internal/bytealg.IndexByteString", "internal/bytealg.IndexString"], unfollowed := true, recurses := true, named := ["unicode/utf8.first", "unicode/utf8.acceptRanges", "internal/bytealg.MaxLen"], loops := true, plainKeys := false, apart := false, laid := [("unicode/utf8.acceptRanges", laid_unicode_utf8_acceptRanges), ("unicode/utf8.first", laid_unicode_utf8_first)], narrowed := true }
def TermPartsUptoSaid : Prop := termPartsUptoRow.holds Tryd.pinned (OpenSpec.upto termPartsSpec)

/-- 'ashlarlaw03.TermJoins', WHERE WHAT IT READS IS OF BULK AT MOST 1048576: true; the input reads as it did. -/
def termJoinsUptoRow : OpenClaim := { program := "ytlonmopppgadgaadoor", sum := "04b72145c1721f68301660d8532ee4dd0c553f0324ec648941cc4da82da9a70e", func := "ashlar/ashlarlaw03.TermJoins", spec := "termJoins", inPlace := ["internal/bytealg.IndexByteString", "internal/bytealg.IndexString"], unfollowed := true, recurses := true, named := ["unicode/utf8.first", "unicode/utf8.acceptRanges", "internal/bytealg.MaxLen"], loops := true, plainKeys := false, apart := false, laid := [("unicode/utf8.acceptRanges", laid_unicode_utf8_acceptRanges), ("unicode/utf8.first", laid_unicode_utf8_first)], narrowed := true }
def TermJoinsUptoSaid : Prop := termJoinsUptoRow.holds Tryd.pinned (OpenSpec.upto termJoinsSpec)

/-- 'ashlarlaw03.TermNames', WHERE WHAT IT READS IS OF BULK AT MOST 1048576: true; the input reads as it did. -/
def termNamesUptoRow : OpenClaim := { program := "ytlonmopppgadgaadoor", sum := "04b72145c1721f68301660d8532ee4dd0c553f0324ec648941cc4da82da9a70e", func := "ashlar/ashlarlaw03.TermNames", spec := "termNames", inPlace := ["internal/bytealg.IndexByteString", "internal/bytealg.IndexString"], unfollowed := true, recurses := true, named := ["unicode/utf8.first", "unicode/utf8.acceptRanges", "internal/bytealg.MaxLen"], loops := true, plainKeys := false, apart := false, laid := [("unicode/utf8.acceptRanges", laid_unicode_utf8_acceptRanges), ("unicode/utf8.first", laid_unicode_utf8_first)], narrowed := true }
def TermNamesUptoSaid : Prop := termNamesUptoRow.holds Tryd.pinned (OpenSpec.upto termNamesSpec)

/-- 'ashlarlaw03.TermWraps', WHERE WHAT IT READS IS OF BULK AT MOST 1048576: true; the input reads as it did. -/
def termWrapsUptoRow : OpenClaim := { program := "ytlonmopppgadgaadoor", sum := "04b72145c1721f68301660d8532ee4dd0c553f0324ec648941cc4da82da9a70e", func := "ashlar/ashlarlaw03.TermWraps", spec := "termWraps", inPlace := ["internal/bytealg.IndexByteString", "internal/bytealg.IndexString"], unfollowed := true, recurses := true, named := ["unicode/utf8.first", "unicode/utf8.acceptRanges", "internal/bytealg.MaxLen"], loops := true, plainKeys := false, apart := false, laid := [("unicode/utf8.acceptRanges", laid_unicode_utf8_acceptRanges), ("unicode/utf8.first", laid_unicode_utf8_first)], narrowed := true }
def TermWrapsUptoSaid : Prop := termWrapsUptoRow.holds Tryd.pinned (OpenSpec.upto termWrapsSpec)

/-- 'ashlarlaw06.NormNames', WHERE WHAT IT READS IS OF BULK AT MOST 1048576: true; the input reads as it did. -/
def normNamesUptoRow : OpenClaim := { program := "ytlonmopppgadgaadoor", sum := "04b72145c1721f68301660d8532ee4dd0c553f0324ec648941cc4da82da9a70e", func := "ashlar/ashlarlaw06.NormNames", spec := "normNames", inPlace := ["internal/bytealg.IndexByteString", "internal/bytealg.IndexString"], unfollowed := true, recurses := true, named := ["unicode/utf8.first", "unicode/utf8.acceptRanges", "internal/bytealg.MaxLen"], loops := true, plainKeys := false, apart := false, laid := [("unicode/utf8.acceptRanges", laid_unicode_utf8_acceptRanges), ("unicode/utf8.first", laid_unicode_utf8_first)], narrowed := true }
def NormNamesUptoSaid : Prop := normNamesUptoRow.holds Tryd.pinned (OpenSpec.upto normNamesSpec)

end Rows
end Go.Proofs.YtlonmopppgadgaaDoor
