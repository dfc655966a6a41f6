/-
  NARROWER THAN 'FOR EVERY INPUT', by the rows' own cells (each row's printed sentence says how): VennTells: loops, laid · VennBase: loops, laid · VennTurned: loops, laid · VennAdds: loops, laid · VennRegions: loops, laid · VennHolds: loops, laid.
  DERIVED. THE GIVEN ROWS OF THIS SEAT. 6 by the template 'for every input the law returns true; each argument reads behind the call as it read before'; 0 by the template 'total and deterministic' (their statements: YtokpeggkofjclaaGreatDoorTotals.lean).
  GIVEN WITH THE SEED: the statements are not yours to turn. If you find one false, say at which input.
  Laid BY PROGRAM, IN A SANDBOX (cutbox-rows.mjs): the forced cells as the released guide's own fill.sh prints them over the translation 8dd4a9234345165b… (all of the seat's roots in one cut). By AI agents, Wed Nov 11 2026. No macro, syntax, notation, axiom, sorry.
-/
import Derived.Test.YtokpeggkofjclaaGreatDoorChecked
import GoSem.PinnedTables
import GoSem.Claim
import GoSem.ClaimJoined
import GoSem.ClaimMapViews
import Derived.JoinedTies
import Derived.KernelRfl
namespace Go.Proofs.YtokpeggkofjclaaGreatDoor
/- THE CELL 'sum', in the pinned program and in every row, IS THE sha256 OF THE DUMP (.gsa) THAT YtokpeggkofjclaaGreatDoorProg.lean LOADS. Nothing in Lean hashes anything: it is a label: what it is worth is what the hold of that sum in a sandbox is worth. -/
noncomputable def Tryz.pinned : Pinned := { name := "ytokpeggkofjclaagreatdoor", sum := "8dd4a9234345165b0f0cc27745767306a991395f33198494649419e700018273", checked := Tryz.checked }
namespace Rows
def none {H : Type} : Left H := { results := [], args := [] }

/- WHAT THE LISTED PACKAGE-LEVEL VARIABLES READ AS WHEN THE CALL BEGINS. Each datum BY PROGRAM (the guide's laid-datum.mjs) off the statement by which the dump's own 'gosem.cut.vars' lays the variable. In a bare row this is a premise. The card (YtokpeggkofjclaaGreatDoorCards.lean) ties it to the program's text. -/
def laid_unicode_utf8_acceptRanges {H : Type} : DataW H := .agg [.agg [.lit (.int .u8 128), .lit (.int .u8 191)], .agg [.lit (.int .u8 160), .lit (.int .u8 191)], .agg [.lit (.int .u8 128), .lit (.int .u8 159)], .agg [.lit (.int .u8 144), .lit (.int .u8 191)], .agg [.lit (.int .u8 128), .lit (.int .u8 143)], .agg [.lit (.int .u8 0), .lit (.int .u8 0)], .agg [.lit (.int .u8 0), .lit (.int .u8 0)], .agg [.lit (.int .u8 0), .lit (.int .u8 0)], .agg [.lit (.int .u8 0), .lit (.int .u8 0)], .agg [.lit (.int .u8 0), .lit (.int .u8 0)], .agg [.lit (.int .u8 0), .lit (.int .u8 0)], .agg [.lit (.int .u8 0), .lit (.int .u8 0)], .agg [.lit (.int .u8 0), .lit (.int .u8 0)], .agg [.lit (.int .u8 0), .lit (.int .u8 0)], .agg [.lit (.int .u8 0), .lit (.int .u8 0)], .agg [.lit (.int .u8 0), .lit (.int .u8 0)]]
/-- One of Go's own tables, pinned by name: the form's constant. -/
def laid_unicode_utf8_first : DataW Unit := Go.Pinned.utf8First

/-- 'ashlarlaw13.VennTells': WHATEVER THE INPUT: true; the input reads as it did. -/
def vennTellsSpec : ChangeSpec := { name := "vennTells", fn := fun _ => fun
  | [d1, d2, d3, d4, d5] => { results := [.lit (.bool true)], args := [d1, d2, d3, d4, d5] }
  | _ => none }
def vennTellsRow : OpenClaim := { program := "ytokpeggkofjclaagreatdoor", sum := "8dd4a9234345165b0f0cc27745767306a991395f33198494649419e700018273", func := "ashlar/ashlarlaw13.VennTells", spec := "vennTells", inPlace := ["internal/bytealg.IndexByteString", "internal/bytealg.IndexString", "math/bits.Add64", "math/bits.Sub64"], unfollowed := true, recurses := true, named := ["unicode/utf8.first", "unicode/utf8.acceptRanges", "internal/bytealg.MaxLen"], loops := true, plainKeys := false, apart := false, laid := [("unicode/utf8.acceptRanges", laid_unicode_utf8_acceptRanges), ("unicode/utf8.first", laid_unicode_utf8_first)] }
def VennTellsSaid : Prop := vennTellsRow.holds Tryz.pinned (OpenSpec.ofChange vennTellsSpec)

/-- ITS FALSE NEIGHBOUR: 'it returns false'. Refute it at one input. -/
def vennTellsWrong : ChangeSpec := { name := "vennTells", fn := fun _ => fun
  | [d1, d2, d3, d4, d5] => { results := [.lit (.bool false)], args := [d1, d2, d3, d4, d5] }
  | _ => none }
def VennTellsWrongFalsely : Prop := vennTellsRow.holds Tryz.pinned (OpenSpec.ofChange vennTellsWrong)

/-- 'ashlarlaw13.VennBase': WHATEVER THE INPUT: true; the input reads as it did. -/
def vennBaseSpec : ChangeSpec := { name := "vennBase", fn := fun _ => fun
  | [d1, d2] => { results := [.lit (.bool true)], args := [d1, d2] }
  | _ => none }
def vennBaseRow : OpenClaim := { program := "ytokpeggkofjclaagreatdoor", sum := "8dd4a9234345165b0f0cc27745767306a991395f33198494649419e700018273", func := "ashlar/ashlarlaw13.VennBase", spec := "vennBase", inPlace := ["internal/bytealg.IndexByteString", "internal/bytealg.IndexString", "math/bits.Add64", "math/bits.Sub64"], unfollowed := true, recurses := true, named := ["unicode/utf8.first", "unicode/utf8.acceptRanges", "internal/bytealg.MaxLen"], loops := true, plainKeys := false, apart := false, laid := [("unicode/utf8.acceptRanges", laid_unicode_utf8_acceptRanges), ("unicode/utf8.first", laid_unicode_utf8_first)] }
def VennBaseSaid : Prop := vennBaseRow.holds Tryz.pinned (OpenSpec.ofChange vennBaseSpec)

/-- ITS FALSE NEIGHBOUR: 'it returns false'. Refute it at one input. -/
def vennBaseWrong : ChangeSpec := { name := "vennBase", fn := fun _ => fun
  | [d1, d2] => { results := [.lit (.bool false)], args := [d1, d2] }
  | _ => none }
def VennBaseWrongFalsely : Prop := vennBaseRow.holds Tryz.pinned (OpenSpec.ofChange vennBaseWrong)

/-- 'ashlarlaw13.VennTurned': WHATEVER THE INPUT: true; the input reads as it did. -/
def vennTurnedSpec : ChangeSpec := { name := "vennTurned", fn := fun _ => fun
  | [d] => { results := [.lit (.bool true)], args := [d] }
  | _ => none }
def vennTurnedRow : OpenClaim := { program := "ytokpeggkofjclaagreatdoor", sum := "8dd4a9234345165b0f0cc27745767306a991395f33198494649419e700018273", func := "ashlar/ashlarlaw13.VennTurned", spec := "vennTurned", inPlace := ["internal/bytealg.IndexByteString", "internal/bytealg.IndexString", "math/bits.Add64", "math/bits.Sub64"], unfollowed := true, recurses := true, named := ["unicode/utf8.first", "unicode/utf8.acceptRanges", "internal/bytealg.MaxLen"], loops := true, plainKeys := false, apart := false, laid := [("unicode/utf8.acceptRanges", laid_unicode_utf8_acceptRanges), ("unicode/utf8.first", laid_unicode_utf8_first)] }
def VennTurnedSaid : Prop := vennTurnedRow.holds Tryz.pinned (OpenSpec.ofChange vennTurnedSpec)

/-- ITS FALSE NEIGHBOUR: 'it returns false'. Refute it at one input. -/
def vennTurnedWrong : ChangeSpec := { name := "vennTurned", fn := fun _ => fun
  | [d] => { results := [.lit (.bool false)], args := [d] }
  | _ => none }
def VennTurnedWrongFalsely : Prop := vennTurnedRow.holds Tryz.pinned (OpenSpec.ofChange vennTurnedWrong)

/-- 'ashlarlaw13.VennAdds': WHATEVER THE INPUT: true; the input reads as it did. -/
def vennAddsSpec : ChangeSpec := { name := "vennAdds", fn := fun _ => fun
  | [d1, d2] => { results := [.lit (.bool true)], args := [d1, d2] }
  | _ => none }
def vennAddsRow : OpenClaim := { program := "ytokpeggkofjclaagreatdoor", sum := "8dd4a9234345165b0f0cc27745767306a991395f33198494649419e700018273", func := "ashlar/ashlarlaw13.VennAdds", spec := "vennAdds", inPlace := ["internal/bytealg.IndexByteString", "internal/bytealg.IndexString", "math/bits.Add64", "math/bits.Sub64"], unfollowed := true, recurses := true, named := ["unicode/utf8.first", "unicode/utf8.acceptRanges", "internal/bytealg.MaxLen"], loops := true, plainKeys := false, apart := false, laid := [("unicode/utf8.acceptRanges", laid_unicode_utf8_acceptRanges), ("unicode/utf8.first", laid_unicode_utf8_first)] }
def VennAddsSaid : Prop := vennAddsRow.holds Tryz.pinned (OpenSpec.ofChange vennAddsSpec)

/-- ITS FALSE NEIGHBOUR: 'it returns false'. Refute it at one input. -/
def vennAddsWrong : ChangeSpec := { name := "vennAdds", fn := fun _ => fun
  | [d1, d2] => { results := [.lit (.bool false)], args := [d1, d2] }
  | _ => none }
def VennAddsWrongFalsely : Prop := vennAddsRow.holds Tryz.pinned (OpenSpec.ofChange vennAddsWrong)

/-- 'ashlarlaw13.VennRegions': WHATEVER THE INPUT: true; the input reads as it did. -/
def vennRegionsSpec : ChangeSpec := { name := "vennRegions", fn := fun _ => fun
  | [d1, d2] => { results := [.lit (.bool true)], args := [d1, d2] }
  | _ => none }
def vennRegionsRow : OpenClaim := { program := "ytokpeggkofjclaagreatdoor", sum := "8dd4a9234345165b0f0cc27745767306a991395f33198494649419e700018273", func := "ashlar/ashlarlaw13.VennRegions", spec := "vennRegions", inPlace := ["internal/bytealg.IndexByteString", "internal/bytealg.IndexString", "math/bits.Add64", "math/bits.Sub64"], unfollowed := true, recurses := true, named := ["unicode/utf8.first", "unicode/utf8.acceptRanges", "internal/bytealg.MaxLen"], loops := true, plainKeys := false, apart := false, laid := [("unicode/utf8.acceptRanges", laid_unicode_utf8_acceptRanges), ("unicode/utf8.first", laid_unicode_utf8_first)] }
def VennRegionsSaid : Prop := vennRegionsRow.holds Tryz.pinned (OpenSpec.ofChange vennRegionsSpec)

/-- ITS FALSE NEIGHBOUR: 'it returns false'. Refute it at one input. -/
def vennRegionsWrong : ChangeSpec := { name := "vennRegions", fn := fun _ => fun
  | [d1, d2] => { results := [.lit (.bool false)], args := [d1, d2] }
  | _ => none }
def VennRegionsWrongFalsely : Prop := vennRegionsRow.holds Tryz.pinned (OpenSpec.ofChange vennRegionsWrong)

/-- 'ashlarlaw13.VennHolds': WHATEVER THE INPUT: true; the input reads as it did. -/
def vennHoldsSpec : ChangeSpec := { name := "vennHolds", fn := fun _ => fun
  | [d1, d2, d3] => { results := [.lit (.bool true)], args := [d1, d2, d3] }
  | _ => none }
def vennHoldsRow : OpenClaim := { program := "ytokpeggkofjclaagreatdoor", sum := "8dd4a9234345165b0f0cc27745767306a991395f33198494649419e700018273", func := "ashlar/ashlarlaw13.VennHolds", spec := "vennHolds", inPlace := ["internal/bytealg.IndexByteString", "internal/bytealg.IndexString", "math/bits.Add64", "math/bits.Sub64"], unfollowed := true, recurses := true, named := ["unicode/utf8.first", "unicode/utf8.acceptRanges", "internal/bytealg.MaxLen"], loops := true, plainKeys := false, apart := false, laid := [("unicode/utf8.acceptRanges", laid_unicode_utf8_acceptRanges), ("unicode/utf8.first", laid_unicode_utf8_first)] }
def VennHoldsSaid : Prop := vennHoldsRow.holds Tryz.pinned (OpenSpec.ofChange vennHoldsSpec)

/-- ITS FALSE NEIGHBOUR: 'it returns false'. Refute it at one input. -/
def vennHoldsWrong : ChangeSpec := { name := "vennHolds", fn := fun _ => fun
  | [d1, d2, d3] => { results := [.lit (.bool false)], args := [d1, d2, d3] }
  | _ => none }
def VennHoldsWrongFalsely : Prop := vennHoldsRow.holds Tryz.pinned (OpenSpec.ofChange vennHoldsWrong)

/- THE SECOND FORM. 'bulk': how many values and letters a reading holds, each counted each time it is reached (what is shared counts as often as it is met; a slice's spare places count too). A statement '..UptoSaid' is the law's where the arguments, and the package variables that the reading takes, are together of bulk at most 1048576: NARROWER than '..Said'. Prove '..Said' where nothing that the law and all that it calls make is longer than what came in: it says more and counts as full. Else prove '..UptoSaid'. A law counts once. -/
mutual
def uptoBulk {H : Type} : DataW H → Nat
  | .lit (.string bytes) => bytes.length + 1
  | .lit _ => 1
  | .nil => 1
  | .ptr d => uptoBulk d + 1
  | .slice elems spare => uptoBulkAll elems + uptoBulkAll spare + 1
  | .agg parts => uptoBulkAll parts + 1
  | .iface _ d => uptoBulk d + 1
  | .map entries => uptoBulkEntries entries + 1
  | .held _ => 1
def uptoBulkAll {H : Type} : List (DataW H) → Nat
  | [] => 0
  | d :: r => uptoBulk d + uptoBulkAll r
def uptoBulkEntries {H : Type} : List (Lit × DataW H) → Nat
  | [] => 0
  | x :: r => uptoBulkEntry x + uptoBulkEntries r
def uptoBulkEntry {H : Type} : Lit × DataW H → Nat
  | (.string bytes, d) => bytes.length + uptoBulk d + 1
  | (_, d) => uptoBulk d + 1
 end
def uptoSmall : (H : Type) → List (DataW H) → Bool := fun _ ds => decide (uptoBulkAll ds ≤ 1048576)
def OpenSpec.upto (s : _root_.Go.ChangeSpec) : _root_.Go.OpenSpec := { _root_.Go.OpenSpec.ofChange s with cond := some uptoSmall }

/-- 'ashlarlaw13.VennTells', WHERE WHAT IT READS IS OF BULK AT MOST 1048576: true; the input reads as it did. -/
def vennTellsUptoRow : OpenClaim := { program := "ytokpeggkofjclaagreatdoor", sum := "8dd4a9234345165b0f0cc27745767306a991395f33198494649419e700018273", func := "ashlar/ashlarlaw13.VennTells", spec := "vennTells", inPlace := ["internal/bytealg.IndexByteString", "internal/bytealg.IndexString", "math/bits.Add64", "math/bits.Sub64"], unfollowed := true, recurses := true, named := ["unicode/utf8.first", "unicode/utf8.acceptRanges", "internal/bytealg.MaxLen"], loops := true, plainKeys := false, apart := false, laid := [("unicode/utf8.acceptRanges", laid_unicode_utf8_acceptRanges), ("unicode/utf8.first", laid_unicode_utf8_first)], narrowed := true }
def VennTellsUptoSaid : Prop := vennTellsUptoRow.holds Tryz.pinned (OpenSpec.upto vennTellsSpec)

/-- 'ashlarlaw13.VennBase', WHERE WHAT IT READS IS OF BULK AT MOST 1048576: true; the input reads as it did. -/
def vennBaseUptoRow : OpenClaim := { program := "ytokpeggkofjclaagreatdoor", sum := "8dd4a9234345165b0f0cc27745767306a991395f33198494649419e700018273", func := "ashlar/ashlarlaw13.VennBase", spec := "vennBase", inPlace := ["internal/bytealg.IndexByteString", "internal/bytealg.IndexString", "math/bits.Add64", "math/bits.Sub64"], unfollowed := true, recurses := true, named := ["unicode/utf8.first", "unicode/utf8.acceptRanges", "internal/bytealg.MaxLen"], loops := true, plainKeys := false, apart := false, laid := [("unicode/utf8.acceptRanges", laid_unicode_utf8_acceptRanges), ("unicode/utf8.first", laid_unicode_utf8_first)], narrowed := true }
def VennBaseUptoSaid : Prop := vennBaseUptoRow.holds Tryz.pinned (OpenSpec.upto vennBaseSpec)

/-- 'ashlarlaw13.VennTurned', WHERE WHAT IT READS IS OF BULK AT MOST 1048576: true; the input reads as it did. -/
def vennTurnedUptoRow : OpenClaim := { program := "ytokpeggkofjclaagreatdoor", sum := "8dd4a9234345165b0f0cc27745767306a991395f33198494649419e700018273", func := "ashlar/ashlarlaw13.VennTurned", spec := "vennTurned", inPlace := ["internal/bytealg.IndexByteString", "internal/bytealg.IndexString", "math/bits.Add64", "math/bits.Sub64"], unfollowed := true, recurses := true, named := ["unicode/utf8.first", "unicode/utf8.acceptRanges", "internal/bytealg.MaxLen"], loops := true, plainKeys := false, apart := false, laid := [("unicode/utf8.acceptRanges", laid_unicode_utf8_acceptRanges), ("unicode/utf8.first", laid_unicode_utf8_first)], narrowed := true }
def VennTurnedUptoSaid : Prop := vennTurnedUptoRow.holds Tryz.pinned (OpenSpec.upto vennTurnedSpec)

/-- 'ashlarlaw13.VennAdds', WHERE WHAT IT READS IS OF BULK AT MOST 1048576: true; the input reads as it did. -/
def vennAddsUptoRow : OpenClaim := { program := "ytokpeggkofjclaagreatdoor", sum := "8dd4a9234345165b0f0cc27745767306a991395f33198494649419e700018273", func := "ashlar/ashlarlaw13.VennAdds", spec := "vennAdds", inPlace := ["internal/bytealg.IndexByteString", "internal/bytealg.IndexString", "math/bits.Add64", "math/bits.Sub64"], unfollowed := true, recurses := true, named := ["unicode/utf8.first", "unicode/utf8.acceptRanges", "internal/bytealg.MaxLen"], loops := true, plainKeys := false, apart := false, laid := [("unicode/utf8.acceptRanges", laid_unicode_utf8_acceptRanges), ("unicode/utf8.first", laid_unicode_utf8_first)], narrowed := true }
def VennAddsUptoSaid : Prop := vennAddsUptoRow.holds Tryz.pinned (OpenSpec.upto vennAddsSpec)

/-- 'ashlarlaw13.VennRegions', WHERE WHAT IT READS IS OF BULK AT MOST 1048576: true; the input reads as it did. -/
def vennRegionsUptoRow : OpenClaim := { program := "ytokpeggkofjclaagreatdoor", sum := "8dd4a9234345165b0f0cc27745767306a991395f33198494649419e700018273", func := "ashlar/ashlarlaw13.VennRegions", spec := "vennRegions", inPlace := ["internal/bytealg.IndexByteString", "internal/bytealg.IndexString", "math/bits.Add64", "math/bits.Sub64"], unfollowed := true, recurses := true, named := ["unicode/utf8.first", "unicode/utf8.acceptRanges", "internal/bytealg.MaxLen"], loops := true, plainKeys := false, apart := false, laid := [("unicode/utf8.acceptRanges", laid_unicode_utf8_acceptRanges), ("unicode/utf8.first", laid_unicode_utf8_first)], narrowed := true }
def VennRegionsUptoSaid : Prop := vennRegionsUptoRow.holds Tryz.pinned (OpenSpec.upto vennRegionsSpec)

/-- 'ashlarlaw13.VennHolds', WHERE WHAT IT READS IS OF BULK AT MOST 1048576: true; the input reads as it did. -/
def vennHoldsUptoRow : OpenClaim := { program := "ytokpeggkofjclaagreatdoor", sum := "8dd4a9234345165b0f0cc27745767306a991395f33198494649419e700018273", func := "ashlar/ashlarlaw13.VennHolds", spec := "vennHolds", inPlace := ["internal/bytealg.IndexByteString", "internal/bytealg.IndexString", "math/bits.Add64", "math/bits.Sub64"], unfollowed := true, recurses := true, named := ["unicode/utf8.first", "unicode/utf8.acceptRanges", "internal/bytealg.MaxLen"], loops := true, plainKeys := false, apart := false, laid := [("unicode/utf8.acceptRanges", laid_unicode_utf8_acceptRanges), ("unicode/utf8.first", laid_unicode_utf8_first)], narrowed := true }
def VennHoldsUptoSaid : Prop := vennHoldsUptoRow.holds Tryz.pinned (OpenSpec.upto vennHoldsSpec)

end Rows
end Go.Proofs.YtokpeggkofjclaaGreatDoor
