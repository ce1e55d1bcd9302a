/-
  NARROWER THAN 'FOR EVERY INPUT', by the rows' own cells (each row's printed sentence says how): SupportDivisions: laid · SupportChains: laid · SupportPatents: laid · SupportErrors: laid · SupportEnds: laid · SupportVals: laid · SupportSums: laid · SupportPairs: laid.
  DERIVED. THE GIVEN ROWS OF THIS SEAT. 8 by the template 'for every input the law returns true; each argument reads behind the call as it read before'; 0 by the template 'total and deterministic' (their statements: YtiniigadkknboaaGreatDoorTotals.lean).
  GIVEN WITH THE SEED: the statements are not yours to turn. If you find one false, say at which input.
  Laid BY PROGRAM, IN A SANDBOX (cutbox-rows.mjs): the forced cells as the released guide's own fill.sh prints them over the translation abe3741a5090a12c… (all of the seat's roots in one cut). By AI agents, Wed Nov 11 2026. No macro, syntax, notation, axiom, sorry.
-/
import Derived.Test.YtiniigadkknboaaGreatDoorChecked
import GoSem.Claim
import GoSem.ClaimJoined
import GoSem.ClaimMapViews
import Derived.JoinedTies
import Derived.KernelRfl
namespace Go.Proofs.YtiniigadkknboaaGreatDoor
/- THE CELL 'sum', in the pinned program and in every row, IS THE sha256 OF THE DUMP (.gsa) THAT YtiniigadkknboaaGreatDoorProg.lean LOADS. Nothing in Lean hashes anything: it is a label: what it is worth is what the hold of that sum in a sandbox is worth. -/
noncomputable def Tryz.pinned : Pinned := { name := "ytiniigadkknboaagreatdoor", sum := "abe3741a5090a12c770a888838bb8c64e9076b46ca144429b419d6d754e6026e", checked := Tryz.checked }
namespace Rows
def none {H : Type} : Left H := { results := [], args := [] }

/- WHAT THE LISTED PACKAGE-LEVEL VARIABLES READ AS WHEN THE CALL BEGINS. Each datum BY PROGRAM (the guide's laid-datum.mjs) off the statement by which the dump's own 'gosem.cut.vars' lays the variable. In a bare row this is a premise. The card (YtiniigadkknboaaGreatDoorCards.lean) ties it to the program's text. -/
def laid_math_bits_deBruijn32tab {H : Type} : DataW H := .agg [.lit (.int .u8 0), .lit (.int .u8 1), .lit (.int .u8 28), .lit (.int .u8 2), .lit (.int .u8 29), .lit (.int .u8 14), .lit (.int .u8 24), .lit (.int .u8 3), .lit (.int .u8 30), .lit (.int .u8 22), .lit (.int .u8 20), .lit (.int .u8 15), .lit (.int .u8 25), .lit (.int .u8 17), .lit (.int .u8 4), .lit (.int .u8 8), .lit (.int .u8 31), .lit (.int .u8 27), .lit (.int .u8 13), .lit (.int .u8 23), .lit (.int .u8 21), .lit (.int .u8 19), .lit (.int .u8 16), .lit (.int .u8 7), .lit (.int .u8 26), .lit (.int .u8 12), .lit (.int .u8 18), .lit (.int .u8 6), .lit (.int .u8 11), .lit (.int .u8 5), .lit (.int .u8 10), .lit (.int .u8 9)]
def laid_math_bits_deBruijn64tab {H : Type} : DataW H := .agg [.lit (.int .u8 0), .lit (.int .u8 1), .lit (.int .u8 56), .lit (.int .u8 2), .lit (.int .u8 57), .lit (.int .u8 49), .lit (.int .u8 28), .lit (.int .u8 3), .lit (.int .u8 61), .lit (.int .u8 58), .lit (.int .u8 42), .lit (.int .u8 50), .lit (.int .u8 38), .lit (.int .u8 29), .lit (.int .u8 17), .lit (.int .u8 4), .lit (.int .u8 62), .lit (.int .u8 47), .lit (.int .u8 59), .lit (.int .u8 36), .lit (.int .u8 45), .lit (.int .u8 43), .lit (.int .u8 51), .lit (.int .u8 22), .lit (.int .u8 53), .lit (.int .u8 39), .lit (.int .u8 33), .lit (.int .u8 30), .lit (.int .u8 24), .lit (.int .u8 18), .lit (.int .u8 12), .lit (.int .u8 5), .lit (.int .u8 63), .lit (.int .u8 55), .lit (.int .u8 48), .lit (.int .u8 27), .lit (.int .u8 60), .lit (.int .u8 41), .lit (.int .u8 37), .lit (.int .u8 16), .lit (.int .u8 46), .lit (.int .u8 35), .lit (.int .u8 44), .lit (.int .u8 21), .lit (.int .u8 52), .lit (.int .u8 32), .lit (.int .u8 23), .lit (.int .u8 11), .lit (.int .u8 54), .lit (.int .u8 26), .lit (.int .u8 40), .lit (.int .u8 15), .lit (.int .u8 34), .lit (.int .u8 20), .lit (.int .u8 31), .lit (.int .u8 10), .lit (.int .u8 25), .lit (.int .u8 14), .lit (.int .u8 19), .lit (.int .u8 9), .lit (.int .u8 13), .lit (.int .u8 8), .lit (.int .u8 7), .lit (.int .u8 6)]
def laid_internal_strconv_uint64pow10 {H : Type} : DataW H := .agg [.lit (.int .u64 1), .lit (.int .u64 10), .lit (.int .u64 100), .lit (.int .u64 1000), .lit (.int .u64 10000), .lit (.int .u64 100000), .lit (.int .u64 1000000), .lit (.int .u64 10000000), .lit (.int .u64 100000000), .lit (.int .u64 1000000000), .lit (.int .u64 10000000000), .lit (.int .u64 100000000000), .lit (.int .u64 1000000000000), .lit (.int .u64 10000000000000), .lit (.int .u64 100000000000000), .lit (.int .u64 1000000000000000), .lit (.int .u64 10000000000000000), .lit (.int .u64 100000000000000000), .lit (.int .u64 1000000000000000000), .lit (.int .u64 10000000000000000000)]
def laid_strconv_ErrRange {H : Type} : DataW H := .iface "*errors.errorString" (.ptr (.agg [.lit (.string [118, 97, 108, 117, 101, 32, 111, 117, 116, 32, 111, 102, 32, 114, 97, 110, 103, 101])]))
def laid_strconv_ErrSyntax {H : Type} : DataW H := .iface "*errors.errorString" (.ptr (.agg [.lit (.string [105, 110, 118, 97, 108, 105, 100, 32, 115, 121, 110, 116, 97, 120])]))

/-- 'schismalaw22.SupportDivisions': WHATEVER THE INPUT: true; the input reads as it did. -/
def supportDivisionsSpec : ChangeSpec := { name := "supportDivisions", fn := fun _ => fun
  | [d1, d2, d3] => { results := [.lit (.bool true)], args := [d1, d2, d3] }
  | _ => none }
def supportDivisionsRow : OpenClaim := { program := "ytiniigadkknboaagreatdoor", sum := "abe3741a5090a12c770a888838bb8c64e9076b46ca144429b419d6d754e6026e", func := "schisma/schismalaw22.SupportDivisions", spec := "supportDivisions", unfollowed := true, recurses := true, named := ["internal/strconv.uint64pow10", "math/bits.deBruijn32tab", "math/bits.deBruijn64tab", "strconv.ErrSyntax", "strconv.ErrRange"], apart := false, laid := [("math/bits.deBruijn32tab", laid_math_bits_deBruijn32tab), ("math/bits.deBruijn64tab", laid_math_bits_deBruijn64tab), ("internal/strconv.uint64pow10", laid_internal_strconv_uint64pow10), ("strconv.ErrRange", laid_strconv_ErrRange), ("strconv.ErrSyntax", laid_strconv_ErrSyntax)] }
def SupportDivisionsSaid : Prop := supportDivisionsRow.holds Tryz.pinned (OpenSpec.ofChange supportDivisionsSpec)

/-- ITS FALSE NEIGHBOUR: 'it returns false'. Refute it at one input. -/
def supportDivisionsWrong : ChangeSpec := { name := "supportDivisions", fn := fun _ => fun
  | [d1, d2, d3] => { results := [.lit (.bool false)], args := [d1, d2, d3] }
  | _ => none }
def SupportDivisionsWrongFalsely : Prop := supportDivisionsRow.holds Tryz.pinned (OpenSpec.ofChange supportDivisionsWrong)

/-- 'schismalaw22.SupportChains': WHATEVER THE INPUT: true; the input reads as it did. -/
def supportChainsSpec : ChangeSpec := { name := "supportChains", fn := fun _ => fun
  | [d1, d2, d3] => { results := [.lit (.bool true)], args := [d1, d2, d3] }
  | _ => none }
def supportChainsRow : OpenClaim := { program := "ytiniigadkknboaagreatdoor", sum := "abe3741a5090a12c770a888838bb8c64e9076b46ca144429b419d6d754e6026e", func := "schisma/schismalaw22.SupportChains", spec := "supportChains", unfollowed := true, recurses := true, named := ["internal/strconv.uint64pow10", "math/bits.deBruijn32tab", "math/bits.deBruijn64tab", "strconv.ErrSyntax", "strconv.ErrRange"], apart := false, laid := [("math/bits.deBruijn32tab", laid_math_bits_deBruijn32tab), ("math/bits.deBruijn64tab", laid_math_bits_deBruijn64tab), ("internal/strconv.uint64pow10", laid_internal_strconv_uint64pow10), ("strconv.ErrRange", laid_strconv_ErrRange), ("strconv.ErrSyntax", laid_strconv_ErrSyntax)] }
def SupportChainsSaid : Prop := supportChainsRow.holds Tryz.pinned (OpenSpec.ofChange supportChainsSpec)

/-- ITS FALSE NEIGHBOUR: 'it returns false'. Refute it at one input. -/
def supportChainsWrong : ChangeSpec := { name := "supportChains", fn := fun _ => fun
  | [d1, d2, d3] => { results := [.lit (.bool false)], args := [d1, d2, d3] }
  | _ => none }
def SupportChainsWrongFalsely : Prop := supportChainsRow.holds Tryz.pinned (OpenSpec.ofChange supportChainsWrong)

/-- 'schismalaw22.SupportPatents': WHATEVER THE INPUT: true; the input reads as it did. -/
def supportPatentsSpec : ChangeSpec := { name := "supportPatents", fn := fun _ => fun
  | [d1, d2] => { results := [.lit (.bool true)], args := [d1, d2] }
  | _ => none }
def supportPatentsRow : OpenClaim := { program := "ytiniigadkknboaagreatdoor", sum := "abe3741a5090a12c770a888838bb8c64e9076b46ca144429b419d6d754e6026e", func := "schisma/schismalaw22.SupportPatents", spec := "supportPatents", unfollowed := true, recurses := true, named := ["internal/strconv.uint64pow10", "math/bits.deBruijn32tab", "math/bits.deBruijn64tab", "strconv.ErrSyntax", "strconv.ErrRange"], apart := false, laid := [("math/bits.deBruijn32tab", laid_math_bits_deBruijn32tab), ("math/bits.deBruijn64tab", laid_math_bits_deBruijn64tab), ("internal/strconv.uint64pow10", laid_internal_strconv_uint64pow10), ("strconv.ErrRange", laid_strconv_ErrRange), ("strconv.ErrSyntax", laid_strconv_ErrSyntax)] }
def SupportPatentsSaid : Prop := supportPatentsRow.holds Tryz.pinned (OpenSpec.ofChange supportPatentsSpec)

/-- ITS FALSE NEIGHBOUR: 'it returns false'. Refute it at one input. -/
def supportPatentsWrong : ChangeSpec := { name := "supportPatents", fn := fun _ => fun
  | [d1, d2] => { results := [.lit (.bool false)], args := [d1, d2] }
  | _ => none }
def SupportPatentsWrongFalsely : Prop := supportPatentsRow.holds Tryz.pinned (OpenSpec.ofChange supportPatentsWrong)

/-- 'schismalaw22.SupportErrors': WHATEVER THE INPUT: true; the input reads as it did. -/
def supportErrorsSpec : ChangeSpec := { name := "supportErrors", fn := fun _ => fun
  | [d1, d2, d3] => { results := [.lit (.bool true)], args := [d1, d2, d3] }
  | _ => none }
def supportErrorsRow : OpenClaim := { program := "ytiniigadkknboaagreatdoor", sum := "abe3741a5090a12c770a888838bb8c64e9076b46ca144429b419d6d754e6026e", func := "schisma/schismalaw22.SupportErrors", spec := "supportErrors", unfollowed := true, recurses := true, named := ["internal/strconv.uint64pow10", "math/bits.deBruijn32tab", "math/bits.deBruijn64tab", "strconv.ErrSyntax", "strconv.ErrRange"], apart := false, laid := [("math/bits.deBruijn32tab", laid_math_bits_deBruijn32tab), ("math/bits.deBruijn64tab", laid_math_bits_deBruijn64tab), ("internal/strconv.uint64pow10", laid_internal_strconv_uint64pow10), ("strconv.ErrRange", laid_strconv_ErrRange), ("strconv.ErrSyntax", laid_strconv_ErrSyntax)] }
def SupportErrorsSaid : Prop := supportErrorsRow.holds Tryz.pinned (OpenSpec.ofChange supportErrorsSpec)

/-- ITS FALSE NEIGHBOUR: 'it returns false'. Refute it at one input. -/
def supportErrorsWrong : ChangeSpec := { name := "supportErrors", fn := fun _ => fun
  | [d1, d2, d3] => { results := [.lit (.bool false)], args := [d1, d2, d3] }
  | _ => none }
def SupportErrorsWrongFalsely : Prop := supportErrorsRow.holds Tryz.pinned (OpenSpec.ofChange supportErrorsWrong)

/-- 'schismalaw22.SupportEnds': WHATEVER THE INPUT: true; the input reads as it did. -/
def supportEndsSpec : ChangeSpec := { name := "supportEnds", fn := fun _ => fun
  | [d1, d2] => { results := [.lit (.bool true)], args := [d1, d2] }
  | _ => none }
def supportEndsRow : OpenClaim := { program := "ytiniigadkknboaagreatdoor", sum := "abe3741a5090a12c770a888838bb8c64e9076b46ca144429b419d6d754e6026e", func := "schisma/schismalaw22.SupportEnds", spec := "supportEnds", unfollowed := true, recurses := true, named := ["internal/strconv.uint64pow10", "math/bits.deBruijn32tab", "math/bits.deBruijn64tab", "strconv.ErrSyntax", "strconv.ErrRange"], apart := false, laid := [("math/bits.deBruijn32tab", laid_math_bits_deBruijn32tab), ("math/bits.deBruijn64tab", laid_math_bits_deBruijn64tab), ("internal/strconv.uint64pow10", laid_internal_strconv_uint64pow10), ("strconv.ErrRange", laid_strconv_ErrRange), ("strconv.ErrSyntax", laid_strconv_ErrSyntax)] }
def SupportEndsSaid : Prop := supportEndsRow.holds Tryz.pinned (OpenSpec.ofChange supportEndsSpec)

/-- ITS FALSE NEIGHBOUR: 'it returns false'. Refute it at one input. -/
def supportEndsWrong : ChangeSpec := { name := "supportEnds", fn := fun _ => fun
  | [d1, d2] => { results := [.lit (.bool false)], args := [d1, d2] }
  | _ => none }
def SupportEndsWrongFalsely : Prop := supportEndsRow.holds Tryz.pinned (OpenSpec.ofChange supportEndsWrong)

/-- 'schismalaw22.SupportVals': WHATEVER THE INPUT: true; the input reads as it did. -/
def supportValsSpec : ChangeSpec := { name := "supportVals", fn := fun _ => fun
  | [d1, d2] => { results := [.lit (.bool true)], args := [d1, d2] }
  | _ => none }
def supportValsRow : OpenClaim := { program := "ytiniigadkknboaagreatdoor", sum := "abe3741a5090a12c770a888838bb8c64e9076b46ca144429b419d6d754e6026e", func := "schisma/schismalaw22.SupportVals", spec := "supportVals", unfollowed := true, recurses := true, named := ["internal/strconv.uint64pow10", "math/bits.deBruijn32tab", "math/bits.deBruijn64tab", "strconv.ErrSyntax", "strconv.ErrRange"], apart := false, laid := [("math/bits.deBruijn32tab", laid_math_bits_deBruijn32tab), ("math/bits.deBruijn64tab", laid_math_bits_deBruijn64tab), ("internal/strconv.uint64pow10", laid_internal_strconv_uint64pow10), ("strconv.ErrRange", laid_strconv_ErrRange), ("strconv.ErrSyntax", laid_strconv_ErrSyntax)] }
def SupportValsSaid : Prop := supportValsRow.holds Tryz.pinned (OpenSpec.ofChange supportValsSpec)

/-- ITS FALSE NEIGHBOUR: 'it returns false'. Refute it at one input. -/
def supportValsWrong : ChangeSpec := { name := "supportVals", fn := fun _ => fun
  | [d1, d2] => { results := [.lit (.bool false)], args := [d1, d2] }
  | _ => none }
def SupportValsWrongFalsely : Prop := supportValsRow.holds Tryz.pinned (OpenSpec.ofChange supportValsWrong)

/-- 'schismalaw22.SupportSums': WHATEVER THE INPUT: true; the input reads as it did. -/
def supportSumsSpec : ChangeSpec := { name := "supportSums", fn := fun _ => fun
  | [d1, d2, d3] => { results := [.lit (.bool true)], args := [d1, d2, d3] }
  | _ => none }
def supportSumsRow : OpenClaim := { program := "ytiniigadkknboaagreatdoor", sum := "abe3741a5090a12c770a888838bb8c64e9076b46ca144429b419d6d754e6026e", func := "schisma/schismalaw22.SupportSums", spec := "supportSums", unfollowed := true, recurses := true, named := ["internal/strconv.uint64pow10", "math/bits.deBruijn32tab", "math/bits.deBruijn64tab", "strconv.ErrSyntax", "strconv.ErrRange"], apart := false, laid := [("math/bits.deBruijn32tab", laid_math_bits_deBruijn32tab), ("math/bits.deBruijn64tab", laid_math_bits_deBruijn64tab), ("internal/strconv.uint64pow10", laid_internal_strconv_uint64pow10), ("strconv.ErrRange", laid_strconv_ErrRange), ("strconv.ErrSyntax", laid_strconv_ErrSyntax)] }
def SupportSumsSaid : Prop := supportSumsRow.holds Tryz.pinned (OpenSpec.ofChange supportSumsSpec)

/-- ITS FALSE NEIGHBOUR: 'it returns false'. Refute it at one input. -/
def supportSumsWrong : ChangeSpec := { name := "supportSums", fn := fun _ => fun
  | [d1, d2, d3] => { results := [.lit (.bool false)], args := [d1, d2, d3] }
  | _ => none }
def SupportSumsWrongFalsely : Prop := supportSumsRow.holds Tryz.pinned (OpenSpec.ofChange supportSumsWrong)

/-- 'schismalaw22.SupportPairs': WHATEVER THE INPUT: true; the input reads as it did. -/
def supportPairsSpec : ChangeSpec := { name := "supportPairs", fn := fun _ => fun
  | [d1, d2] => { results := [.lit (.bool true)], args := [d1, d2] }
  | _ => none }
def supportPairsRow : OpenClaim := { program := "ytiniigadkknboaagreatdoor", sum := "abe3741a5090a12c770a888838bb8c64e9076b46ca144429b419d6d754e6026e", func := "schisma/schismalaw22.SupportPairs", spec := "supportPairs", inPlace := ["internal/abi.NoEscape", "internal/bytealg.MakeNoZero"], unfollowed := true, recurses := true, named := ["internal/strconv.uint64pow10", "math/bits.deBruijn32tab", "math/bits.deBruijn64tab", "strconv.ErrSyntax", "strconv.ErrRange"], apart := false, laid := [("math/bits.deBruijn32tab", laid_math_bits_deBruijn32tab), ("math/bits.deBruijn64tab", laid_math_bits_deBruijn64tab), ("internal/strconv.uint64pow10", laid_internal_strconv_uint64pow10), ("strconv.ErrRange", laid_strconv_ErrRange), ("strconv.ErrSyntax", laid_strconv_ErrSyntax)] }
def SupportPairsSaid : Prop := supportPairsRow.holds Tryz.pinned (OpenSpec.ofChange supportPairsSpec)

/-- ITS FALSE NEIGHBOUR: 'it returns false'. Refute it at one input. -/
def supportPairsWrong : ChangeSpec := { name := "supportPairs", fn := fun _ => fun
  | [d1, d2] => { results := [.lit (.bool false)], args := [d1, d2] }
  | _ => none }
def SupportPairsWrongFalsely : Prop := supportPairsRow.holds Tryz.pinned (OpenSpec.ofChange supportPairsWrong)

/- THE SECOND FORM. 'bulk': how many values and letters a reading holds, each counted each time it is reached (what is shared counts as often as it is met; a slice's spare places count too). A statement '..UptoSaid' is the law's where the arguments, and the package variables that the reading takes, are together of bulk at most 1048576: NARROWER than '..Said'. Prove '..Said' where nothing that the law and all that it calls make is longer than what came in: it says more and counts as full. Else prove '..UptoSaid'. A law counts once. -/
mutual
def uptoBulk {H : Type} : DataW H → Nat
  | .lit (.string bytes) => bytes.length + 1
  | .lit _ => 1
  | .nil => 1
  | .ptr d => uptoBulk d + 1
  | .slice elems spare => uptoBulkAll elems + uptoBulkAll spare + 1
  | .agg parts => uptoBulkAll parts + 1
  | .iface _ d => uptoBulk d + 1
  | .map entries => uptoBulkEntries entries + 1
  | .held _ => 1
def uptoBulkAll {H : Type} : List (DataW H) → Nat
  | [] => 0
  | d :: r => uptoBulk d + uptoBulkAll r
def uptoBulkEntries {H : Type} : List (Lit × DataW H) → Nat
  | [] => 0
  | x :: r => uptoBulkEntry x + uptoBulkEntries r
def uptoBulkEntry {H : Type} : Lit × DataW H → Nat
  | (.string bytes, d) => bytes.length + uptoBulk d + 1
  | (_, d) => uptoBulk d + 1
 end
def uptoSmall : (H : Type) → List (DataW H) → Bool := fun _ ds => decide (uptoBulkAll ds ≤ 1048576)
def OpenSpec.upto (s : _root_.Go.ChangeSpec) : _root_.Go.OpenSpec := { _root_.Go.OpenSpec.ofChange s with cond := some uptoSmall }

/-- 'schismalaw22.SupportDivisions', WHERE WHAT IT READS IS OF BULK AT MOST 1048576: true; the input reads as it did. -/
def supportDivisionsUptoRow : OpenClaim := { program := "ytiniigadkknboaagreatdoor", sum := "abe3741a5090a12c770a888838bb8c64e9076b46ca144429b419d6d754e6026e", func := "schisma/schismalaw22.SupportDivisions", spec := "supportDivisions", unfollowed := true, recurses := true, named := ["internal/strconv.uint64pow10", "math/bits.deBruijn32tab", "math/bits.deBruijn64tab", "strconv.ErrSyntax", "strconv.ErrRange"], apart := false, laid := [("math/bits.deBruijn32tab", laid_math_bits_deBruijn32tab), ("math/bits.deBruijn64tab", laid_math_bits_deBruijn64tab), ("internal/strconv.uint64pow10", laid_internal_strconv_uint64pow10), ("strconv.ErrRange", laid_strconv_ErrRange), ("strconv.ErrSyntax", laid_strconv_ErrSyntax)], narrowed := true }
def SupportDivisionsUptoSaid : Prop := supportDivisionsUptoRow.holds Tryz.pinned (OpenSpec.upto supportDivisionsSpec)

/-- 'schismalaw22.SupportChains', WHERE WHAT IT READS IS OF BULK AT MOST 1048576: true; the input reads as it did. -/
def supportChainsUptoRow : OpenClaim := { program := "ytiniigadkknboaagreatdoor", sum := "abe3741a5090a12c770a888838bb8c64e9076b46ca144429b419d6d754e6026e", func := "schisma/schismalaw22.SupportChains", spec := "supportChains", unfollowed := true, recurses := true, named := ["internal/strconv.uint64pow10", "math/bits.deBruijn32tab", "math/bits.deBruijn64tab", "strconv.ErrSyntax", "strconv.ErrRange"], apart := false, laid := [("math/bits.deBruijn32tab", laid_math_bits_deBruijn32tab), ("math/bits.deBruijn64tab", laid_math_bits_deBruijn64tab), ("internal/strconv.uint64pow10", laid_internal_strconv_uint64pow10), ("strconv.ErrRange", laid_strconv_ErrRange), ("strconv.ErrSyntax", laid_strconv_ErrSyntax)], narrowed := true }
def SupportChainsUptoSaid : Prop := supportChainsUptoRow.holds Tryz.pinned (OpenSpec.upto supportChainsSpec)

/-- 'schismalaw22.SupportPatents', WHERE WHAT IT READS IS OF BULK AT MOST 1048576: true; the input reads as it did. -/
def supportPatentsUptoRow : OpenClaim := { program := "ytiniigadkknboaagreatdoor", sum := "abe3741a5090a12c770a888838bb8c64e9076b46ca144429b419d6d754e6026e", func := "schisma/schismalaw22.SupportPatents", spec := "supportPatents", unfollowed := true, recurses := true, named := ["internal/strconv.uint64pow10", "math/bits.deBruijn32tab", "math/bits.deBruijn64tab", "strconv.ErrSyntax", "strconv.ErrRange"], apart := false, laid := [("math/bits.deBruijn32tab", laid_math_bits_deBruijn32tab), ("math/bits.deBruijn64tab", laid_math_bits_deBruijn64tab), ("internal/strconv.uint64pow10", laid_internal_strconv_uint64pow10), ("strconv.ErrRange", laid_strconv_ErrRange), ("strconv.ErrSyntax", laid_strconv_ErrSyntax)], narrowed := true }
def SupportPatentsUptoSaid : Prop := supportPatentsUptoRow.holds Tryz.pinned (OpenSpec.upto supportPatentsSpec)

/-- 'schismalaw22.SupportErrors', WHERE WHAT IT READS IS OF BULK AT MOST 1048576: true; the input reads as it did. -/
def supportErrorsUptoRow : OpenClaim := { program := "ytiniigadkknboaagreatdoor", sum := "abe3741a5090a12c770a888838bb8c64e9076b46ca144429b419d6d754e6026e", func := "schisma/schismalaw22.SupportErrors", spec := "supportErrors", unfollowed := true, recurses := true, named := ["internal/strconv.uint64pow10", "math/bits.deBruijn32tab", "math/bits.deBruijn64tab", "strconv.ErrSyntax", "strconv.ErrRange"], apart := false, laid := [("math/bits.deBruijn32tab", laid_math_bits_deBruijn32tab), ("math/bits.deBruijn64tab", laid_math_bits_deBruijn64tab), ("internal/strconv.uint64pow10", laid_internal_strconv_uint64pow10), ("strconv.ErrRange", laid_strconv_ErrRange), ("strconv.ErrSyntax", laid_strconv_ErrSyntax)], narrowed := true }
def SupportErrorsUptoSaid : Prop := supportErrorsUptoRow.holds Tryz.pinned (OpenSpec.upto supportErrorsSpec)

/-- 'schismalaw22.SupportEnds', WHERE WHAT IT READS IS OF BULK AT MOST 1048576: true; the input reads as it did. -/
def supportEndsUptoRow : OpenClaim := { program := "ytiniigadkknboaagreatdoor", sum := "abe3741a5090a12c770a888838bb8c64e9076b46ca144429b419d6d754e6026e", func := "schisma/schismalaw22.SupportEnds", spec := "supportEnds", unfollowed := true, recurses := true, named := ["internal/strconv.uint64pow10", "math/bits.deBruijn32tab", "math/bits.deBruijn64tab", "strconv.ErrSyntax", "strconv.ErrRange"], apart := false, laid := [("math/bits.deBruijn32tab", laid_math_bits_deBruijn32tab), ("math/bits.deBruijn64tab", laid_math_bits_deBruijn64tab), ("internal/strconv.uint64pow10", laid_internal_strconv_uint64pow10), ("strconv.ErrRange", laid_strconv_ErrRange), ("strconv.ErrSyntax", laid_strconv_ErrSyntax)], narrowed := true }
def SupportEndsUptoSaid : Prop := supportEndsUptoRow.holds Tryz.pinned (OpenSpec.upto supportEndsSpec)

/-- 'schismalaw22.SupportVals', WHERE WHAT IT READS IS OF BULK AT MOST 1048576: true; the input reads as it did. -/
def supportValsUptoRow : OpenClaim := { program := "ytiniigadkknboaagreatdoor", sum := "abe3741a5090a12c770a888838bb8c64e9076b46ca144429b419d6d754e6026e", func := "schisma/schismalaw22.SupportVals", spec := "supportVals", unfollowed := true, recurses := true, named := ["internal/strconv.uint64pow10", "math/bits.deBruijn32tab", "math/bits.deBruijn64tab", "strconv.ErrSyntax", "strconv.ErrRange"], apart := false, laid := [("math/bits.deBruijn32tab", laid_math_bits_deBruijn32tab), ("math/bits.deBruijn64tab", laid_math_bits_deBruijn64tab), ("internal/strconv.uint64pow10", laid_internal_strconv_uint64pow10), ("strconv.ErrRange", laid_strconv_ErrRange), ("strconv.ErrSyntax", laid_strconv_ErrSyntax)], narrowed := true }
def SupportValsUptoSaid : Prop := supportValsUptoRow.holds Tryz.pinned (OpenSpec.upto supportValsSpec)

/-- 'schismalaw22.SupportSums', WHERE WHAT IT READS IS OF BULK AT MOST 1048576: true; the input reads as it did. -/
def supportSumsUptoRow : OpenClaim := { program := "ytiniigadkknboaagreatdoor", sum := "abe3741a5090a12c770a888838bb8c64e9076b46ca144429b419d6d754e6026e", func := "schisma/schismalaw22.SupportSums", spec := "supportSums", unfollowed := true, recurses := true, named := ["internal/strconv.uint64pow10", "math/bits.deBruijn32tab", "math/bits.deBruijn64tab", "strconv.ErrSyntax", "strconv.ErrRange"], apart := false, laid := [("math/bits.deBruijn32tab", laid_math_bits_deBruijn32tab), ("math/bits.deBruijn64tab", laid_math_bits_deBruijn64tab), ("internal/strconv.uint64pow10", laid_internal_strconv_uint64pow10), ("strconv.ErrRange", laid_strconv_ErrRange), ("strconv.ErrSyntax", laid_strconv_ErrSyntax)], narrowed := true }
def SupportSumsUptoSaid : Prop := supportSumsUptoRow.holds Tryz.pinned (OpenSpec.upto supportSumsSpec)

/-- 'schismalaw22.SupportPairs', WHERE WHAT IT READS IS OF BULK AT MOST 1048576: true; the input reads as it did. -/
def supportPairsUptoRow : OpenClaim := { program := "ytiniigadkknboaagreatdoor", sum := "abe3741a5090a12c770a888838bb8c64e9076b46ca144429b419d6d754e6026e", func := "schisma/schismalaw22.SupportPairs", spec := "supportPairs", inPlace := ["internal/abi.NoEscape", "internal/bytealg.MakeNoZero"], unfollowed := true, recurses := true, named := ["internal/strconv.uint64pow10", "math/bits.deBruijn32tab", "math/bits.deBruijn64tab", "strconv.ErrSyntax", "strconv.ErrRange"], apart := false, laid := [("math/bits.deBruijn32tab", laid_math_bits_deBruijn32tab), ("math/bits.deBruijn64tab", laid_math_bits_deBruijn64tab), ("internal/strconv.uint64pow10", laid_internal_strconv_uint64pow10), ("strconv.ErrRange", laid_strconv_ErrRange), ("strconv.ErrSyntax", laid_strconv_ErrSyntax)], narrowed := true }
def SupportPairsUptoSaid : Prop := supportPairsUptoRow.holds Tryz.pinned (OpenSpec.upto supportPairsSpec)

end Rows
end Go.Proofs.YtiniigadkknboaaGreatDoor
