/-
  NARROWER THAN 'FOR EVERY INPUT', by the rows' own cells (each row's printed sentence says how): DiagramBuilds: laid · DiagramCounts: laid · DiagramWitnesses: laid · DiagramLiterals: laid · DiagramCombines: laid · DiagramRestricts: laid · DiagramSplits: laid · DiagramCanonical: laid · DiagramValues: laid · DiagramChecks: laid.
  DERIVED. THE GIVEN ROWS OF THIS SEAT. 10 by the template 'for every input the law returns true; each argument reads behind the call as it read before'; 0 by the template 'total and deterministic' (their statements: YtkdmhjlcgpnjpaaGreatDoorTotals.lean).
  GIVEN WITH THE SEED: the statements are not yours to turn. If you find one false, say at which input.
  Laid BY PROGRAM, IN A SANDBOX (cutbox-rows.mjs): the forced cells as the released guide's own fill.sh prints them over the translation 001c4a331bd82e47… (all of the seat's roots in one cut). By AI agents, Wed Nov 11 2026. No macro, syntax, notation, axiom, sorry.
-/
import Derived.Test.YtkdmhjlcgpnjpaaGreatDoorChecked
import GoSem.Claim
import GoSem.ClaimJoined
import GoSem.ClaimMapViews
import Derived.JoinedTies
import Derived.KernelRfl
namespace Go.Proofs.YtkdmhjlcgpnjpaaGreatDoor
/- THE CELL 'sum', in the pinned program and in every row, IS THE sha256 OF THE DUMP (.gsa) THAT YtkdmhjlcgpnjpaaGreatDoorProg.lean LOADS. Nothing in Lean hashes anything: it is a label: what it is worth is what the hold of that sum in a sandbox is worth. -/
noncomputable def Tryz.pinned : Pinned := { name := "ytkdmhjlcgpnjpaagreatdoor", sum := "001c4a331bd82e47638ef76458e45cb2589ce280c8fc065b999d3ea40bada831", checked := Tryz.checked }
namespace Rows
def none {H : Type} : Left H := { results := [], args := [] }

/- WHAT THE LISTED PACKAGE-LEVEL VARIABLES READ AS WHEN THE CALL BEGINS. Each datum BY PROGRAM (the guide's laid-datum.mjs) off the statement by which the dump's own 'gosem.cut.vars' lays the variable. In a bare row this is a premise. The card (YtkdmhjlcgpnjpaaGreatDoorCards.lean) ties it to the program's text. -/
def laid_math_bits_deBruijn32tab {H : Type} : DataW H := .agg [.lit (.int .u8 0), .lit (.int .u8 1), .lit (.int .u8 28), .lit (.int .u8 2), .lit (.int .u8 29), .lit (.int .u8 14), .lit (.int .u8 24), .lit (.int .u8 3), .lit (.int .u8 30), .lit (.int .u8 22), .lit (.int .u8 20), .lit (.int .u8 15), .lit (.int .u8 25), .lit (.int .u8 17), .lit (.int .u8 4), .lit (.int .u8 8), .lit (.int .u8 31), .lit (.int .u8 27), .lit (.int .u8 13), .lit (.int .u8 23), .lit (.int .u8 21), .lit (.int .u8 19), .lit (.int .u8 16), .lit (.int .u8 7), .lit (.int .u8 26), .lit (.int .u8 12), .lit (.int .u8 18), .lit (.int .u8 6), .lit (.int .u8 11), .lit (.int .u8 5), .lit (.int .u8 10), .lit (.int .u8 9)]
def laid_math_bits_deBruijn64tab {H : Type} : DataW H := .agg [.lit (.int .u8 0), .lit (.int .u8 1), .lit (.int .u8 56), .lit (.int .u8 2), .lit (.int .u8 57), .lit (.int .u8 49), .lit (.int .u8 28), .lit (.int .u8 3), .lit (.int .u8 61), .lit (.int .u8 58), .lit (.int .u8 42), .lit (.int .u8 50), .lit (.int .u8 38), .lit (.int .u8 29), .lit (.int .u8 17), .lit (.int .u8 4), .lit (.int .u8 62), .lit (.int .u8 47), .lit (.int .u8 59), .lit (.int .u8 36), .lit (.int .u8 45), .lit (.int .u8 43), .lit (.int .u8 51), .lit (.int .u8 22), .lit (.int .u8 53), .lit (.int .u8 39), .lit (.int .u8 33), .lit (.int .u8 30), .lit (.int .u8 24), .lit (.int .u8 18), .lit (.int .u8 12), .lit (.int .u8 5), .lit (.int .u8 63), .lit (.int .u8 55), .lit (.int .u8 48), .lit (.int .u8 27), .lit (.int .u8 60), .lit (.int .u8 41), .lit (.int .u8 37), .lit (.int .u8 16), .lit (.int .u8 46), .lit (.int .u8 35), .lit (.int .u8 44), .lit (.int .u8 21), .lit (.int .u8 52), .lit (.int .u8 32), .lit (.int .u8 23), .lit (.int .u8 11), .lit (.int .u8 54), .lit (.int .u8 26), .lit (.int .u8 40), .lit (.int .u8 15), .lit (.int .u8 34), .lit (.int .u8 20), .lit (.int .u8 31), .lit (.int .u8 10), .lit (.int .u8 25), .lit (.int .u8 14), .lit (.int .u8 19), .lit (.int .u8 9), .lit (.int .u8 13), .lit (.int .u8 8), .lit (.int .u8 7), .lit (.int .u8 6)]
def laid_internal_strconv_uint64pow10 {H : Type} : DataW H := .agg [.lit (.int .u64 1), .lit (.int .u64 10), .lit (.int .u64 100), .lit (.int .u64 1000), .lit (.int .u64 10000), .lit (.int .u64 100000), .lit (.int .u64 1000000), .lit (.int .u64 10000000), .lit (.int .u64 100000000), .lit (.int .u64 1000000000), .lit (.int .u64 10000000000), .lit (.int .u64 100000000000), .lit (.int .u64 1000000000000), .lit (.int .u64 10000000000000), .lit (.int .u64 100000000000000), .lit (.int .u64 1000000000000000), .lit (.int .u64 10000000000000000), .lit (.int .u64 100000000000000000), .lit (.int .u64 1000000000000000000), .lit (.int .u64 10000000000000000000)]
def laid_strconv_ErrRange {H : Type} : DataW H := .iface "*errors.errorString" (.ptr (.agg [.lit (.string [118, 97, 108, 117, 101, 32, 111, 117, 116, 32, 111, 102, 32, 114, 97, 110, 103, 101])]))
def laid_strconv_ErrSyntax {H : Type} : DataW H := .iface "*errors.errorString" (.ptr (.agg [.lit (.string [105, 110, 118, 97, 108, 105, 100, 32, 115, 121, 110, 116, 97, 120])]))

/-- 'bombardelaw08.DiagramBuilds': WHATEVER THE INPUT: true; the input reads as it did. -/
def diagramBuildsSpec : ChangeSpec := { name := "diagramBuilds", fn := fun _ => fun
  | [d] => { results := [.lit (.bool true)], args := [d] }
  | _ => none }
def diagramBuildsRow : OpenClaim := { program := "ytkdmhjlcgpnjpaagreatdoor", sum := "001c4a331bd82e47638ef76458e45cb2589ce280c8fc065b999d3ea40bada831", func := "bombarde/bombardelaw08.DiagramBuilds", spec := "diagramBuilds", inPlace := ["internal/abi.NoEscape", "internal/bytealg.MakeNoZero"], unfollowed := true, recurses := true, named := ["strconv.ErrSyntax", "strconv.ErrRange", "internal/strconv.uint64pow10", "math/bits.deBruijn32tab", "math/bits.deBruijn64tab"], plainKeys := false, apart := false, laid := [("math/bits.deBruijn32tab", laid_math_bits_deBruijn32tab), ("math/bits.deBruijn64tab", laid_math_bits_deBruijn64tab), ("internal/strconv.uint64pow10", laid_internal_strconv_uint64pow10), ("strconv.ErrRange", laid_strconv_ErrRange), ("strconv.ErrSyntax", laid_strconv_ErrSyntax)] }
def DiagramBuildsSaid : Prop := diagramBuildsRow.holds Tryz.pinned (OpenSpec.ofChange diagramBuildsSpec)

/-- ITS FALSE NEIGHBOUR: 'it returns false'. Refute it at one input. -/
def diagramBuildsWrong : ChangeSpec := { name := "diagramBuilds", fn := fun _ => fun
  | [d] => { results := [.lit (.bool false)], args := [d] }
  | _ => none }
def DiagramBuildsWrongFalsely : Prop := diagramBuildsRow.holds Tryz.pinned (OpenSpec.ofChange diagramBuildsWrong)

/-- 'bombardelaw08.DiagramCounts': WHATEVER THE INPUT: true; the input reads as it did. -/
def diagramCountsSpec : ChangeSpec := { name := "diagramCounts", fn := fun _ => fun
  | [d1, d2] => { results := [.lit (.bool true)], args := [d1, d2] }
  | _ => none }
def diagramCountsRow : OpenClaim := { program := "ytkdmhjlcgpnjpaagreatdoor", sum := "001c4a331bd82e47638ef76458e45cb2589ce280c8fc065b999d3ea40bada831", func := "bombarde/bombardelaw08.DiagramCounts", spec := "diagramCounts", inPlace := ["internal/abi.NoEscape", "internal/bytealg.MakeNoZero"], unfollowed := true, recurses := true, named := ["strconv.ErrSyntax", "strconv.ErrRange", "internal/strconv.uint64pow10", "math/bits.deBruijn32tab", "math/bits.deBruijn64tab"], plainKeys := false, apart := false, laid := [("math/bits.deBruijn32tab", laid_math_bits_deBruijn32tab), ("math/bits.deBruijn64tab", laid_math_bits_deBruijn64tab), ("internal/strconv.uint64pow10", laid_internal_strconv_uint64pow10), ("strconv.ErrRange", laid_strconv_ErrRange), ("strconv.ErrSyntax", laid_strconv_ErrSyntax)] }
def DiagramCountsSaid : Prop := diagramCountsRow.holds Tryz.pinned (OpenSpec.ofChange diagramCountsSpec)

/-- ITS FALSE NEIGHBOUR: 'it returns false'. Refute it at one input. -/
def diagramCountsWrong : ChangeSpec := { name := "diagramCounts", fn := fun _ => fun
  | [d1, d2] => { results := [.lit (.bool false)], args := [d1, d2] }
  | _ => none }
def DiagramCountsWrongFalsely : Prop := diagramCountsRow.holds Tryz.pinned (OpenSpec.ofChange diagramCountsWrong)

/-- 'bombardelaw08.DiagramWitnesses': WHATEVER THE INPUT: true; the input reads as it did. -/
def diagramWitnessesSpec : ChangeSpec := { name := "diagramWitnesses", fn := fun _ => fun
  | [d1, d2] => { results := [.lit (.bool true)], args := [d1, d2] }
  | _ => none }
def diagramWitnessesRow : OpenClaim := { program := "ytkdmhjlcgpnjpaagreatdoor", sum := "001c4a331bd82e47638ef76458e45cb2589ce280c8fc065b999d3ea40bada831", func := "bombarde/bombardelaw08.DiagramWitnesses", spec := "diagramWitnesses", inPlace := ["internal/abi.NoEscape", "internal/bytealg.MakeNoZero"], unfollowed := true, recurses := true, named := ["strconv.ErrSyntax", "strconv.ErrRange", "internal/strconv.uint64pow10", "math/bits.deBruijn32tab", "math/bits.deBruijn64tab"], plainKeys := false, apart := false, laid := [("math/bits.deBruijn32tab", laid_math_bits_deBruijn32tab), ("math/bits.deBruijn64tab", laid_math_bits_deBruijn64tab), ("internal/strconv.uint64pow10", laid_internal_strconv_uint64pow10), ("strconv.ErrRange", laid_strconv_ErrRange), ("strconv.ErrSyntax", laid_strconv_ErrSyntax)] }
def DiagramWitnessesSaid : Prop := diagramWitnessesRow.holds Tryz.pinned (OpenSpec.ofChange diagramWitnessesSpec)

/-- ITS FALSE NEIGHBOUR: 'it returns false'. Refute it at one input. -/
def diagramWitnessesWrong : ChangeSpec := { name := "diagramWitnesses", fn := fun _ => fun
  | [d1, d2] => { results := [.lit (.bool false)], args := [d1, d2] }
  | _ => none }
def DiagramWitnessesWrongFalsely : Prop := diagramWitnessesRow.holds Tryz.pinned (OpenSpec.ofChange diagramWitnessesWrong)

/-- 'bombardelaw08.DiagramLiterals': WHATEVER THE INPUT: true; the input reads as it did. -/
def diagramLiteralsSpec : ChangeSpec := { name := "diagramLiterals", fn := fun _ => fun
  | [d1, d2] => { results := [.lit (.bool true)], args := [d1, d2] }
  | _ => none }
def diagramLiteralsRow : OpenClaim := { program := "ytkdmhjlcgpnjpaagreatdoor", sum := "001c4a331bd82e47638ef76458e45cb2589ce280c8fc065b999d3ea40bada831", func := "bombarde/bombardelaw08.DiagramLiterals", spec := "diagramLiterals", inPlace := ["internal/abi.NoEscape", "internal/bytealg.MakeNoZero"], unfollowed := true, recurses := true, named := ["strconv.ErrSyntax", "strconv.ErrRange", "internal/strconv.uint64pow10", "math/bits.deBruijn32tab", "math/bits.deBruijn64tab"], plainKeys := false, apart := false, laid := [("math/bits.deBruijn32tab", laid_math_bits_deBruijn32tab), ("math/bits.deBruijn64tab", laid_math_bits_deBruijn64tab), ("internal/strconv.uint64pow10", laid_internal_strconv_uint64pow10), ("strconv.ErrRange", laid_strconv_ErrRange), ("strconv.ErrSyntax", laid_strconv_ErrSyntax)] }
def DiagramLiteralsSaid : Prop := diagramLiteralsRow.holds Tryz.pinned (OpenSpec.ofChange diagramLiteralsSpec)

/-- ITS FALSE NEIGHBOUR: 'it returns false'. Refute it at one input. -/
def diagramLiteralsWrong : ChangeSpec := { name := "diagramLiterals", fn := fun _ => fun
  | [d1, d2] => { results := [.lit (.bool false)], args := [d1, d2] }
  | _ => none }
def DiagramLiteralsWrongFalsely : Prop := diagramLiteralsRow.holds Tryz.pinned (OpenSpec.ofChange diagramLiteralsWrong)

/-- 'bombardelaw08.DiagramCombines': WHATEVER THE INPUT: true; the input reads as it did. -/
def diagramCombinesSpec : ChangeSpec := { name := "diagramCombines", fn := fun _ => fun
  | [d1, d2, d3] => { results := [.lit (.bool true)], args := [d1, d2, d3] }
  | _ => none }
def diagramCombinesRow : OpenClaim := { program := "ytkdmhjlcgpnjpaagreatdoor", sum := "001c4a331bd82e47638ef76458e45cb2589ce280c8fc065b999d3ea40bada831", func := "bombarde/bombardelaw08.DiagramCombines", spec := "diagramCombines", inPlace := ["internal/abi.NoEscape", "internal/bytealg.MakeNoZero"], unfollowed := true, recurses := true, named := ["strconv.ErrSyntax", "strconv.ErrRange", "internal/strconv.uint64pow10", "math/bits.deBruijn32tab", "math/bits.deBruijn64tab"], plainKeys := false, apart := false, laid := [("math/bits.deBruijn32tab", laid_math_bits_deBruijn32tab), ("math/bits.deBruijn64tab", laid_math_bits_deBruijn64tab), ("internal/strconv.uint64pow10", laid_internal_strconv_uint64pow10), ("strconv.ErrRange", laid_strconv_ErrRange), ("strconv.ErrSyntax", laid_strconv_ErrSyntax)] }
def DiagramCombinesSaid : Prop := diagramCombinesRow.holds Tryz.pinned (OpenSpec.ofChange diagramCombinesSpec)

/-- ITS FALSE NEIGHBOUR: 'it returns false'. Refute it at one input. -/
def diagramCombinesWrong : ChangeSpec := { name := "diagramCombines", fn := fun _ => fun
  | [d1, d2, d3] => { results := [.lit (.bool false)], args := [d1, d2, d3] }
  | _ => none }
def DiagramCombinesWrongFalsely : Prop := diagramCombinesRow.holds Tryz.pinned (OpenSpec.ofChange diagramCombinesWrong)

/-- 'bombardelaw08.DiagramRestricts': WHATEVER THE INPUT: true; the input reads as it did. -/
def diagramRestrictsSpec : ChangeSpec := { name := "diagramRestricts", fn := fun _ => fun
  | [d1, d2, d3] => { results := [.lit (.bool true)], args := [d1, d2, d3] }
  | _ => none }
def diagramRestrictsRow : OpenClaim := { program := "ytkdmhjlcgpnjpaagreatdoor", sum := "001c4a331bd82e47638ef76458e45cb2589ce280c8fc065b999d3ea40bada831", func := "bombarde/bombardelaw08.DiagramRestricts", spec := "diagramRestricts", inPlace := ["internal/abi.NoEscape", "internal/bytealg.MakeNoZero"], unfollowed := true, recurses := true, named := ["strconv.ErrSyntax", "strconv.ErrRange", "internal/strconv.uint64pow10", "math/bits.deBruijn32tab", "math/bits.deBruijn64tab"], plainKeys := false, apart := false, laid := [("math/bits.deBruijn32tab", laid_math_bits_deBruijn32tab), ("math/bits.deBruijn64tab", laid_math_bits_deBruijn64tab), ("internal/strconv.uint64pow10", laid_internal_strconv_uint64pow10), ("strconv.ErrRange", laid_strconv_ErrRange), ("strconv.ErrSyntax", laid_strconv_ErrSyntax)] }
def DiagramRestrictsSaid : Prop := diagramRestrictsRow.holds Tryz.pinned (OpenSpec.ofChange diagramRestrictsSpec)

/-- ITS FALSE NEIGHBOUR: 'it returns false'. Refute it at one input. -/
def diagramRestrictsWrong : ChangeSpec := { name := "diagramRestricts", fn := fun _ => fun
  | [d1, d2, d3] => { results := [.lit (.bool false)], args := [d1, d2, d3] }
  | _ => none }
def DiagramRestrictsWrongFalsely : Prop := diagramRestrictsRow.holds Tryz.pinned (OpenSpec.ofChange diagramRestrictsWrong)

/-- 'bombardelaw08.DiagramSplits': WHATEVER THE INPUT: true; the input reads as it did. -/
def diagramSplitsSpec : ChangeSpec := { name := "diagramSplits", fn := fun _ => fun
  | [d1, d2, d3] => { results := [.lit (.bool true)], args := [d1, d2, d3] }
  | _ => none }
def diagramSplitsRow : OpenClaim := { program := "ytkdmhjlcgpnjpaagreatdoor", sum := "001c4a331bd82e47638ef76458e45cb2589ce280c8fc065b999d3ea40bada831", func := "bombarde/bombardelaw08.DiagramSplits", spec := "diagramSplits", inPlace := ["internal/abi.NoEscape", "internal/bytealg.MakeNoZero"], unfollowed := true, recurses := true, named := ["strconv.ErrSyntax", "strconv.ErrRange", "internal/strconv.uint64pow10", "math/bits.deBruijn32tab", "math/bits.deBruijn64tab"], plainKeys := false, apart := false, laid := [("math/bits.deBruijn32tab", laid_math_bits_deBruijn32tab), ("math/bits.deBruijn64tab", laid_math_bits_deBruijn64tab), ("internal/strconv.uint64pow10", laid_internal_strconv_uint64pow10), ("strconv.ErrRange", laid_strconv_ErrRange), ("strconv.ErrSyntax", laid_strconv_ErrSyntax)] }
def DiagramSplitsSaid : Prop := diagramSplitsRow.holds Tryz.pinned (OpenSpec.ofChange diagramSplitsSpec)

/-- ITS FALSE NEIGHBOUR: 'it returns false'. Refute it at one input. -/
def diagramSplitsWrong : ChangeSpec := { name := "diagramSplits", fn := fun _ => fun
  | [d1, d2, d3] => { results := [.lit (.bool false)], args := [d1, d2, d3] }
  | _ => none }
def DiagramSplitsWrongFalsely : Prop := diagramSplitsRow.holds Tryz.pinned (OpenSpec.ofChange diagramSplitsWrong)

/-- 'bombardelaw08.DiagramCanonical': WHATEVER THE INPUT: true; the input reads as it did. -/
def diagramCanonicalSpec : ChangeSpec := { name := "diagramCanonical", fn := fun _ => fun
  | [d1, d2] => { results := [.lit (.bool true)], args := [d1, d2] }
  | _ => none }
def diagramCanonicalRow : OpenClaim := { program := "ytkdmhjlcgpnjpaagreatdoor", sum := "001c4a331bd82e47638ef76458e45cb2589ce280c8fc065b999d3ea40bada831", func := "bombarde/bombardelaw08.DiagramCanonical", spec := "diagramCanonical", inPlace := ["internal/abi.NoEscape", "internal/bytealg.MakeNoZero"], unfollowed := true, recurses := true, named := ["strconv.ErrSyntax", "strconv.ErrRange", "internal/strconv.uint64pow10", "math/bits.deBruijn32tab", "math/bits.deBruijn64tab"], plainKeys := false, apart := false, laid := [("math/bits.deBruijn32tab", laid_math_bits_deBruijn32tab), ("math/bits.deBruijn64tab", laid_math_bits_deBruijn64tab), ("internal/strconv.uint64pow10", laid_internal_strconv_uint64pow10), ("strconv.ErrRange", laid_strconv_ErrRange), ("strconv.ErrSyntax", laid_strconv_ErrSyntax)] }
def DiagramCanonicalSaid : Prop := diagramCanonicalRow.holds Tryz.pinned (OpenSpec.ofChange diagramCanonicalSpec)

/-- ITS FALSE NEIGHBOUR: 'it returns false'. Refute it at one input. -/
def diagramCanonicalWrong : ChangeSpec := { name := "diagramCanonical", fn := fun _ => fun
  | [d1, d2] => { results := [.lit (.bool false)], args := [d1, d2] }
  | _ => none }
def DiagramCanonicalWrongFalsely : Prop := diagramCanonicalRow.holds Tryz.pinned (OpenSpec.ofChange diagramCanonicalWrong)

/-- 'bombardelaw08.DiagramValues': WHATEVER THE INPUT: true; the input reads as it did. -/
def diagramValuesSpec : ChangeSpec := { name := "diagramValues", fn := fun _ => fun
  | [d1, d2, d3] => { results := [.lit (.bool true)], args := [d1, d2, d3] }
  | _ => none }
def diagramValuesRow : OpenClaim := { program := "ytkdmhjlcgpnjpaagreatdoor", sum := "001c4a331bd82e47638ef76458e45cb2589ce280c8fc065b999d3ea40bada831", func := "bombarde/bombardelaw08.DiagramValues", spec := "diagramValues", inPlace := ["internal/abi.NoEscape", "internal/bytealg.MakeNoZero"], unfollowed := true, recurses := true, named := ["strconv.ErrSyntax", "strconv.ErrRange", "internal/strconv.uint64pow10", "math/bits.deBruijn32tab", "math/bits.deBruijn64tab"], plainKeys := false, apart := false, laid := [("math/bits.deBruijn32tab", laid_math_bits_deBruijn32tab), ("math/bits.deBruijn64tab", laid_math_bits_deBruijn64tab), ("internal/strconv.uint64pow10", laid_internal_strconv_uint64pow10), ("strconv.ErrRange", laid_strconv_ErrRange), ("strconv.ErrSyntax", laid_strconv_ErrSyntax)] }
def DiagramValuesSaid : Prop := diagramValuesRow.holds Tryz.pinned (OpenSpec.ofChange diagramValuesSpec)

/-- ITS FALSE NEIGHBOUR: 'it returns false'. Refute it at one input. -/
def diagramValuesWrong : ChangeSpec := { name := "diagramValues", fn := fun _ => fun
  | [d1, d2, d3] => { results := [.lit (.bool false)], args := [d1, d2, d3] }
  | _ => none }
def DiagramValuesWrongFalsely : Prop := diagramValuesRow.holds Tryz.pinned (OpenSpec.ofChange diagramValuesWrong)

/-- 'bombardelaw08.DiagramChecks': WHATEVER THE INPUT: true; the input reads as it did. -/
def diagramChecksSpec : ChangeSpec := { name := "diagramChecks", fn := fun _ => fun
  | [d] => { results := [.lit (.bool true)], args := [d] }
  | _ => none }
def diagramChecksRow : OpenClaim := { program := "ytkdmhjlcgpnjpaagreatdoor", sum := "001c4a331bd82e47638ef76458e45cb2589ce280c8fc065b999d3ea40bada831", func := "bombarde/bombardelaw08.DiagramChecks", spec := "diagramChecks", inPlace := ["internal/abi.NoEscape", "internal/bytealg.MakeNoZero"], unfollowed := true, recurses := true, named := ["strconv.ErrSyntax", "strconv.ErrRange", "internal/strconv.uint64pow10", "math/bits.deBruijn32tab", "math/bits.deBruijn64tab"], plainKeys := false, apart := false, laid := [("math/bits.deBruijn32tab", laid_math_bits_deBruijn32tab), ("math/bits.deBruijn64tab", laid_math_bits_deBruijn64tab), ("internal/strconv.uint64pow10", laid_internal_strconv_uint64pow10), ("strconv.ErrRange", laid_strconv_ErrRange), ("strconv.ErrSyntax", laid_strconv_ErrSyntax)] }
def DiagramChecksSaid : Prop := diagramChecksRow.holds Tryz.pinned (OpenSpec.ofChange diagramChecksSpec)

/-- ITS FALSE NEIGHBOUR: 'it returns false'. Refute it at one input. -/
def diagramChecksWrong : ChangeSpec := { name := "diagramChecks", fn := fun _ => fun
  | [d] => { results := [.lit (.bool false)], args := [d] }
  | _ => none }
def DiagramChecksWrongFalsely : Prop := diagramChecksRow.holds Tryz.pinned (OpenSpec.ofChange diagramChecksWrong)

/- THE SECOND FORM. 'bulk': how many values and letters a reading holds, each counted each time it is reached (what is shared counts as often as it is met; a slice's spare places count too). A statement '..UptoSaid' is the law's where the arguments, and the package variables that the reading takes, are together of bulk at most 1048576: NARROWER than '..Said'. Prove '..Said' where nothing that the law and all that it calls make is longer than what came in: it says more and counts as full. Else prove '..UptoSaid'. A law counts once. -/
mutual
def uptoBulk {H : Type} : DataW H → Nat
  | .lit (.string bytes) => bytes.length + 1
  | .lit _ => 1
  | .nil => 1
  | .ptr d => uptoBulk d + 1
  | .slice elems spare => uptoBulkAll elems + uptoBulkAll spare + 1
  | .agg parts => uptoBulkAll parts + 1
  | .iface _ d => uptoBulk d + 1
  | .map entries => uptoBulkEntries entries + 1
  | .held _ => 1
def uptoBulkAll {H : Type} : List (DataW H) → Nat
  | [] => 0
  | d :: r => uptoBulk d + uptoBulkAll r
def uptoBulkEntries {H : Type} : List (Lit × DataW H) → Nat
  | [] => 0
  | x :: r => uptoBulkEntry x + uptoBulkEntries r
def uptoBulkEntry {H : Type} : Lit × DataW H → Nat
  | (.string bytes, d) => bytes.length + uptoBulk d + 1
  | (_, d) => uptoBulk d + 1
 end
def uptoSmall : (H : Type) → List (DataW H) → Bool := fun _ ds => decide (uptoBulkAll ds ≤ 1048576)
def OpenSpec.upto (s : _root_.Go.ChangeSpec) : _root_.Go.OpenSpec := { _root_.Go.OpenSpec.ofChange s with cond := some uptoSmall }

/-- 'bombardelaw08.DiagramBuilds', WHERE WHAT IT READS IS OF BULK AT MOST 1048576: true; the input reads as it did. -/
def diagramBuildsUptoRow : OpenClaim := { program := "ytkdmhjlcgpnjpaagreatdoor", sum := "001c4a331bd82e47638ef76458e45cb2589ce280c8fc065b999d3ea40bada831", func := "bombarde/bombardelaw08.DiagramBuilds", spec := "diagramBuilds", inPlace := ["internal/abi.NoEscape", "internal/bytealg.MakeNoZero"], unfollowed := true, recurses := true, named := ["strconv.ErrSyntax", "strconv.ErrRange", "internal/strconv.uint64pow10", "math/bits.deBruijn32tab", "math/bits.deBruijn64tab"], plainKeys := false, apart := false, laid := [("math/bits.deBruijn32tab", laid_math_bits_deBruijn32tab), ("math/bits.deBruijn64tab", laid_math_bits_deBruijn64tab), ("internal/strconv.uint64pow10", laid_internal_strconv_uint64pow10), ("strconv.ErrRange", laid_strconv_ErrRange), ("strconv.ErrSyntax", laid_strconv_ErrSyntax)], narrowed := true }
def DiagramBuildsUptoSaid : Prop := diagramBuildsUptoRow.holds Tryz.pinned (OpenSpec.upto diagramBuildsSpec)

/-- 'bombardelaw08.DiagramCounts', WHERE WHAT IT READS IS OF BULK AT MOST 1048576: true; the input reads as it did. -/
def diagramCountsUptoRow : OpenClaim := { program := "ytkdmhjlcgpnjpaagreatdoor", sum := "001c4a331bd82e47638ef76458e45cb2589ce280c8fc065b999d3ea40bada831", func := "bombarde/bombardelaw08.DiagramCounts", spec := "diagramCounts", inPlace := ["internal/abi.NoEscape", "internal/bytealg.MakeNoZero"], unfollowed := true, recurses := true, named := ["strconv.ErrSyntax", "strconv.ErrRange", "internal/strconv.uint64pow10", "math/bits.deBruijn32tab", "math/bits.deBruijn64tab"], plainKeys := false, apart := false, laid := [("math/bits.deBruijn32tab", laid_math_bits_deBruijn32tab), ("math/bits.deBruijn64tab", laid_math_bits_deBruijn64tab), ("internal/strconv.uint64pow10", laid_internal_strconv_uint64pow10), ("strconv.ErrRange", laid_strconv_ErrRange), ("strconv.ErrSyntax", laid_strconv_ErrSyntax)], narrowed := true }
def DiagramCountsUptoSaid : Prop := diagramCountsUptoRow.holds Tryz.pinned (OpenSpec.upto diagramCountsSpec)

/-- 'bombardelaw08.DiagramWitnesses', WHERE WHAT IT READS IS OF BULK AT MOST 1048576: true; the input reads as it did. -/
def diagramWitnessesUptoRow : OpenClaim := { program := "ytkdmhjlcgpnjpaagreatdoor", sum := "001c4a331bd82e47638ef76458e45cb2589ce280c8fc065b999d3ea40bada831", func := "bombarde/bombardelaw08.DiagramWitnesses", spec := "diagramWitnesses", inPlace := ["internal/abi.NoEscape", "internal/bytealg.MakeNoZero"], unfollowed := true, recurses := true, named := ["strconv.ErrSyntax", "strconv.ErrRange", "internal/strconv.uint64pow10", "math/bits.deBruijn32tab", "math/bits.deBruijn64tab"], plainKeys := false, apart := false, laid := [("math/bits.deBruijn32tab", laid_math_bits_deBruijn32tab), ("math/bits.deBruijn64tab", laid_math_bits_deBruijn64tab), ("internal/strconv.uint64pow10", laid_internal_strconv_uint64pow10), ("strconv.ErrRange", laid_strconv_ErrRange), ("strconv.ErrSyntax", laid_strconv_ErrSyntax)], narrowed := true }
def DiagramWitnessesUptoSaid : Prop := diagramWitnessesUptoRow.holds Tryz.pinned (OpenSpec.upto diagramWitnessesSpec)

/-- 'bombardelaw08.DiagramLiterals', WHERE WHAT IT READS IS OF BULK AT MOST 1048576: true; the input reads as it did. -/
def diagramLiteralsUptoRow : OpenClaim := { program := "ytkdmhjlcgpnjpaagreatdoor", sum := "001c4a331bd82e47638ef76458e45cb2589ce280c8fc065b999d3ea40bada831", func := "bombarde/bombardelaw08.DiagramLiterals", spec := "diagramLiterals", inPlace := ["internal/abi.NoEscape", "internal/bytealg.MakeNoZero"], unfollowed := true, recurses := true, named := ["strconv.ErrSyntax", "strconv.ErrRange", "internal/strconv.uint64pow10", "math/bits.deBruijn32tab", "math/bits.deBruijn64tab"], plainKeys := false, apart := false, laid := [("math/bits.deBruijn32tab", laid_math_bits_deBruijn32tab), ("math/bits.deBruijn64tab", laid_math_bits_deBruijn64tab), ("internal/strconv.uint64pow10", laid_internal_strconv_uint64pow10), ("strconv.ErrRange", laid_strconv_ErrRange), ("strconv.ErrSyntax", laid_strconv_ErrSyntax)], narrowed := true }
def DiagramLiteralsUptoSaid : Prop := diagramLiteralsUptoRow.holds Tryz.pinned (OpenSpec.upto diagramLiteralsSpec)

/-- 'bombardelaw08.DiagramCombines', WHERE WHAT IT READS IS OF BULK AT MOST 1048576: true; the input reads as it did. -/
def diagramCombinesUptoRow : OpenClaim := { program := "ytkdmhjlcgpnjpaagreatdoor", sum := "001c4a331bd82e47638ef76458e45cb2589ce280c8fc065b999d3ea40bada831", func := "bombarde/bombardelaw08.DiagramCombines", spec := "diagramCombines", inPlace := ["internal/abi.NoEscape", "internal/bytealg.MakeNoZero"], unfollowed := true, recurses := true, named := ["strconv.ErrSyntax", "strconv.ErrRange", "internal/strconv.uint64pow10", "math/bits.deBruijn32tab", "math/bits.deBruijn64tab"], plainKeys := false, apart := false, laid := [("math/bits.deBruijn32tab", laid_math_bits_deBruijn32tab), ("math/bits.deBruijn64tab", laid_math_bits_deBruijn64tab), ("internal/strconv.uint64pow10", laid_internal_strconv_uint64pow10), ("strconv.ErrRange", laid_strconv_ErrRange), ("strconv.ErrSyntax", laid_strconv_ErrSyntax)], narrowed := true }
def DiagramCombinesUptoSaid : Prop := diagramCombinesUptoRow.holds Tryz.pinned (OpenSpec.upto diagramCombinesSpec)

/-- 'bombardelaw08.DiagramRestricts', WHERE WHAT IT READS IS OF BULK AT MOST 1048576: true; the input reads as it did. -/
def diagramRestrictsUptoRow : OpenClaim := { program := "ytkdmhjlcgpnjpaagreatdoor", sum := "001c4a331bd82e47638ef76458e45cb2589ce280c8fc065b999d3ea40bada831", func := "bombarde/bombardelaw08.DiagramRestricts", spec := "diagramRestricts", inPlace := ["internal/abi.NoEscape", "internal/bytealg.MakeNoZero"], unfollowed := true, recurses := true, named := ["strconv.ErrSyntax", "strconv.ErrRange", "internal/strconv.uint64pow10", "math/bits.deBruijn32tab", "math/bits.deBruijn64tab"], plainKeys := false, apart := false, laid := [("math/bits.deBruijn32tab", laid_math_bits_deBruijn32tab), ("math/bits.deBruijn64tab", laid_math_bits_deBruijn64tab), ("internal/strconv.uint64pow10", laid_internal_strconv_uint64pow10), ("strconv.ErrRange", laid_strconv_ErrRange), ("strconv.ErrSyntax", laid_strconv_ErrSyntax)], narrowed := true }
def DiagramRestrictsUptoSaid : Prop := diagramRestrictsUptoRow.holds Tryz.pinned (OpenSpec.upto diagramRestrictsSpec)

/-- 'bombardelaw08.DiagramSplits', WHERE WHAT IT READS IS OF BULK AT MOST 1048576: true; the input reads as it did. -/
def diagramSplitsUptoRow : OpenClaim := { program := "ytkdmhjlcgpnjpaagreatdoor", sum := "001c4a331bd82e47638ef76458e45cb2589ce280c8fc065b999d3ea40bada831", func := "bombarde/bombardelaw08.DiagramSplits", spec := "diagramSplits", inPlace := ["internal/abi.NoEscape", "internal/bytealg.MakeNoZero"], unfollowed := true, recurses := true, named := ["strconv.ErrSyntax", "strconv.ErrRange", "internal/strconv.uint64pow10", "math/bits.deBruijn32tab", "math/bits.deBruijn64tab"], plainKeys := false, apart := false, laid := [("math/bits.deBruijn32tab", laid_math_bits_deBruijn32tab), ("math/bits.deBruijn64tab", laid_math_bits_deBruijn64tab), ("internal/strconv.uint64pow10", laid_internal_strconv_uint64pow10), ("strconv.ErrRange", laid_strconv_ErrRange), ("strconv.ErrSyntax", laid_strconv_ErrSyntax)], narrowed := true }
def DiagramSplitsUptoSaid : Prop := diagramSplitsUptoRow.holds Tryz.pinned (OpenSpec.upto diagramSplitsSpec)

/-- 'bombardelaw08.DiagramCanonical', WHERE WHAT IT READS IS OF BULK AT MOST 1048576: true; the input reads as it did. -/
def diagramCanonicalUptoRow : OpenClaim := { program := "ytkdmhjlcgpnjpaagreatdoor", sum := "001c4a331bd82e47638ef76458e45cb2589ce280c8fc065b999d3ea40bada831", func := "bombarde/bombardelaw08.DiagramCanonical", spec := "diagramCanonical", inPlace := ["internal/abi.NoEscape", "internal/bytealg.MakeNoZero"], unfollowed := true, recurses := true, named := ["strconv.ErrSyntax", "strconv.ErrRange", "internal/strconv.uint64pow10", "math/bits.deBruijn32tab", "math/bits.deBruijn64tab"], plainKeys := false, apart := false, laid := [("math/bits.deBruijn32tab", laid_math_bits_deBruijn32tab), ("math/bits.deBruijn64tab", laid_math_bits_deBruijn64tab), ("internal/strconv.uint64pow10", laid_internal_strconv_uint64pow10), ("strconv.ErrRange", laid_strconv_ErrRange), ("strconv.ErrSyntax", laid_strconv_ErrSyntax)], narrowed := true }
def DiagramCanonicalUptoSaid : Prop := diagramCanonicalUptoRow.holds Tryz.pinned (OpenSpec.upto diagramCanonicalSpec)

/-- 'bombardelaw08.DiagramValues', WHERE WHAT IT READS IS OF BULK AT MOST 1048576: true; the input reads as it did. -/
def diagramValuesUptoRow : OpenClaim := { program := "ytkdmhjlcgpnjpaagreatdoor", sum := "001c4a331bd82e47638ef76458e45cb2589ce280c8fc065b999d3ea40bada831", func := "bombarde/bombardelaw08.DiagramValues", spec := "diagramValues", inPlace := ["internal/abi.NoEscape", "internal/bytealg.MakeNoZero"], unfollowed := true, recurses := true, named := ["strconv.ErrSyntax", "strconv.ErrRange", "internal/strconv.uint64pow10", "math/bits.deBruijn32tab", "math/bits.deBruijn64tab"], plainKeys := false, apart := false, laid := [("math/bits.deBruijn32tab", laid_math_bits_deBruijn32tab), ("math/bits.deBruijn64tab", laid_math_bits_deBruijn64tab), ("internal/strconv.uint64pow10", laid_internal_strconv_uint64pow10), ("strconv.ErrRange", laid_strconv_ErrRange), ("strconv.ErrSyntax", laid_strconv_ErrSyntax)], narrowed := true }
def DiagramValuesUptoSaid : Prop := diagramValuesUptoRow.holds Tryz.pinned (OpenSpec.upto diagramValuesSpec)

/-- 'bombardelaw08.DiagramChecks', WHERE WHAT IT READS IS OF BULK AT MOST 1048576: true; the input reads as it did. -/
def diagramChecksUptoRow : OpenClaim := { program := "ytkdmhjlcgpnjpaagreatdoor", sum := "001c4a331bd82e47638ef76458e45cb2589ce280c8fc065b999d3ea40bada831", func := "bombarde/bombardelaw08.DiagramChecks", spec := "diagramChecks", inPlace := ["internal/abi.NoEscape", "internal/bytealg.MakeNoZero"], unfollowed := true, recurses := true, named := ["strconv.ErrSyntax", "strconv.ErrRange", "internal/strconv.uint64pow10", "math/bits.deBruijn32tab", "math/bits.deBruijn64tab"], plainKeys := false, apart := false, laid := [("math/bits.deBruijn32tab", laid_math_bits_deBruijn32tab), ("math/bits.deBruijn64tab", laid_math_bits_deBruijn64tab), ("internal/strconv.uint64pow10", laid_internal_strconv_uint64pow10), ("strconv.ErrRange", laid_strconv_ErrRange), ("strconv.ErrSyntax", laid_strconv_ErrSyntax)], narrowed := true }
def DiagramChecksUptoSaid : Prop := diagramChecksUptoRow.holds Tryz.pinned (OpenSpec.upto diagramChecksSpec)

end Rows
end Go.Proofs.YtkdmhjlcgpnjpaaGreatDoor
