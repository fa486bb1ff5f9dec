/-
  NARROWER THAN 'FOR EVERY INPUT', by the rows' own cells (each row's printed sentence says how): FractionMakes: laid · FractionSums: laid · FractionValues: laid · FractionLists: laid · FractionTexts: laid · FractionParses: laid · FractionSimplest: laid · FractionGreat: laid · FractionTerms: laid · FractionLaws: laid · FractionChecks: laid.
  DERIVED. THE GIVEN ROWS OF THIS SEAT. 11 by the template 'for every input the law returns true; each argument reads behind the call as it read before'; 0 by the template 'total and deterministic' (their statements: YtoncbkkhfblpdaaDoorTotals.lean).
  GIVEN WITH THE SEED: the statements are not yours to turn. If you find one false, say at which input.
  Laid BY PROGRAM, IN A SANDBOX (cutbox-rows.mjs): the forced cells as the released guide's own fill.sh prints them over the translation 866af20b2e11cee6… (all of the seat's roots in one cut). By AI agents, Wed Nov 11 2026. No macro, syntax, notation, axiom, sorry.
-/
import Derived.Test.YtoncbkkhfblpdaaDoorChecked
import GoSem.Claim
import GoSem.ClaimJoined
import GoSem.ClaimMapViews
import Derived.JoinedTies
import Derived.KernelRfl
namespace Go.Proofs.YtoncbkkhfblpdaaDoor
/- THE CELL 'sum', in the pinned program and in every row, IS THE sha256 OF THE DUMP (.gsa) THAT YtoncbkkhfblpdaaDoorProg.lean LOADS. Nothing in Lean hashes anything: it is a label: what it is worth is what the hold of that sum in a sandbox is worth. -/
noncomputable def Tryd.pinned : Pinned := { name := "ytoncbkkhfblpdaadoor", sum := "866af20b2e11cee6406e1d44650847125d01e96543a509c0bdc12190c8ddbd9d", checked := Tryd.checked }
namespace Rows
def none {H : Type} : Left H := { results := [], args := [] }

/- WHAT THE LISTED PACKAGE-LEVEL VARIABLES READ AS WHEN THE CALL BEGINS. Each datum BY PROGRAM (the guide's laid-datum.mjs) off the statement by which the dump's own 'gosem.cut.vars' lays the variable. In a bare row this is a premise. The card (YtoncbkkhfblpdaaDoorCards.lean) ties it to the program's text. -/
def laid_math_bits_deBruijn32tab {H : Type} : DataW H := .agg [.lit (.int .u8 0), .lit (.int .u8 1), .lit (.int .u8 28), .lit (.int .u8 2), .lit (.int .u8 29), .lit (.int .u8 14), .lit (.int .u8 24), .lit (.int .u8 3), .lit (.int .u8 30), .lit (.int .u8 22), .lit (.int .u8 20), .lit (.int .u8 15), .lit (.int .u8 25), .lit (.int .u8 17), .lit (.int .u8 4), .lit (.int .u8 8), .lit (.int .u8 31), .lit (.int .u8 27), .lit (.int .u8 13), .lit (.int .u8 23), .lit (.int .u8 21), .lit (.int .u8 19), .lit (.int .u8 16), .lit (.int .u8 7), .lit (.int .u8 26), .lit (.int .u8 12), .lit (.int .u8 18), .lit (.int .u8 6), .lit (.int .u8 11), .lit (.int .u8 5), .lit (.int .u8 10), .lit (.int .u8 9)]
def laid_math_bits_deBruijn64tab {H : Type} : DataW H := .agg [.lit (.int .u8 0), .lit (.int .u8 1), .lit (.int .u8 56), .lit (.int .u8 2), .lit (.int .u8 57), .lit (.int .u8 49), .lit (.int .u8 28), .lit (.int .u8 3), .lit (.int .u8 61), .lit (.int .u8 58), .lit (.int .u8 42), .lit (.int .u8 50), .lit (.int .u8 38), .lit (.int .u8 29), .lit (.int .u8 17), .lit (.int .u8 4), .lit (.int .u8 62), .lit (.int .u8 47), .lit (.int .u8 59), .lit (.int .u8 36), .lit (.int .u8 45), .lit (.int .u8 43), .lit (.int .u8 51), .lit (.int .u8 22), .lit (.int .u8 53), .lit (.int .u8 39), .lit (.int .u8 33), .lit (.int .u8 30), .lit (.int .u8 24), .lit (.int .u8 18), .lit (.int .u8 12), .lit (.int .u8 5), .lit (.int .u8 63), .lit (.int .u8 55), .lit (.int .u8 48), .lit (.int .u8 27), .lit (.int .u8 60), .lit (.int .u8 41), .lit (.int .u8 37), .lit (.int .u8 16), .lit (.int .u8 46), .lit (.int .u8 35), .lit (.int .u8 44), .lit (.int .u8 21), .lit (.int .u8 52), .lit (.int .u8 32), .lit (.int .u8 23), .lit (.int .u8 11), .lit (.int .u8 54), .lit (.int .u8 26), .lit (.int .u8 40), .lit (.int .u8 15), .lit (.int .u8 34), .lit (.int .u8 20), .lit (.int .u8 31), .lit (.int .u8 10), .lit (.int .u8 25), .lit (.int .u8 14), .lit (.int .u8 19), .lit (.int .u8 9), .lit (.int .u8 13), .lit (.int .u8 8), .lit (.int .u8 7), .lit (.int .u8 6)]
def laid_internal_strconv_uint64pow10 {H : Type} : DataW H := .agg [.lit (.int .u64 1), .lit (.int .u64 10), .lit (.int .u64 100), .lit (.int .u64 1000), .lit (.int .u64 10000), .lit (.int .u64 100000), .lit (.int .u64 1000000), .lit (.int .u64 10000000), .lit (.int .u64 100000000), .lit (.int .u64 1000000000), .lit (.int .u64 10000000000), .lit (.int .u64 100000000000), .lit (.int .u64 1000000000000), .lit (.int .u64 10000000000000), .lit (.int .u64 100000000000000), .lit (.int .u64 1000000000000000), .lit (.int .u64 10000000000000000), .lit (.int .u64 100000000000000000), .lit (.int .u64 1000000000000000000), .lit (.int .u64 10000000000000000000)]

/-- 'bombardelaw02.FractionMakes': WHATEVER THE INPUT: true; the input reads as it did. -/
def fractionMakesSpec : ChangeSpec := { name := "fractionMakes", fn := fun _ => fun
  | [d1, d2] => { results := [.lit (.bool true)], args := [d1, d2] }
  | _ => none }
def fractionMakesRow : OpenClaim := { program := "ytoncbkkhfblpdaadoor", sum := "866af20b2e11cee6406e1d44650847125d01e96543a509c0bdc12190c8ddbd9d", func := "bombarde/bombardelaw02.FractionMakes", spec := "fractionMakes", named := ["internal/strconv.uint64pow10", "math/bits.deBruijn32tab", "math/bits.deBruijn64tab"], apart := false, laid := [("math/bits.deBruijn32tab", laid_math_bits_deBruijn32tab), ("math/bits.deBruijn64tab", laid_math_bits_deBruijn64tab), ("internal/strconv.uint64pow10", laid_internal_strconv_uint64pow10)] }
def FractionMakesSaid : Prop := fractionMakesRow.holds Tryd.pinned (OpenSpec.ofChange fractionMakesSpec)

/-- ITS FALSE NEIGHBOUR: 'it returns false'. Refute it at one input. -/
def fractionMakesWrong : ChangeSpec := { name := "fractionMakes", fn := fun _ => fun
  | [d1, d2] => { results := [.lit (.bool false)], args := [d1, d2] }
  | _ => none }
def FractionMakesWrongFalsely : Prop := fractionMakesRow.holds Tryd.pinned (OpenSpec.ofChange fractionMakesWrong)

/-- 'bombardelaw02.FractionSums': WHATEVER THE INPUT: true; the input reads as it did. -/
def fractionSumsSpec : ChangeSpec := { name := "fractionSums", fn := fun _ => fun
  | [d1, d2] => { results := [.lit (.bool true)], args := [d1, d2] }
  | _ => none }
def fractionSumsRow : OpenClaim := { program := "ytoncbkkhfblpdaadoor", sum := "866af20b2e11cee6406e1d44650847125d01e96543a509c0bdc12190c8ddbd9d", func := "bombarde/bombardelaw02.FractionSums", spec := "fractionSums", unfollowed := true, recurses := true, named := ["internal/strconv.uint64pow10", "math/bits.deBruijn32tab", "math/bits.deBruijn64tab"], apart := false, laid := [("math/bits.deBruijn32tab", laid_math_bits_deBruijn32tab), ("math/bits.deBruijn64tab", laid_math_bits_deBruijn64tab), ("internal/strconv.uint64pow10", laid_internal_strconv_uint64pow10)] }
def FractionSumsSaid : Prop := fractionSumsRow.holds Tryd.pinned (OpenSpec.ofChange fractionSumsSpec)

/-- ITS FALSE NEIGHBOUR: 'it returns false'. Refute it at one input. -/
def fractionSumsWrong : ChangeSpec := { name := "fractionSums", fn := fun _ => fun
  | [d1, d2] => { results := [.lit (.bool false)], args := [d1, d2] }
  | _ => none }
def FractionSumsWrongFalsely : Prop := fractionSumsRow.holds Tryd.pinned (OpenSpec.ofChange fractionSumsWrong)

/-- 'bombardelaw02.FractionValues': WHATEVER THE INPUT: true; the input reads as it did. -/
def fractionValuesSpec : ChangeSpec := { name := "fractionValues", fn := fun _ => fun
  | [d] => { results := [.lit (.bool true)], args := [d] }
  | _ => none }
def fractionValuesRow : OpenClaim := { program := "ytoncbkkhfblpdaadoor", sum := "866af20b2e11cee6406e1d44650847125d01e96543a509c0bdc12190c8ddbd9d", func := "bombarde/bombardelaw02.FractionValues", spec := "fractionValues", named := ["internal/strconv.uint64pow10", "math/bits.deBruijn32tab", "math/bits.deBruijn64tab"], apart := false, laid := [("math/bits.deBruijn32tab", laid_math_bits_deBruijn32tab), ("math/bits.deBruijn64tab", laid_math_bits_deBruijn64tab), ("internal/strconv.uint64pow10", laid_internal_strconv_uint64pow10)] }
def FractionValuesSaid : Prop := fractionValuesRow.holds Tryd.pinned (OpenSpec.ofChange fractionValuesSpec)

/-- ITS FALSE NEIGHBOUR: 'it returns false'. Refute it at one input. -/
def fractionValuesWrong : ChangeSpec := { name := "fractionValues", fn := fun _ => fun
  | [d] => { results := [.lit (.bool false)], args := [d] }
  | _ => none }
def FractionValuesWrongFalsely : Prop := fractionValuesRow.holds Tryd.pinned (OpenSpec.ofChange fractionValuesWrong)

/-- 'bombardelaw02.FractionLists': WHATEVER THE INPUT: true; the input reads as it did. -/
def fractionListsSpec : ChangeSpec := { name := "fractionLists", fn := fun _ => fun
  | [d] => { results := [.lit (.bool true)], args := [d] }
  | _ => none }
def fractionListsRow : OpenClaim := { program := "ytoncbkkhfblpdaadoor", sum := "866af20b2e11cee6406e1d44650847125d01e96543a509c0bdc12190c8ddbd9d", func := "bombarde/bombardelaw02.FractionLists", spec := "fractionLists", unfollowed := true, recurses := true, named := ["internal/strconv.uint64pow10", "math/bits.deBruijn32tab", "math/bits.deBruijn64tab"], apart := false, laid := [("math/bits.deBruijn32tab", laid_math_bits_deBruijn32tab), ("math/bits.deBruijn64tab", laid_math_bits_deBruijn64tab), ("internal/strconv.uint64pow10", laid_internal_strconv_uint64pow10)] }
def FractionListsSaid : Prop := fractionListsRow.holds Tryd.pinned (OpenSpec.ofChange fractionListsSpec)

/-- ITS FALSE NEIGHBOUR: 'it returns false'. Refute it at one input. -/
def fractionListsWrong : ChangeSpec := { name := "fractionLists", fn := fun _ => fun
  | [d] => { results := [.lit (.bool false)], args := [d] }
  | _ => none }
def FractionListsWrongFalsely : Prop := fractionListsRow.holds Tryd.pinned (OpenSpec.ofChange fractionListsWrong)

/-- 'bombardelaw02.FractionTexts': WHATEVER THE INPUT: true; the input reads as it did. -/
def fractionTextsSpec : ChangeSpec := { name := "fractionTexts", fn := fun _ => fun
  | [d] => { results := [.lit (.bool true)], args := [d] }
  | _ => none }
def fractionTextsRow : OpenClaim := { program := "ytoncbkkhfblpdaadoor", sum := "866af20b2e11cee6406e1d44650847125d01e96543a509c0bdc12190c8ddbd9d", func := "bombarde/bombardelaw02.FractionTexts", spec := "fractionTexts", recurses := true, named := ["internal/strconv.uint64pow10", "math/bits.deBruijn32tab", "math/bits.deBruijn64tab"], apart := false, laid := [("math/bits.deBruijn32tab", laid_math_bits_deBruijn32tab), ("math/bits.deBruijn64tab", laid_math_bits_deBruijn64tab), ("internal/strconv.uint64pow10", laid_internal_strconv_uint64pow10)] }
def FractionTextsSaid : Prop := fractionTextsRow.holds Tryd.pinned (OpenSpec.ofChange fractionTextsSpec)

/-- ITS FALSE NEIGHBOUR: 'it returns false'. Refute it at one input. -/
def fractionTextsWrong : ChangeSpec := { name := "fractionTexts", fn := fun _ => fun
  | [d] => { results := [.lit (.bool false)], args := [d] }
  | _ => none }
def FractionTextsWrongFalsely : Prop := fractionTextsRow.holds Tryd.pinned (OpenSpec.ofChange fractionTextsWrong)

/-- 'bombardelaw02.FractionParses': WHATEVER THE INPUT: true; the input reads as it did. -/
def fractionParsesSpec : ChangeSpec := { name := "fractionParses", fn := fun _ => fun
  | [d] => { results := [.lit (.bool true)], args := [d] }
  | _ => none }
def fractionParsesRow : OpenClaim := { program := "ytoncbkkhfblpdaadoor", sum := "866af20b2e11cee6406e1d44650847125d01e96543a509c0bdc12190c8ddbd9d", func := "bombarde/bombardelaw02.FractionParses", spec := "fractionParses", named := ["internal/strconv.uint64pow10", "math/bits.deBruijn32tab", "math/bits.deBruijn64tab"], apart := false, laid := [("math/bits.deBruijn32tab", laid_math_bits_deBruijn32tab), ("math/bits.deBruijn64tab", laid_math_bits_deBruijn64tab), ("internal/strconv.uint64pow10", laid_internal_strconv_uint64pow10)] }
def FractionParsesSaid : Prop := fractionParsesRow.holds Tryd.pinned (OpenSpec.ofChange fractionParsesSpec)

/-- ITS FALSE NEIGHBOUR: 'it returns false'. Refute it at one input. -/
def fractionParsesWrong : ChangeSpec := { name := "fractionParses", fn := fun _ => fun
  | [d] => { results := [.lit (.bool false)], args := [d] }
  | _ => none }
def FractionParsesWrongFalsely : Prop := fractionParsesRow.holds Tryd.pinned (OpenSpec.ofChange fractionParsesWrong)

/-- 'bombardelaw02.FractionSimplest': WHATEVER THE INPUT: true; the input reads as it did. -/
def fractionSimplestSpec : ChangeSpec := { name := "fractionSimplest", fn := fun _ => fun
  | [d1, d2] => { results := [.lit (.bool true)], args := [d1, d2] }
  | _ => none }
def fractionSimplestRow : OpenClaim := { program := "ytoncbkkhfblpdaadoor", sum := "866af20b2e11cee6406e1d44650847125d01e96543a509c0bdc12190c8ddbd9d", func := "bombarde/bombardelaw02.FractionSimplest", spec := "fractionSimplest", recurses := true, named := ["internal/strconv.uint64pow10", "math/bits.deBruijn32tab", "math/bits.deBruijn64tab"], apart := false, laid := [("math/bits.deBruijn32tab", laid_math_bits_deBruijn32tab), ("math/bits.deBruijn64tab", laid_math_bits_deBruijn64tab), ("internal/strconv.uint64pow10", laid_internal_strconv_uint64pow10)] }
def FractionSimplestSaid : Prop := fractionSimplestRow.holds Tryd.pinned (OpenSpec.ofChange fractionSimplestSpec)

/-- ITS FALSE NEIGHBOUR: 'it returns false'. Refute it at one input. -/
def fractionSimplestWrong : ChangeSpec := { name := "fractionSimplest", fn := fun _ => fun
  | [d1, d2] => { results := [.lit (.bool false)], args := [d1, d2] }
  | _ => none }
def FractionSimplestWrongFalsely : Prop := fractionSimplestRow.holds Tryd.pinned (OpenSpec.ofChange fractionSimplestWrong)

/-- 'bombardelaw02.FractionGreat': WHATEVER THE INPUT: true; the input reads as it did. -/
def fractionGreatSpec : ChangeSpec := { name := "fractionGreat", fn := fun _ => fun
  | [d1, d2] => { results := [.lit (.bool true)], args := [d1, d2] }
  | _ => none }
def fractionGreatRow : OpenClaim := { program := "ytoncbkkhfblpdaadoor", sum := "866af20b2e11cee6406e1d44650847125d01e96543a509c0bdc12190c8ddbd9d", func := "bombarde/bombardelaw02.FractionGreat", spec := "fractionGreat", unfollowed := true, recurses := true, named := ["internal/strconv.uint64pow10", "math/bits.deBruijn32tab", "math/bits.deBruijn64tab"], apart := false, laid := [("math/bits.deBruijn32tab", laid_math_bits_deBruijn32tab), ("math/bits.deBruijn64tab", laid_math_bits_deBruijn64tab), ("internal/strconv.uint64pow10", laid_internal_strconv_uint64pow10)] }
def FractionGreatSaid : Prop := fractionGreatRow.holds Tryd.pinned (OpenSpec.ofChange fractionGreatSpec)

/-- ITS FALSE NEIGHBOUR: 'it returns false'. Refute it at one input. -/
def fractionGreatWrong : ChangeSpec := { name := "fractionGreat", fn := fun _ => fun
  | [d1, d2] => { results := [.lit (.bool false)], args := [d1, d2] }
  | _ => none }
def FractionGreatWrongFalsely : Prop := fractionGreatRow.holds Tryd.pinned (OpenSpec.ofChange fractionGreatWrong)

/-- 'bombardelaw02.FractionTerms': WHATEVER THE INPUT: true; the input reads as it did. -/
def fractionTermsSpec : ChangeSpec := { name := "fractionTerms", fn := fun _ => fun
  | [d] => { results := [.lit (.bool true)], args := [d] }
  | _ => none }
def fractionTermsRow : OpenClaim := { program := "ytoncbkkhfblpdaadoor", sum := "866af20b2e11cee6406e1d44650847125d01e96543a509c0bdc12190c8ddbd9d", func := "bombarde/bombardelaw02.FractionTerms", spec := "fractionTerms", unfollowed := true, recurses := true, named := ["internal/strconv.uint64pow10", "math/bits.deBruijn32tab", "math/bits.deBruijn64tab"], apart := false, laid := [("math/bits.deBruijn32tab", laid_math_bits_deBruijn32tab), ("math/bits.deBruijn64tab", laid_math_bits_deBruijn64tab), ("internal/strconv.uint64pow10", laid_internal_strconv_uint64pow10)] }
def FractionTermsSaid : Prop := fractionTermsRow.holds Tryd.pinned (OpenSpec.ofChange fractionTermsSpec)

/-- ITS FALSE NEIGHBOUR: 'it returns false'. Refute it at one input. -/
def fractionTermsWrong : ChangeSpec := { name := "fractionTerms", fn := fun _ => fun
  | [d] => { results := [.lit (.bool false)], args := [d] }
  | _ => none }
def FractionTermsWrongFalsely : Prop := fractionTermsRow.holds Tryd.pinned (OpenSpec.ofChange fractionTermsWrong)

/-- 'bombardelaw02.FractionLaws': WHATEVER THE INPUT: true; the input reads as it did. -/
def fractionLawsSpec : ChangeSpec := { name := "fractionLaws", fn := fun _ => fun
  | [d1, d2, d3] => { results := [.lit (.bool true)], args := [d1, d2, d3] }
  | _ => none }
def fractionLawsRow : OpenClaim := { program := "ytoncbkkhfblpdaadoor", sum := "866af20b2e11cee6406e1d44650847125d01e96543a509c0bdc12190c8ddbd9d", func := "bombarde/bombardelaw02.FractionLaws", spec := "fractionLaws", unfollowed := true, recurses := true, named := ["internal/strconv.uint64pow10", "math/bits.deBruijn32tab", "math/bits.deBruijn64tab"], apart := false, laid := [("math/bits.deBruijn32tab", laid_math_bits_deBruijn32tab), ("math/bits.deBruijn64tab", laid_math_bits_deBruijn64tab), ("internal/strconv.uint64pow10", laid_internal_strconv_uint64pow10)] }
def FractionLawsSaid : Prop := fractionLawsRow.holds Tryd.pinned (OpenSpec.ofChange fractionLawsSpec)

/-- ITS FALSE NEIGHBOUR: 'it returns false'. Refute it at one input. -/
def fractionLawsWrong : ChangeSpec := { name := "fractionLaws", fn := fun _ => fun
  | [d1, d2, d3] => { results := [.lit (.bool false)], args := [d1, d2, d3] }
  | _ => none }
def FractionLawsWrongFalsely : Prop := fractionLawsRow.holds Tryd.pinned (OpenSpec.ofChange fractionLawsWrong)

/-- 'bombardelaw02.FractionChecks': WHATEVER THE INPUT: true; the input reads as it did. -/
def fractionChecksSpec : ChangeSpec := { name := "fractionChecks", fn := fun _ => fun
  | [d1, d2] => { results := [.lit (.bool true)], args := [d1, d2] }
  | _ => none }
def fractionChecksRow : OpenClaim := { program := "ytoncbkkhfblpdaadoor", sum := "866af20b2e11cee6406e1d44650847125d01e96543a509c0bdc12190c8ddbd9d", func := "bombarde/bombardelaw02.FractionChecks", spec := "fractionChecks", unfollowed := true, recurses := true, named := ["internal/strconv.uint64pow10", "math/bits.deBruijn32tab", "math/bits.deBruijn64tab"], apart := false, laid := [("math/bits.deBruijn32tab", laid_math_bits_deBruijn32tab), ("math/bits.deBruijn64tab", laid_math_bits_deBruijn64tab), ("internal/strconv.uint64pow10", laid_internal_strconv_uint64pow10)] }
def FractionChecksSaid : Prop := fractionChecksRow.holds Tryd.pinned (OpenSpec.ofChange fractionChecksSpec)

/-- ITS FALSE NEIGHBOUR: 'it returns false'. Refute it at one input. -/
def fractionChecksWrong : ChangeSpec := { name := "fractionChecks", fn := fun _ => fun
  | [d1, d2] => { results := [.lit (.bool false)], args := [d1, d2] }
  | _ => none }
def FractionChecksWrongFalsely : Prop := fractionChecksRow.holds Tryd.pinned (OpenSpec.ofChange fractionChecksWrong)

/- THE SECOND FORM. 'bulk': how many values and letters a reading holds, each counted each time it is reached (what is shared counts as often as it is met; a slice's spare places count too). A statement '..UptoSaid' is the law's where the arguments, and the package variables that the reading takes, are together of bulk at most 1048576: NARROWER than '..Said'. Prove '..Said' where nothing that the law and all that it calls make is longer than what came in: it says more and counts as full. Else prove '..UptoSaid'. A law counts once. -/
mutual
def uptoBulk {H : Type} : DataW H → Nat
  | .lit (.string bytes) => bytes.length + 1
  | .lit _ => 1
  | .nil => 1
  | .ptr d => uptoBulk d + 1
  | .slice elems spare => uptoBulkAll elems + uptoBulkAll spare + 1
  | .agg parts => uptoBulkAll parts + 1
  | .iface _ d => uptoBulk d + 1
  | .map entries => uptoBulkEntries entries + 1
  | .held _ => 1
def uptoBulkAll {H : Type} : List (DataW H) → Nat
  | [] => 0
  | d :: r => uptoBulk d + uptoBulkAll r
def uptoBulkEntries {H : Type} : List (Lit × DataW H) → Nat
  | [] => 0
  | x :: r => uptoBulkEntry x + uptoBulkEntries r
def uptoBulkEntry {H : Type} : Lit × DataW H → Nat
  | (.string bytes, d) => bytes.length + uptoBulk d + 1
  | (_, d) => uptoBulk d + 1
 end
def uptoSmall : (H : Type) → List (DataW H) → Bool := fun _ ds => decide (uptoBulkAll ds ≤ 1048576)
def OpenSpec.upto (s : _root_.Go.ChangeSpec) : _root_.Go.OpenSpec := { _root_.Go.OpenSpec.ofChange s with cond := some uptoSmall }

/-- 'bombardelaw02.FractionMakes', WHERE WHAT IT READS IS OF BULK AT MOST 1048576: true; the input reads as it did. -/
def fractionMakesUptoRow : OpenClaim := { program := "ytoncbkkhfblpdaadoor", sum := "866af20b2e11cee6406e1d44650847125d01e96543a509c0bdc12190c8ddbd9d", func := "bombarde/bombardelaw02.FractionMakes", spec := "fractionMakes", named := ["internal/strconv.uint64pow10", "math/bits.deBruijn32tab", "math/bits.deBruijn64tab"], apart := false, laid := [("math/bits.deBruijn32tab", laid_math_bits_deBruijn32tab), ("math/bits.deBruijn64tab", laid_math_bits_deBruijn64tab), ("internal/strconv.uint64pow10", laid_internal_strconv_uint64pow10)], narrowed := true }
def FractionMakesUptoSaid : Prop := fractionMakesUptoRow.holds Tryd.pinned (OpenSpec.upto fractionMakesSpec)

/-- 'bombardelaw02.FractionSums', WHERE WHAT IT READS IS OF BULK AT MOST 1048576: true; the input reads as it did. -/
def fractionSumsUptoRow : OpenClaim := { program := "ytoncbkkhfblpdaadoor", sum := "866af20b2e11cee6406e1d44650847125d01e96543a509c0bdc12190c8ddbd9d", func := "bombarde/bombardelaw02.FractionSums", spec := "fractionSums", unfollowed := true, recurses := true, named := ["internal/strconv.uint64pow10", "math/bits.deBruijn32tab", "math/bits.deBruijn64tab"], apart := false, laid := [("math/bits.deBruijn32tab", laid_math_bits_deBruijn32tab), ("math/bits.deBruijn64tab", laid_math_bits_deBruijn64tab), ("internal/strconv.uint64pow10", laid_internal_strconv_uint64pow10)], narrowed := true }
def FractionSumsUptoSaid : Prop := fractionSumsUptoRow.holds Tryd.pinned (OpenSpec.upto fractionSumsSpec)

/-- 'bombardelaw02.FractionValues', WHERE WHAT IT READS IS OF BULK AT MOST 1048576: true; the input reads as it did. -/
def fractionValuesUptoRow : OpenClaim := { program := "ytoncbkkhfblpdaadoor", sum := "866af20b2e11cee6406e1d44650847125d01e96543a509c0bdc12190c8ddbd9d", func := "bombarde/bombardelaw02.FractionValues", spec := "fractionValues", named := ["internal/strconv.uint64pow10", "math/bits.deBruijn32tab", "math/bits.deBruijn64tab"], apart := false, laid := [("math/bits.deBruijn32tab", laid_math_bits_deBruijn32tab), ("math/bits.deBruijn64tab", laid_math_bits_deBruijn64tab), ("internal/strconv.uint64pow10", laid_internal_strconv_uint64pow10)], narrowed := true }
def FractionValuesUptoSaid : Prop := fractionValuesUptoRow.holds Tryd.pinned (OpenSpec.upto fractionValuesSpec)

/-- 'bombardelaw02.FractionLists', WHERE WHAT IT READS IS OF BULK AT MOST 1048576: true; the input reads as it did. -/
def fractionListsUptoRow : OpenClaim := { program := "ytoncbkkhfblpdaadoor", sum := "866af20b2e11cee6406e1d44650847125d01e96543a509c0bdc12190c8ddbd9d", func := "bombarde/bombardelaw02.FractionLists", spec := "fractionLists", unfollowed := true, recurses := true, named := ["internal/strconv.uint64pow10", "math/bits.deBruijn32tab", "math/bits.deBruijn64tab"], apart := false, laid := [("math/bits.deBruijn32tab", laid_math_bits_deBruijn32tab), ("math/bits.deBruijn64tab", laid_math_bits_deBruijn64tab), ("internal/strconv.uint64pow10", laid_internal_strconv_uint64pow10)], narrowed := true }
def FractionListsUptoSaid : Prop := fractionListsUptoRow.holds Tryd.pinned (OpenSpec.upto fractionListsSpec)

/-- 'bombardelaw02.FractionTexts', WHERE WHAT IT READS IS OF BULK AT MOST 1048576: true; the input reads as it did. -/
def fractionTextsUptoRow : OpenClaim := { program := "ytoncbkkhfblpdaadoor", sum := "866af20b2e11cee6406e1d44650847125d01e96543a509c0bdc12190c8ddbd9d", func := "bombarde/bombardelaw02.FractionTexts", spec := "fractionTexts", recurses := true, named := ["internal/strconv.uint64pow10", "math/bits.deBruijn32tab", "math/bits.deBruijn64tab"], apart := false, laid := [("math/bits.deBruijn32tab", laid_math_bits_deBruijn32tab), ("math/bits.deBruijn64tab", laid_math_bits_deBruijn64tab), ("internal/strconv.uint64pow10", laid_internal_strconv_uint64pow10)], narrowed := true }
def FractionTextsUptoSaid : Prop := fractionTextsUptoRow.holds Tryd.pinned (OpenSpec.upto fractionTextsSpec)

/-- 'bombardelaw02.FractionParses', WHERE WHAT IT READS IS OF BULK AT MOST 1048576: true; the input reads as it did. -/
def fractionParsesUptoRow : OpenClaim := { program := "ytoncbkkhfblpdaadoor", sum := "866af20b2e11cee6406e1d44650847125d01e96543a509c0bdc12190c8ddbd9d", func := "bombarde/bombardelaw02.FractionParses", spec := "fractionParses", named := ["internal/strconv.uint64pow10", "math/bits.deBruijn32tab", "math/bits.deBruijn64tab"], apart := false, laid := [("math/bits.deBruijn32tab", laid_math_bits_deBruijn32tab), ("math/bits.deBruijn64tab", laid_math_bits_deBruijn64tab), ("internal/strconv.uint64pow10", laid_internal_strconv_uint64pow10)], narrowed := true }
def FractionParsesUptoSaid : Prop := fractionParsesUptoRow.holds Tryd.pinned (OpenSpec.upto fractionParsesSpec)

/-- 'bombardelaw02.FractionSimplest', WHERE WHAT IT READS IS OF BULK AT MOST 1048576: true; the input reads as it did. -/
def fractionSimplestUptoRow : OpenClaim := { program := "ytoncbkkhfblpdaadoor", sum := "866af20b2e11cee6406e1d44650847125d01e96543a509c0bdc12190c8ddbd9d", func := "bombarde/bombardelaw02.FractionSimplest", spec := "fractionSimplest", recurses := true, named := ["internal/strconv.uint64pow10", "math/bits.deBruijn32tab", "math/bits.deBruijn64tab"], apart := false, laid := [("math/bits.deBruijn32tab", laid_math_bits_deBruijn32tab), ("math/bits.deBruijn64tab", laid_math_bits_deBruijn64tab), ("internal/strconv.uint64pow10", laid_internal_strconv_uint64pow10)], narrowed := true }
def FractionSimplestUptoSaid : Prop := fractionSimplestUptoRow.holds Tryd.pinned (OpenSpec.upto fractionSimplestSpec)

/-- 'bombardelaw02.FractionGreat', WHERE WHAT IT READS IS OF BULK AT MOST 1048576: true; the input reads as it did. -/
def fractionGreatUptoRow : OpenClaim := { program := "ytoncbkkhfblpdaadoor", sum := "866af20b2e11cee6406e1d44650847125d01e96543a509c0bdc12190c8ddbd9d", func := "bombarde/bombardelaw02.FractionGreat", spec := "fractionGreat", unfollowed := true, recurses := true, named := ["internal/strconv.uint64pow10", "math/bits.deBruijn32tab", "math/bits.deBruijn64tab"], apart := false, laid := [("math/bits.deBruijn32tab", laid_math_bits_deBruijn32tab), ("math/bits.deBruijn64tab", laid_math_bits_deBruijn64tab), ("internal/strconv.uint64pow10", laid_internal_strconv_uint64pow10)], narrowed := true }
def FractionGreatUptoSaid : Prop := fractionGreatUptoRow.holds Tryd.pinned (OpenSpec.upto fractionGreatSpec)

/-- 'bombardelaw02.FractionTerms', WHERE WHAT IT READS IS OF BULK AT MOST 1048576: true; the input reads as it did. -/
def fractionTermsUptoRow : OpenClaim := { program := "ytoncbkkhfblpdaadoor", sum := "866af20b2e11cee6406e1d44650847125d01e96543a509c0bdc12190c8ddbd9d", func := "bombarde/bombardelaw02.FractionTerms", spec := "fractionTerms", unfollowed := true, recurses := true, named := ["internal/strconv.uint64pow10", "math/bits.deBruijn32tab", "math/bits.deBruijn64tab"], apart := false, laid := [("math/bits.deBruijn32tab", laid_math_bits_deBruijn32tab), ("math/bits.deBruijn64tab", laid_math_bits_deBruijn64tab), ("internal/strconv.uint64pow10", laid_internal_strconv_uint64pow10)], narrowed := true }
def FractionTermsUptoSaid : Prop := fractionTermsUptoRow.holds Tryd.pinned (OpenSpec.upto fractionTermsSpec)

/-- 'bombardelaw02.FractionLaws', WHERE WHAT IT READS IS OF BULK AT MOST 1048576: true; the input reads as it did. -/
def fractionLawsUptoRow : OpenClaim := { program := "ytoncbkkhfblpdaadoor", sum := "866af20b2e11cee6406e1d44650847125d01e96543a509c0bdc12190c8ddbd9d", func := "bombarde/bombardelaw02.FractionLaws", spec := "fractionLaws", unfollowed := true, recurses := true, named := ["internal/strconv.uint64pow10", "math/bits.deBruijn32tab", "math/bits.deBruijn64tab"], apart := false, laid := [("math/bits.deBruijn32tab", laid_math_bits_deBruijn32tab), ("math/bits.deBruijn64tab", laid_math_bits_deBruijn64tab), ("internal/strconv.uint64pow10", laid_internal_strconv_uint64pow10)], narrowed := true }
def FractionLawsUptoSaid : Prop := fractionLawsUptoRow.holds Tryd.pinned (OpenSpec.upto fractionLawsSpec)

/-- 'bombardelaw02.FractionChecks', WHERE WHAT IT READS IS OF BULK AT MOST 1048576: true; the input reads as it did. -/
def fractionChecksUptoRow : OpenClaim := { program := "ytoncbkkhfblpdaadoor", sum := "866af20b2e11cee6406e1d44650847125d01e96543a509c0bdc12190c8ddbd9d", func := "bombarde/bombardelaw02.FractionChecks", spec := "fractionChecks", unfollowed := true, recurses := true, named := ["internal/strconv.uint64pow10", "math/bits.deBruijn32tab", "math/bits.deBruijn64tab"], apart := false, laid := [("math/bits.deBruijn32tab", laid_math_bits_deBruijn32tab), ("math/bits.deBruijn64tab", laid_math_bits_deBruijn64tab), ("internal/strconv.uint64pow10", laid_internal_strconv_uint64pow10)], narrowed := true }
def FractionChecksUptoSaid : Prop := fractionChecksUptoRow.holds Tryd.pinned (OpenSpec.upto fractionChecksSpec)

end Rows
end Go.Proofs.YtoncbkkhfblpdaaDoor
