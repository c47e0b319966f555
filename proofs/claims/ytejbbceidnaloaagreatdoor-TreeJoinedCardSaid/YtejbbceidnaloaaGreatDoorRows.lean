/-
  NARROWER THAN 'FOR EVERY INPUT', by the rows' own cells (each row's printed sentence says how): TreeParses: laid · TreePrints: laid · TreeBack: laid · TreeOneForm: laid · TreeNeeded: laid · TreeKids: laid · TreeFresh: laid · TreeJoined: laid · TreeParts: laid · TreeBrackets: laid · MoveShifts: laid · MoveCopies: laid · MoveThere: laid · MoveTwice: laid · MoveRefs: laid · MoveTexts: laid · MoveFills: laid · MoveEach: laid.
  DERIVED. THE GIVEN ROWS OF THIS SEAT. 18 by the template 'for every input the law returns true; each argument reads behind the call as it read before'; 0 by the template 'total and deterministic' (their statements: YtejbbceidnaloaaGreatDoorTotals.lean).
  GIVEN WITH THE SEED: the statements are not yours to turn. If you find one false, say at which input.
  Laid BY PROGRAM, IN A SANDBOX (cutbox-rows.mjs): the forced cells as the released guide's own fill.sh prints them over the translation 67ff8975d5bbc10e… (all of the seat's roots in one cut). By AI agents, Wed Nov 11 2026. No macro, syntax, notation, axiom, sorry.
-/
import Derived.Test.YtejbbceidnaloaaGreatDoorChecked
import GoSem.PinnedTables
import GoSem.Claim
import GoSem.ClaimJoined
import GoSem.ClaimMapViews
import Derived.JoinedTies
import Derived.KernelRfl
namespace Go.Proofs.YtejbbceidnaloaaGreatDoor
/- THE CELL 'sum', in the pinned program and in every row, IS THE sha256 OF THE DUMP (.gsa) THAT YtejbbceidnaloaaGreatDoorProg.lean LOADS. Nothing in Lean hashes anything: it is a label: what it is worth is what the hold of that sum in a sandbox is worth. -/
noncomputable def Tryz.pinned : Pinned := { name := "ytejbbceidnaloaagreatdoor", sum := "67ff8975d5bbc10e244b371093a287289e7458d83a31c8d1eee7d330957b1860", checked := Tryz.checked }
namespace Rows
def none {H : Type} : Left H := { results := [], args := [] }

/- WHAT THE LISTED PACKAGE-LEVEL VARIABLES READ AS WHEN THE CALL BEGINS. Each datum BY PROGRAM (the guide's laid-datum.mjs) off the statement by which the dump's own 'gosem.cut.vars' lays the variable. In a bare row this is a premise. The card (YtejbbceidnaloaaGreatDoorCards.lean) ties it to the program's text. -/
def laid_math_bits_deBruijn32tab {H : Type} : DataW H := .agg [.lit (.int .u8 0), .lit (.int .u8 1), .lit (.int .u8 28), .lit (.int .u8 2), .lit (.int .u8 29), .lit (.int .u8 14), .lit (.int .u8 24), .lit (.int .u8 3), .lit (.int .u8 30), .lit (.int .u8 22), .lit (.int .u8 20), .lit (.int .u8 15), .lit (.int .u8 25), .lit (.int .u8 17), .lit (.int .u8 4), .lit (.int .u8 8), .lit (.int .u8 31), .lit (.int .u8 27), .lit (.int .u8 13), .lit (.int .u8 23), .lit (.int .u8 21), .lit (.int .u8 19), .lit (.int .u8 16), .lit (.int .u8 7), .lit (.int .u8 26), .lit (.int .u8 12), .lit (.int .u8 18), .lit (.int .u8 6), .lit (.int .u8 11), .lit (.int .u8 5), .lit (.int .u8 10), .lit (.int .u8 9)]
def laid_math_bits_deBruijn64tab {H : Type} : DataW H := .agg [.lit (.int .u8 0), .lit (.int .u8 1), .lit (.int .u8 56), .lit (.int .u8 2), .lit (.int .u8 57), .lit (.int .u8 49), .lit (.int .u8 28), .lit (.int .u8 3), .lit (.int .u8 61), .lit (.int .u8 58), .lit (.int .u8 42), .lit (.int .u8 50), .lit (.int .u8 38), .lit (.int .u8 29), .lit (.int .u8 17), .lit (.int .u8 4), .lit (.int .u8 62), .lit (.int .u8 47), .lit (.int .u8 59), .lit (.int .u8 36), .lit (.int .u8 45), .lit (.int .u8 43), .lit (.int .u8 51), .lit (.int .u8 22), .lit (.int .u8 53), .lit (.int .u8 39), .lit (.int .u8 33), .lit (.int .u8 30), .lit (.int .u8 24), .lit (.int .u8 18), .lit (.int .u8 12), .lit (.int .u8 5), .lit (.int .u8 63), .lit (.int .u8 55), .lit (.int .u8 48), .lit (.int .u8 27), .lit (.int .u8 60), .lit (.int .u8 41), .lit (.int .u8 37), .lit (.int .u8 16), .lit (.int .u8 46), .lit (.int .u8 35), .lit (.int .u8 44), .lit (.int .u8 21), .lit (.int .u8 52), .lit (.int .u8 32), .lit (.int .u8 23), .lit (.int .u8 11), .lit (.int .u8 54), .lit (.int .u8 26), .lit (.int .u8 40), .lit (.int .u8 15), .lit (.int .u8 34), .lit (.int .u8 20), .lit (.int .u8 31), .lit (.int .u8 10), .lit (.int .u8 25), .lit (.int .u8 14), .lit (.int .u8 19), .lit (.int .u8 9), .lit (.int .u8 13), .lit (.int .u8 8), .lit (.int .u8 7), .lit (.int .u8 6)]
def laid_internal_strconv_uint64pow10 {H : Type} : DataW H := .agg [.lit (.int .u64 1), .lit (.int .u64 10), .lit (.int .u64 100), .lit (.int .u64 1000), .lit (.int .u64 10000), .lit (.int .u64 100000), .lit (.int .u64 1000000), .lit (.int .u64 10000000), .lit (.int .u64 100000000), .lit (.int .u64 1000000000), .lit (.int .u64 10000000000), .lit (.int .u64 100000000000), .lit (.int .u64 1000000000000), .lit (.int .u64 10000000000000), .lit (.int .u64 100000000000000), .lit (.int .u64 1000000000000000), .lit (.int .u64 10000000000000000), .lit (.int .u64 100000000000000000), .lit (.int .u64 1000000000000000000), .lit (.int .u64 10000000000000000000)]
def laid_unicode_utf8_acceptRanges {H : Type} : DataW H := .agg [.agg [.lit (.int .u8 128), .lit (.int .u8 191)], .agg [.lit (.int .u8 160), .lit (.int .u8 191)], .agg [.lit (.int .u8 128), .lit (.int .u8 159)], .agg [.lit (.int .u8 144), .lit (.int .u8 191)], .agg [.lit (.int .u8 128), .lit (.int .u8 143)], .agg [.lit (.int .u8 0), .lit (.int .u8 0)], .agg [.lit (.int .u8 0), .lit (.int .u8 0)], .agg [.lit (.int .u8 0), .lit (.int .u8 0)], .agg [.lit (.int .u8 0), .lit (.int .u8 0)], .agg [.lit (.int .u8 0), .lit (.int .u8 0)], .agg [.lit (.int .u8 0), .lit (.int .u8 0)], .agg [.lit (.int .u8 0), .lit (.int .u8 0)], .agg [.lit (.int .u8 0), .lit (.int .u8 0)], .agg [.lit (.int .u8 0), .lit (.int .u8 0)], .agg [.lit (.int .u8 0), .lit (.int .u8 0)], .agg [.lit (.int .u8 0), .lit (.int .u8 0)]]
def laid_strconv_ErrRange {H : Type} : DataW H := .iface "*errors.errorString" (.ptr (.agg [.lit (.string [118, 97, 108, 117, 101, 32, 111, 117, 116, 32, 111, 102, 32, 114, 97, 110, 103, 101])]))
def laid_strconv_ErrSyntax {H : Type} : DataW H := .iface "*errors.errorString" (.ptr (.agg [.lit (.string [105, 110, 118, 97, 108, 105, 100, 32, 115, 121, 110, 116, 97, 120])]))
def laid_whittle_lex_pairs {H : Type} : DataW H := .agg [.lit (.string [60, 62]), .lit (.string [60, 61]), .lit (.string [62, 61])]
def laid_whittle_lex_faults {H : Type} : DataW H := .agg [.lit (.string [35, 68, 73, 86, 47, 48, 33]), .lit (.string [35, 86, 65, 76, 85, 69, 33]), .lit (.string [35, 82, 69, 70, 33]), .lit (.string [35, 78, 85, 77, 33]), .lit (.string [35, 78, 47, 65]), .lit (.string [35, 67, 73, 82, 67, 76, 69, 33]), .lit (.string [35, 76, 79, 78, 71, 33]), .lit (.string [35, 65, 82, 71, 33])]
def laid_whittle_value_names {H : Type} : DataW H := .agg [.lit (.string [35, 68, 73, 86, 47, 48, 33]), .lit (.string [35, 86, 65, 76, 85, 69, 33]), .lit (.string [35, 82, 69, 70, 33]), .lit (.string [35, 78, 85, 77, 33]), .lit (.string [35, 78, 47, 65]), .lit (.string [35, 67, 73, 82, 67, 76, 69, 33]), .lit (.string [35, 76, 79, 78, 71, 33]), .lit (.string [35, 65, 82, 71, 33])]
/-- One of Go's own tables, pinned by name: the form's constant. -/
def laid_unicode_CaseRanges : DataW Unit := Go.Pinned.caseRanges
/-- One of Go's own tables, pinned by name: the form's constant. -/
def laid_unicode_utf8_first : DataW Unit := Go.Pinned.utf8First

/-- 'whittlelaw5.TreeParses': WHATEVER THE INPUT: true; the input reads as it did. -/
def treeParsesSpec : ChangeSpec := { name := "treeParses", fn := fun _ => fun
  | [d] => { results := [.lit (.bool true)], args := [d] }
  | _ => none }
def treeParsesRow : OpenClaim := { program := "ytejbbceidnaloaagreatdoor", sum := "67ff8975d5bbc10e244b371093a287289e7458d83a31c8d1eee7d330957b1860", func := "whittle/whittlelaw5.TreeParses", spec := "treeParses", inPlace := ["internal/bytealg.IndexByteString", "internal/bytealg.CountString", "internal/bytealg.IndexString", "internal/abi.NoEscape", "internal/bytealg.MakeNoZero"], unfollowed := true, recurses := true, named := ["whittle/lex.faults", "whittle/lex.pairs", "internal/bytealg.MaxLen", "unicode/utf8.first", "unicode/utf8.acceptRanges", "unicode.CaseRanges", "strconv.ErrSyntax", "strconv.ErrRange", "internal/strconv.uint64pow10", "math/bits.deBruijn32tab", "math/bits.deBruijn64tab", "whittle/value.names"], apart := false, laid := [("math/bits.deBruijn32tab", laid_math_bits_deBruijn32tab), ("math/bits.deBruijn64tab", laid_math_bits_deBruijn64tab), ("internal/strconv.uint64pow10", laid_internal_strconv_uint64pow10), ("unicode/utf8.acceptRanges", laid_unicode_utf8_acceptRanges), ("strconv.ErrRange", laid_strconv_ErrRange), ("strconv.ErrSyntax", laid_strconv_ErrSyntax), ("whittle/lex.pairs", laid_whittle_lex_pairs), ("whittle/lex.faults", laid_whittle_lex_faults), ("whittle/value.names", laid_whittle_value_names), ("unicode.CaseRanges", laid_unicode_CaseRanges), ("unicode/utf8.first", laid_unicode_utf8_first)] }
def TreeParsesSaid : Prop := treeParsesRow.holds Tryz.pinned (OpenSpec.ofChange treeParsesSpec)

/-- ITS FALSE NEIGHBOUR: 'it returns false'. Refute it at one input. -/
def treeParsesWrong : ChangeSpec := { name := "treeParses", fn := fun _ => fun
  | [d] => { results := [.lit (.bool false)], args := [d] }
  | _ => none }
def TreeParsesWrongFalsely : Prop := treeParsesRow.holds Tryz.pinned (OpenSpec.ofChange treeParsesWrong)

/-- 'whittlelaw5.TreePrints': WHATEVER THE INPUT: true; the input reads as it did. -/
def treePrintsSpec : ChangeSpec := { name := "treePrints", fn := fun _ => fun
  | [d] => { results := [.lit (.bool true)], args := [d] }
  | _ => none }
def treePrintsRow : OpenClaim := { program := "ytejbbceidnaloaagreatdoor", sum := "67ff8975d5bbc10e244b371093a287289e7458d83a31c8d1eee7d330957b1860", func := "whittle/whittlelaw5.TreePrints", spec := "treePrints", inPlace := ["internal/abi.NoEscape", "internal/bytealg.MakeNoZero", "internal/bytealg.CountString", "internal/bytealg.IndexByteString", "internal/bytealg.IndexString"], unfollowed := true, recurses := true, named := ["unicode/utf8.first", "unicode/utf8.acceptRanges", "unicode.CaseRanges", "internal/bytealg.MaxLen", "whittle/value.names", "internal/strconv.uint64pow10", "math/bits.deBruijn32tab", "math/bits.deBruijn64tab", "whittle/lex.faults", "whittle/lex.pairs", "strconv.ErrSyntax", "strconv.ErrRange"], apart := false, laid := [("math/bits.deBruijn32tab", laid_math_bits_deBruijn32tab), ("math/bits.deBruijn64tab", laid_math_bits_deBruijn64tab), ("internal/strconv.uint64pow10", laid_internal_strconv_uint64pow10), ("unicode/utf8.acceptRanges", laid_unicode_utf8_acceptRanges), ("strconv.ErrRange", laid_strconv_ErrRange), ("strconv.ErrSyntax", laid_strconv_ErrSyntax), ("whittle/lex.pairs", laid_whittle_lex_pairs), ("whittle/lex.faults", laid_whittle_lex_faults), ("whittle/value.names", laid_whittle_value_names), ("unicode.CaseRanges", laid_unicode_CaseRanges), ("unicode/utf8.first", laid_unicode_utf8_first)] }
def TreePrintsSaid : Prop := treePrintsRow.holds Tryz.pinned (OpenSpec.ofChange treePrintsSpec)

/-- ITS FALSE NEIGHBOUR: 'it returns false'. Refute it at one input. -/
def treePrintsWrong : ChangeSpec := { name := "treePrints", fn := fun _ => fun
  | [d] => { results := [.lit (.bool false)], args := [d] }
  | _ => none }
def TreePrintsWrongFalsely : Prop := treePrintsRow.holds Tryz.pinned (OpenSpec.ofChange treePrintsWrong)

/-- 'whittlelaw5.TreeBack': WHATEVER THE INPUT: true; the input reads as it did. -/
def treeBackSpec : ChangeSpec := { name := "treeBack", fn := fun _ => fun
  | [d] => { results := [.lit (.bool true)], args := [d] }
  | _ => none }
def treeBackRow : OpenClaim := { program := "ytejbbceidnaloaagreatdoor", sum := "67ff8975d5bbc10e244b371093a287289e7458d83a31c8d1eee7d330957b1860", func := "whittle/whittlelaw5.TreeBack", spec := "treeBack", inPlace := ["internal/bytealg.IndexByteString", "internal/bytealg.CountString", "internal/bytealg.IndexString", "internal/abi.NoEscape", "internal/bytealg.MakeNoZero"], unfollowed := true, recurses := true, named := ["whittle/lex.faults", "whittle/lex.pairs", "internal/bytealg.MaxLen", "unicode/utf8.first", "unicode/utf8.acceptRanges", "unicode.CaseRanges", "strconv.ErrSyntax", "strconv.ErrRange", "internal/strconv.uint64pow10", "math/bits.deBruijn32tab", "math/bits.deBruijn64tab", "whittle/value.names"], apart := false, laid := [("math/bits.deBruijn32tab", laid_math_bits_deBruijn32tab), ("math/bits.deBruijn64tab", laid_math_bits_deBruijn64tab), ("internal/strconv.uint64pow10", laid_internal_strconv_uint64pow10), ("unicode/utf8.acceptRanges", laid_unicode_utf8_acceptRanges), ("strconv.ErrRange", laid_strconv_ErrRange), ("strconv.ErrSyntax", laid_strconv_ErrSyntax), ("whittle/lex.pairs", laid_whittle_lex_pairs), ("whittle/lex.faults", laid_whittle_lex_faults), ("whittle/value.names", laid_whittle_value_names), ("unicode.CaseRanges", laid_unicode_CaseRanges), ("unicode/utf8.first", laid_unicode_utf8_first)] }
def TreeBackSaid : Prop := treeBackRow.holds Tryz.pinned (OpenSpec.ofChange treeBackSpec)

/-- ITS FALSE NEIGHBOUR: 'it returns false'. Refute it at one input. -/
def treeBackWrong : ChangeSpec := { name := "treeBack", fn := fun _ => fun
  | [d] => { results := [.lit (.bool false)], args := [d] }
  | _ => none }
def TreeBackWrongFalsely : Prop := treeBackRow.holds Tryz.pinned (OpenSpec.ofChange treeBackWrong)

/-- 'whittlelaw5.TreeOneForm': WHATEVER THE INPUT: true; the input reads as it did. -/
def treeOneFormSpec : ChangeSpec := { name := "treeOneForm", fn := fun _ => fun
  | [d] => { results := [.lit (.bool true)], args := [d] }
  | _ => none }
def treeOneFormRow : OpenClaim := { program := "ytejbbceidnaloaagreatdoor", sum := "67ff8975d5bbc10e244b371093a287289e7458d83a31c8d1eee7d330957b1860", func := "whittle/whittlelaw5.TreeOneForm", spec := "treeOneForm", inPlace := ["internal/bytealg.IndexByteString", "internal/bytealg.CountString", "internal/bytealg.IndexString", "internal/abi.NoEscape", "internal/bytealg.MakeNoZero"], unfollowed := true, recurses := true, named := ["whittle/lex.faults", "whittle/lex.pairs", "internal/bytealg.MaxLen", "unicode/utf8.first", "unicode/utf8.acceptRanges", "unicode.CaseRanges", "strconv.ErrSyntax", "strconv.ErrRange", "internal/strconv.uint64pow10", "math/bits.deBruijn32tab", "math/bits.deBruijn64tab", "whittle/value.names"], apart := false, laid := [("math/bits.deBruijn32tab", laid_math_bits_deBruijn32tab), ("math/bits.deBruijn64tab", laid_math_bits_deBruijn64tab), ("internal/strconv.uint64pow10", laid_internal_strconv_uint64pow10), ("unicode/utf8.acceptRanges", laid_unicode_utf8_acceptRanges), ("strconv.ErrRange", laid_strconv_ErrRange), ("strconv.ErrSyntax", laid_strconv_ErrSyntax), ("whittle/lex.pairs", laid_whittle_lex_pairs), ("whittle/lex.faults", laid_whittle_lex_faults), ("whittle/value.names", laid_whittle_value_names), ("unicode.CaseRanges", laid_unicode_CaseRanges), ("unicode/utf8.first", laid_unicode_utf8_first)] }
def TreeOneFormSaid : Prop := treeOneFormRow.holds Tryz.pinned (OpenSpec.ofChange treeOneFormSpec)

/-- ITS FALSE NEIGHBOUR: 'it returns false'. Refute it at one input. -/
def treeOneFormWrong : ChangeSpec := { name := "treeOneForm", fn := fun _ => fun
  | [d] => { results := [.lit (.bool false)], args := [d] }
  | _ => none }
def TreeOneFormWrongFalsely : Prop := treeOneFormRow.holds Tryz.pinned (OpenSpec.ofChange treeOneFormWrong)

/-- 'whittlelaw5.TreeNeeded': WHATEVER THE INPUT: true; the input reads as it did. -/
def treeNeededSpec : ChangeSpec := { name := "treeNeeded", fn := fun _ => fun
  | [d1, d2] => { results := [.lit (.bool true)], args := [d1, d2] }
  | _ => none }
def treeNeededRow : OpenClaim := { program := "ytejbbceidnaloaagreatdoor", sum := "67ff8975d5bbc10e244b371093a287289e7458d83a31c8d1eee7d330957b1860", func := "whittle/whittlelaw5.TreeNeeded", spec := "treeNeeded", inPlace := ["internal/bytealg.IndexByteString", "internal/bytealg.CountString", "internal/bytealg.IndexString", "internal/abi.NoEscape", "internal/bytealg.MakeNoZero"], unfollowed := true, recurses := true, named := ["whittle/lex.faults", "whittle/lex.pairs", "internal/bytealg.MaxLen", "unicode/utf8.first", "unicode/utf8.acceptRanges", "unicode.CaseRanges", "strconv.ErrSyntax", "strconv.ErrRange", "internal/strconv.uint64pow10", "math/bits.deBruijn32tab", "math/bits.deBruijn64tab", "whittle/value.names"], apart := false, laid := [("math/bits.deBruijn32tab", laid_math_bits_deBruijn32tab), ("math/bits.deBruijn64tab", laid_math_bits_deBruijn64tab), ("internal/strconv.uint64pow10", laid_internal_strconv_uint64pow10), ("unicode/utf8.acceptRanges", laid_unicode_utf8_acceptRanges), ("strconv.ErrRange", laid_strconv_ErrRange), ("strconv.ErrSyntax", laid_strconv_ErrSyntax), ("whittle/lex.pairs", laid_whittle_lex_pairs), ("whittle/lex.faults", laid_whittle_lex_faults), ("whittle/value.names", laid_whittle_value_names), ("unicode.CaseRanges", laid_unicode_CaseRanges), ("unicode/utf8.first", laid_unicode_utf8_first)] }
def TreeNeededSaid : Prop := treeNeededRow.holds Tryz.pinned (OpenSpec.ofChange treeNeededSpec)

/-- ITS FALSE NEIGHBOUR: 'it returns false'. Refute it at one input. -/
def treeNeededWrong : ChangeSpec := { name := "treeNeeded", fn := fun _ => fun
  | [d1, d2] => { results := [.lit (.bool false)], args := [d1, d2] }
  | _ => none }
def TreeNeededWrongFalsely : Prop := treeNeededRow.holds Tryz.pinned (OpenSpec.ofChange treeNeededWrong)

/-- 'whittlelaw5.TreeKids': WHATEVER THE INPUT: true; the input reads as it did. -/
def treeKidsSpec : ChangeSpec := { name := "treeKids", fn := fun _ => fun
  | [d1, d2] => { results := [.lit (.bool true)], args := [d1, d2] }
  | _ => none }
def treeKidsRow : OpenClaim := { program := "ytejbbceidnaloaagreatdoor", sum := "67ff8975d5bbc10e244b371093a287289e7458d83a31c8d1eee7d330957b1860", func := "whittle/whittlelaw5.TreeKids", spec := "treeKids", inPlace := ["internal/abi.NoEscape", "internal/bytealg.MakeNoZero", "internal/bytealg.IndexByteString", "internal/bytealg.CountString", "internal/bytealg.IndexString"], unfollowed := true, recurses := true, named := ["unicode/utf8.first", "unicode/utf8.acceptRanges", "unicode.CaseRanges", "whittle/lex.faults", "whittle/lex.pairs", "internal/bytealg.MaxLen", "strconv.ErrSyntax", "strconv.ErrRange", "internal/strconv.uint64pow10", "math/bits.deBruijn32tab", "math/bits.deBruijn64tab", "whittle/value.names"], apart := false, laid := [("math/bits.deBruijn32tab", laid_math_bits_deBruijn32tab), ("math/bits.deBruijn64tab", laid_math_bits_deBruijn64tab), ("internal/strconv.uint64pow10", laid_internal_strconv_uint64pow10), ("unicode/utf8.acceptRanges", laid_unicode_utf8_acceptRanges), ("strconv.ErrRange", laid_strconv_ErrRange), ("strconv.ErrSyntax", laid_strconv_ErrSyntax), ("whittle/lex.pairs", laid_whittle_lex_pairs), ("whittle/lex.faults", laid_whittle_lex_faults), ("whittle/value.names", laid_whittle_value_names), ("unicode.CaseRanges", laid_unicode_CaseRanges), ("unicode/utf8.first", laid_unicode_utf8_first)] }
def TreeKidsSaid : Prop := treeKidsRow.holds Tryz.pinned (OpenSpec.ofChange treeKidsSpec)

/-- ITS FALSE NEIGHBOUR: 'it returns false'. Refute it at one input. -/
def treeKidsWrong : ChangeSpec := { name := "treeKids", fn := fun _ => fun
  | [d1, d2] => { results := [.lit (.bool false)], args := [d1, d2] }
  | _ => none }
def TreeKidsWrongFalsely : Prop := treeKidsRow.holds Tryz.pinned (OpenSpec.ofChange treeKidsWrong)

/-- 'whittlelaw5.TreeFresh': WHATEVER THE INPUT: true; the input reads as it did. -/
def treeFreshSpec : ChangeSpec := { name := "treeFresh", fn := fun _ => fun
  | [d] => { results := [.lit (.bool true)], args := [d] }
  | _ => none }
def treeFreshRow : OpenClaim := { program := "ytejbbceidnaloaagreatdoor", sum := "67ff8975d5bbc10e244b371093a287289e7458d83a31c8d1eee7d330957b1860", func := "whittle/whittlelaw5.TreeFresh", spec := "treeFresh", inPlace := ["internal/bytealg.IndexByteString", "internal/bytealg.CountString", "internal/bytealg.IndexString", "internal/abi.NoEscape", "internal/bytealg.MakeNoZero"], unfollowed := true, recurses := true, named := ["whittle/lex.faults", "whittle/lex.pairs", "internal/bytealg.MaxLen", "unicode/utf8.first", "unicode/utf8.acceptRanges", "unicode.CaseRanges", "strconv.ErrSyntax", "strconv.ErrRange", "internal/strconv.uint64pow10", "math/bits.deBruijn32tab", "math/bits.deBruijn64tab", "whittle/value.names"], apart := false, laid := [("math/bits.deBruijn32tab", laid_math_bits_deBruijn32tab), ("math/bits.deBruijn64tab", laid_math_bits_deBruijn64tab), ("internal/strconv.uint64pow10", laid_internal_strconv_uint64pow10), ("unicode/utf8.acceptRanges", laid_unicode_utf8_acceptRanges), ("strconv.ErrRange", laid_strconv_ErrRange), ("strconv.ErrSyntax", laid_strconv_ErrSyntax), ("whittle/lex.pairs", laid_whittle_lex_pairs), ("whittle/lex.faults", laid_whittle_lex_faults), ("whittle/value.names", laid_whittle_value_names), ("unicode.CaseRanges", laid_unicode_CaseRanges), ("unicode/utf8.first", laid_unicode_utf8_first)] }
def TreeFreshSaid : Prop := treeFreshRow.holds Tryz.pinned (OpenSpec.ofChange treeFreshSpec)

/-- ITS FALSE NEIGHBOUR: 'it returns false'. Refute it at one input. -/
def treeFreshWrong : ChangeSpec := { name := "treeFresh", fn := fun _ => fun
  | [d] => { results := [.lit (.bool false)], args := [d] }
  | _ => none }
def TreeFreshWrongFalsely : Prop := treeFreshRow.holds Tryz.pinned (OpenSpec.ofChange treeFreshWrong)

/-- 'whittlelaw5.TreeJoined': WHATEVER THE INPUT: true; the input reads as it did. -/
def treeJoinedSpec : ChangeSpec := { name := "treeJoined", fn := fun _ => fun
  | [d1, d2, d3] => { results := [.lit (.bool true)], args := [d1, d2, d3] }
  | _ => none }
def treeJoinedRow : OpenClaim := { program := "ytejbbceidnaloaagreatdoor", sum := "67ff8975d5bbc10e244b371093a287289e7458d83a31c8d1eee7d330957b1860", func := "whittle/whittlelaw5.TreeJoined", spec := "treeJoined", inPlace := ["internal/bytealg.IndexByteString", "internal/bytealg.CountString", "internal/bytealg.IndexString", "internal/abi.NoEscape", "internal/bytealg.MakeNoZero"], unfollowed := true, recurses := true, named := ["whittle/lex.faults", "whittle/lex.pairs", "internal/bytealg.MaxLen", "unicode/utf8.first", "unicode/utf8.acceptRanges", "unicode.CaseRanges", "strconv.ErrSyntax", "strconv.ErrRange", "internal/strconv.uint64pow10", "math/bits.deBruijn32tab", "math/bits.deBruijn64tab", "whittle/value.names"], apart := false, laid := [("math/bits.deBruijn32tab", laid_math_bits_deBruijn32tab), ("math/bits.deBruijn64tab", laid_math_bits_deBruijn64tab), ("internal/strconv.uint64pow10", laid_internal_strconv_uint64pow10), ("unicode/utf8.acceptRanges", laid_unicode_utf8_acceptRanges), ("strconv.ErrRange", laid_strconv_ErrRange), ("strconv.ErrSyntax", laid_strconv_ErrSyntax), ("whittle/lex.pairs", laid_whittle_lex_pairs), ("whittle/lex.faults", laid_whittle_lex_faults), ("whittle/value.names", laid_whittle_value_names), ("unicode.CaseRanges", laid_unicode_CaseRanges), ("unicode/utf8.first", laid_unicode_utf8_first)] }
def TreeJoinedSaid : Prop := treeJoinedRow.holds Tryz.pinned (OpenSpec.ofChange treeJoinedSpec)

/-- ITS FALSE NEIGHBOUR: 'it returns false'. Refute it at one input. -/
def treeJoinedWrong : ChangeSpec := { name := "treeJoined", fn := fun _ => fun
  | [d1, d2, d3] => { results := [.lit (.bool false)], args := [d1, d2, d3] }
  | _ => none }
def TreeJoinedWrongFalsely : Prop := treeJoinedRow.holds Tryz.pinned (OpenSpec.ofChange treeJoinedWrong)

/-- 'whittlelaw5.TreeParts': WHATEVER THE INPUT: true; the input reads as it did. -/
def treePartsSpec : ChangeSpec := { name := "treeParts", fn := fun _ => fun
  | [d1, d2] => { results := [.lit (.bool true)], args := [d1, d2] }
  | _ => none }
def treePartsRow : OpenClaim := { program := "ytejbbceidnaloaagreatdoor", sum := "67ff8975d5bbc10e244b371093a287289e7458d83a31c8d1eee7d330957b1860", func := "whittle/whittlelaw5.TreeParts", spec := "treeParts", inPlace := ["internal/bytealg.IndexByteString", "internal/bytealg.CountString", "internal/bytealg.IndexString", "internal/abi.NoEscape", "internal/bytealg.MakeNoZero"], unfollowed := true, recurses := true, named := ["whittle/lex.faults", "whittle/lex.pairs", "internal/bytealg.MaxLen", "unicode/utf8.first", "unicode/utf8.acceptRanges", "unicode.CaseRanges", "strconv.ErrSyntax", "strconv.ErrRange", "internal/strconv.uint64pow10", "math/bits.deBruijn32tab", "math/bits.deBruijn64tab", "whittle/value.names"], apart := false, laid := [("math/bits.deBruijn32tab", laid_math_bits_deBruijn32tab), ("math/bits.deBruijn64tab", laid_math_bits_deBruijn64tab), ("internal/strconv.uint64pow10", laid_internal_strconv_uint64pow10), ("unicode/utf8.acceptRanges", laid_unicode_utf8_acceptRanges), ("strconv.ErrRange", laid_strconv_ErrRange), ("strconv.ErrSyntax", laid_strconv_ErrSyntax), ("whittle/lex.pairs", laid_whittle_lex_pairs), ("whittle/lex.faults", laid_whittle_lex_faults), ("whittle/value.names", laid_whittle_value_names), ("unicode.CaseRanges", laid_unicode_CaseRanges), ("unicode/utf8.first", laid_unicode_utf8_first)] }
def TreePartsSaid : Prop := treePartsRow.holds Tryz.pinned (OpenSpec.ofChange treePartsSpec)

/-- ITS FALSE NEIGHBOUR: 'it returns false'. Refute it at one input. -/
def treePartsWrong : ChangeSpec := { name := "treeParts", fn := fun _ => fun
  | [d1, d2] => { results := [.lit (.bool false)], args := [d1, d2] }
  | _ => none }
def TreePartsWrongFalsely : Prop := treePartsRow.holds Tryz.pinned (OpenSpec.ofChange treePartsWrong)

/-- 'whittlelaw5.TreeBrackets': WHATEVER THE INPUT: true; the input reads as it did. -/
def treeBracketsSpec : ChangeSpec := { name := "treeBrackets", fn := fun _ => fun
  | [d] => { results := [.lit (.bool true)], args := [d] }
  | _ => none }
def treeBracketsRow : OpenClaim := { program := "ytejbbceidnaloaagreatdoor", sum := "67ff8975d5bbc10e244b371093a287289e7458d83a31c8d1eee7d330957b1860", func := "whittle/whittlelaw5.TreeBrackets", spec := "treeBrackets", inPlace := ["internal/bytealg.IndexByteString", "internal/bytealg.CountString", "internal/bytealg.IndexString", "internal/abi.NoEscape", "internal/bytealg.MakeNoZero"], unfollowed := true, recurses := true, named := ["whittle/lex.faults", "whittle/lex.pairs", "internal/bytealg.MaxLen", "unicode/utf8.first", "unicode/utf8.acceptRanges", "unicode.CaseRanges", "strconv.ErrSyntax", "strconv.ErrRange", "internal/strconv.uint64pow10", "math/bits.deBruijn32tab", "math/bits.deBruijn64tab", "whittle/value.names"], apart := false, laid := [("math/bits.deBruijn32tab", laid_math_bits_deBruijn32tab), ("math/bits.deBruijn64tab", laid_math_bits_deBruijn64tab), ("internal/strconv.uint64pow10", laid_internal_strconv_uint64pow10), ("unicode/utf8.acceptRanges", laid_unicode_utf8_acceptRanges), ("strconv.ErrRange", laid_strconv_ErrRange), ("strconv.ErrSyntax", laid_strconv_ErrSyntax), ("whittle/lex.pairs", laid_whittle_lex_pairs), ("whittle/lex.faults", laid_whittle_lex_faults), ("whittle/value.names", laid_whittle_value_names), ("unicode.CaseRanges", laid_unicode_CaseRanges), ("unicode/utf8.first", laid_unicode_utf8_first)] }
def TreeBracketsSaid : Prop := treeBracketsRow.holds Tryz.pinned (OpenSpec.ofChange treeBracketsSpec)

/-- ITS FALSE NEIGHBOUR: 'it returns false'. Refute it at one input. -/
def treeBracketsWrong : ChangeSpec := { name := "treeBrackets", fn := fun _ => fun
  | [d] => { results := [.lit (.bool false)], args := [d] }
  | _ => none }
def TreeBracketsWrongFalsely : Prop := treeBracketsRow.holds Tryz.pinned (OpenSpec.ofChange treeBracketsWrong)

/-- 'whittlelaw6.MoveShifts': WHATEVER THE INPUT: true; the input reads as it did. -/
def moveShiftsSpec : ChangeSpec := { name := "moveShifts", fn := fun _ => fun
  | [d1, d2, d3] => { results := [.lit (.bool true)], args := [d1, d2, d3] }
  | _ => none }
def moveShiftsRow : OpenClaim := { program := "ytejbbceidnaloaagreatdoor", sum := "67ff8975d5bbc10e244b371093a287289e7458d83a31c8d1eee7d330957b1860", func := "whittle/whittlelaw6.MoveShifts", spec := "moveShifts", inPlace := ["internal/abi.NoEscape", "internal/bytealg.MakeNoZero", "internal/bytealg.IndexByteString", "internal/bytealg.CountString", "internal/bytealg.IndexString"], unfollowed := true, recurses := true, named := ["unicode/utf8.first", "unicode/utf8.acceptRanges", "unicode.CaseRanges", "whittle/lex.faults", "whittle/lex.pairs", "internal/bytealg.MaxLen", "strconv.ErrSyntax", "strconv.ErrRange", "internal/strconv.uint64pow10", "math/bits.deBruijn32tab", "math/bits.deBruijn64tab", "whittle/value.names"], apart := false, laid := [("math/bits.deBruijn32tab", laid_math_bits_deBruijn32tab), ("math/bits.deBruijn64tab", laid_math_bits_deBruijn64tab), ("internal/strconv.uint64pow10", laid_internal_strconv_uint64pow10), ("unicode/utf8.acceptRanges", laid_unicode_utf8_acceptRanges), ("strconv.ErrRange", laid_strconv_ErrRange), ("strconv.ErrSyntax", laid_strconv_ErrSyntax), ("whittle/lex.pairs", laid_whittle_lex_pairs), ("whittle/lex.faults", laid_whittle_lex_faults), ("whittle/value.names", laid_whittle_value_names), ("unicode.CaseRanges", laid_unicode_CaseRanges), ("unicode/utf8.first", laid_unicode_utf8_first)] }
def MoveShiftsSaid : Prop := moveShiftsRow.holds Tryz.pinned (OpenSpec.ofChange moveShiftsSpec)

/-- ITS FALSE NEIGHBOUR: 'it returns false'. Refute it at one input. -/
def moveShiftsWrong : ChangeSpec := { name := "moveShifts", fn := fun _ => fun
  | [d1, d2, d3] => { results := [.lit (.bool false)], args := [d1, d2, d3] }
  | _ => none }
def MoveShiftsWrongFalsely : Prop := moveShiftsRow.holds Tryz.pinned (OpenSpec.ofChange moveShiftsWrong)

/-- 'whittlelaw6.MoveCopies': WHATEVER THE INPUT: true; the input reads as it did. -/
def moveCopiesSpec : ChangeSpec := { name := "moveCopies", fn := fun _ => fun
  | [d1, d2, d3] => { results := [.lit (.bool true)], args := [d1, d2, d3] }
  | _ => none }
def moveCopiesRow : OpenClaim := { program := "ytejbbceidnaloaagreatdoor", sum := "67ff8975d5bbc10e244b371093a287289e7458d83a31c8d1eee7d330957b1860", func := "whittle/whittlelaw6.MoveCopies", spec := "moveCopies", inPlace := ["internal/bytealg.IndexByteString", "internal/bytealg.CountString", "internal/bytealg.IndexString", "internal/abi.NoEscape", "internal/bytealg.MakeNoZero"], unfollowed := true, recurses := true, named := ["whittle/lex.faults", "whittle/lex.pairs", "internal/bytealg.MaxLen", "unicode/utf8.first", "unicode/utf8.acceptRanges", "unicode.CaseRanges", "strconv.ErrSyntax", "strconv.ErrRange", "internal/strconv.uint64pow10", "math/bits.deBruijn32tab", "math/bits.deBruijn64tab", "whittle/value.names"], apart := false, laid := [("math/bits.deBruijn32tab", laid_math_bits_deBruijn32tab), ("math/bits.deBruijn64tab", laid_math_bits_deBruijn64tab), ("internal/strconv.uint64pow10", laid_internal_strconv_uint64pow10), ("unicode/utf8.acceptRanges", laid_unicode_utf8_acceptRanges), ("strconv.ErrRange", laid_strconv_ErrRange), ("strconv.ErrSyntax", laid_strconv_ErrSyntax), ("whittle/lex.pairs", laid_whittle_lex_pairs), ("whittle/lex.faults", laid_whittle_lex_faults), ("whittle/value.names", laid_whittle_value_names), ("unicode.CaseRanges", laid_unicode_CaseRanges), ("unicode/utf8.first", laid_unicode_utf8_first)] }
def MoveCopiesSaid : Prop := moveCopiesRow.holds Tryz.pinned (OpenSpec.ofChange moveCopiesSpec)

/-- ITS FALSE NEIGHBOUR: 'it returns false'. Refute it at one input. -/
def moveCopiesWrong : ChangeSpec := { name := "moveCopies", fn := fun _ => fun
  | [d1, d2, d3] => { results := [.lit (.bool false)], args := [d1, d2, d3] }
  | _ => none }
def MoveCopiesWrongFalsely : Prop := moveCopiesRow.holds Tryz.pinned (OpenSpec.ofChange moveCopiesWrong)

/-- 'whittlelaw6.MoveThere': WHATEVER THE INPUT: true; the input reads as it did. -/
def moveThereSpec : ChangeSpec := { name := "moveThere", fn := fun _ => fun
  | [d1, d2, d3] => { results := [.lit (.bool true)], args := [d1, d2, d3] }
  | _ => none }
def moveThereRow : OpenClaim := { program := "ytejbbceidnaloaagreatdoor", sum := "67ff8975d5bbc10e244b371093a287289e7458d83a31c8d1eee7d330957b1860", func := "whittle/whittlelaw6.MoveThere", spec := "moveThere", inPlace := ["internal/bytealg.IndexByteString", "internal/bytealg.CountString", "internal/bytealg.IndexString", "internal/abi.NoEscape", "internal/bytealg.MakeNoZero"], unfollowed := true, recurses := true, named := ["whittle/lex.faults", "whittle/lex.pairs", "internal/bytealg.MaxLen", "unicode/utf8.first", "unicode/utf8.acceptRanges", "unicode.CaseRanges", "strconv.ErrSyntax", "strconv.ErrRange", "internal/strconv.uint64pow10", "math/bits.deBruijn32tab", "math/bits.deBruijn64tab", "whittle/value.names"], apart := false, laid := [("math/bits.deBruijn32tab", laid_math_bits_deBruijn32tab), ("math/bits.deBruijn64tab", laid_math_bits_deBruijn64tab), ("internal/strconv.uint64pow10", laid_internal_strconv_uint64pow10), ("unicode/utf8.acceptRanges", laid_unicode_utf8_acceptRanges), ("strconv.ErrRange", laid_strconv_ErrRange), ("strconv.ErrSyntax", laid_strconv_ErrSyntax), ("whittle/lex.pairs", laid_whittle_lex_pairs), ("whittle/lex.faults", laid_whittle_lex_faults), ("whittle/value.names", laid_whittle_value_names), ("unicode.CaseRanges", laid_unicode_CaseRanges), ("unicode/utf8.first", laid_unicode_utf8_first)] }
def MoveThereSaid : Prop := moveThereRow.holds Tryz.pinned (OpenSpec.ofChange moveThereSpec)

/-- ITS FALSE NEIGHBOUR: 'it returns false'. Refute it at one input. -/
def moveThereWrong : ChangeSpec := { name := "moveThere", fn := fun _ => fun
  | [d1, d2, d3] => { results := [.lit (.bool false)], args := [d1, d2, d3] }
  | _ => none }
def MoveThereWrongFalsely : Prop := moveThereRow.holds Tryz.pinned (OpenSpec.ofChange moveThereWrong)

/-- 'whittlelaw6.MoveTwice': WHATEVER THE INPUT: true; the input reads as it did. -/
def moveTwiceSpec : ChangeSpec := { name := "moveTwice", fn := fun _ => fun
  | [d1, d2, d3, d4, d5] => { results := [.lit (.bool true)], args := [d1, d2, d3, d4, d5] }
  | _ => none }
def moveTwiceRow : OpenClaim := { program := "ytejbbceidnaloaagreatdoor", sum := "67ff8975d5bbc10e244b371093a287289e7458d83a31c8d1eee7d330957b1860", func := "whittle/whittlelaw6.MoveTwice", spec := "moveTwice", inPlace := ["internal/bytealg.IndexByteString", "internal/bytealg.CountString", "internal/bytealg.IndexString", "internal/abi.NoEscape", "internal/bytealg.MakeNoZero"], unfollowed := true, recurses := true, named := ["whittle/lex.faults", "whittle/lex.pairs", "internal/bytealg.MaxLen", "unicode/utf8.first", "unicode/utf8.acceptRanges", "unicode.CaseRanges", "strconv.ErrSyntax", "strconv.ErrRange", "internal/strconv.uint64pow10", "math/bits.deBruijn32tab", "math/bits.deBruijn64tab", "whittle/value.names"], apart := false, laid := [("math/bits.deBruijn32tab", laid_math_bits_deBruijn32tab), ("math/bits.deBruijn64tab", laid_math_bits_deBruijn64tab), ("internal/strconv.uint64pow10", laid_internal_strconv_uint64pow10), ("unicode/utf8.acceptRanges", laid_unicode_utf8_acceptRanges), ("strconv.ErrRange", laid_strconv_ErrRange), ("strconv.ErrSyntax", laid_strconv_ErrSyntax), ("whittle/lex.pairs", laid_whittle_lex_pairs), ("whittle/lex.faults", laid_whittle_lex_faults), ("whittle/value.names", laid_whittle_value_names), ("unicode.CaseRanges", laid_unicode_CaseRanges), ("unicode/utf8.first", laid_unicode_utf8_first)] }
def MoveTwiceSaid : Prop := moveTwiceRow.holds Tryz.pinned (OpenSpec.ofChange moveTwiceSpec)

/-- ITS FALSE NEIGHBOUR: 'it returns false'. Refute it at one input. -/
def moveTwiceWrong : ChangeSpec := { name := "moveTwice", fn := fun _ => fun
  | [d1, d2, d3, d4, d5] => { results := [.lit (.bool false)], args := [d1, d2, d3, d4, d5] }
  | _ => none }
def MoveTwiceWrongFalsely : Prop := moveTwiceRow.holds Tryz.pinned (OpenSpec.ofChange moveTwiceWrong)

/-- 'whittlelaw6.MoveRefs': WHATEVER THE INPUT: true; the input reads as it did. -/
def moveRefsSpec : ChangeSpec := { name := "moveRefs", fn := fun _ => fun
  | [d1, d2, d3] => { results := [.lit (.bool true)], args := [d1, d2, d3] }
  | _ => none }
def moveRefsRow : OpenClaim := { program := "ytejbbceidnaloaagreatdoor", sum := "67ff8975d5bbc10e244b371093a287289e7458d83a31c8d1eee7d330957b1860", func := "whittle/whittlelaw6.MoveRefs", spec := "moveRefs", inPlace := ["internal/bytealg.IndexByteString", "internal/bytealg.CountString", "internal/bytealg.IndexString", "internal/abi.NoEscape", "internal/bytealg.MakeNoZero"], unfollowed := true, recurses := true, named := ["whittle/lex.faults", "whittle/lex.pairs", "internal/bytealg.MaxLen", "unicode/utf8.first", "unicode/utf8.acceptRanges", "unicode.CaseRanges", "strconv.ErrSyntax", "strconv.ErrRange", "internal/strconv.uint64pow10", "math/bits.deBruijn32tab", "math/bits.deBruijn64tab", "whittle/value.names"], apart := false, laid := [("math/bits.deBruijn32tab", laid_math_bits_deBruijn32tab), ("math/bits.deBruijn64tab", laid_math_bits_deBruijn64tab), ("internal/strconv.uint64pow10", laid_internal_strconv_uint64pow10), ("unicode/utf8.acceptRanges", laid_unicode_utf8_acceptRanges), ("strconv.ErrRange", laid_strconv_ErrRange), ("strconv.ErrSyntax", laid_strconv_ErrSyntax), ("whittle/lex.pairs", laid_whittle_lex_pairs), ("whittle/lex.faults", laid_whittle_lex_faults), ("whittle/value.names", laid_whittle_value_names), ("unicode.CaseRanges", laid_unicode_CaseRanges), ("unicode/utf8.first", laid_unicode_utf8_first)] }
def MoveRefsSaid : Prop := moveRefsRow.holds Tryz.pinned (OpenSpec.ofChange moveRefsSpec)

/-- ITS FALSE NEIGHBOUR: 'it returns false'. Refute it at one input. -/
def moveRefsWrong : ChangeSpec := { name := "moveRefs", fn := fun _ => fun
  | [d1, d2, d3] => { results := [.lit (.bool false)], args := [d1, d2, d3] }
  | _ => none }
def MoveRefsWrongFalsely : Prop := moveRefsRow.holds Tryz.pinned (OpenSpec.ofChange moveRefsWrong)

/-- 'whittlelaw6.MoveTexts': WHATEVER THE INPUT: true; the input reads as it did. -/
def moveTextsSpec : ChangeSpec := { name := "moveTexts", fn := fun _ => fun
  | [d] => { results := [.lit (.bool true)], args := [d] }
  | _ => none }
def moveTextsRow : OpenClaim := { program := "ytejbbceidnaloaagreatdoor", sum := "67ff8975d5bbc10e244b371093a287289e7458d83a31c8d1eee7d330957b1860", func := "whittle/whittlelaw6.MoveTexts", spec := "moveTexts", inPlace := ["internal/bytealg.IndexByteString", "internal/bytealg.CountString", "internal/bytealg.IndexString", "internal/abi.NoEscape", "internal/bytealg.MakeNoZero"], unfollowed := true, recurses := true, named := ["whittle/lex.faults", "whittle/lex.pairs", "internal/bytealg.MaxLen", "unicode/utf8.first", "unicode/utf8.acceptRanges", "unicode.CaseRanges", "strconv.ErrSyntax", "strconv.ErrRange", "internal/strconv.uint64pow10", "math/bits.deBruijn32tab", "math/bits.deBruijn64tab", "whittle/value.names"], apart := false, laid := [("math/bits.deBruijn32tab", laid_math_bits_deBruijn32tab), ("math/bits.deBruijn64tab", laid_math_bits_deBruijn64tab), ("internal/strconv.uint64pow10", laid_internal_strconv_uint64pow10), ("unicode/utf8.acceptRanges", laid_unicode_utf8_acceptRanges), ("strconv.ErrRange", laid_strconv_ErrRange), ("strconv.ErrSyntax", laid_strconv_ErrSyntax), ("whittle/lex.pairs", laid_whittle_lex_pairs), ("whittle/lex.faults", laid_whittle_lex_faults), ("whittle/value.names", laid_whittle_value_names), ("unicode.CaseRanges", laid_unicode_CaseRanges), ("unicode/utf8.first", laid_unicode_utf8_first)] }
def MoveTextsSaid : Prop := moveTextsRow.holds Tryz.pinned (OpenSpec.ofChange moveTextsSpec)

/-- ITS FALSE NEIGHBOUR: 'it returns false'. Refute it at one input. -/
def moveTextsWrong : ChangeSpec := { name := "moveTexts", fn := fun _ => fun
  | [d] => { results := [.lit (.bool false)], args := [d] }
  | _ => none }
def MoveTextsWrongFalsely : Prop := moveTextsRow.holds Tryz.pinned (OpenSpec.ofChange moveTextsWrong)

/-- 'whittlelaw6.MoveFills': WHATEVER THE INPUT: true; the input reads as it did. -/
def moveFillsSpec : ChangeSpec := { name := "moveFills", fn := fun _ => fun
  | [d1, d2, d3] => { results := [.lit (.bool true)], args := [d1, d2, d3] }
  | _ => none }
def moveFillsRow : OpenClaim := { program := "ytejbbceidnaloaagreatdoor", sum := "67ff8975d5bbc10e244b371093a287289e7458d83a31c8d1eee7d330957b1860", func := "whittle/whittlelaw6.MoveFills", spec := "moveFills", inPlace := ["internal/bytealg.IndexByteString", "internal/bytealg.CountString", "internal/bytealg.IndexString", "internal/abi.NoEscape", "internal/bytealg.MakeNoZero"], unfollowed := true, recurses := true, named := ["whittle/lex.faults", "whittle/lex.pairs", "internal/bytealg.MaxLen", "unicode/utf8.first", "unicode/utf8.acceptRanges", "unicode.CaseRanges", "strconv.ErrSyntax", "strconv.ErrRange", "internal/strconv.uint64pow10", "math/bits.deBruijn32tab", "math/bits.deBruijn64tab", "whittle/value.names"], apart := false, laid := [("math/bits.deBruijn32tab", laid_math_bits_deBruijn32tab), ("math/bits.deBruijn64tab", laid_math_bits_deBruijn64tab), ("internal/strconv.uint64pow10", laid_internal_strconv_uint64pow10), ("unicode/utf8.acceptRanges", laid_unicode_utf8_acceptRanges), ("strconv.ErrRange", laid_strconv_ErrRange), ("strconv.ErrSyntax", laid_strconv_ErrSyntax), ("whittle/lex.pairs", laid_whittle_lex_pairs), ("whittle/lex.faults", laid_whittle_lex_faults), ("whittle/value.names", laid_whittle_value_names), ("unicode.CaseRanges", laid_unicode_CaseRanges), ("unicode/utf8.first", laid_unicode_utf8_first)] }
def MoveFillsSaid : Prop := moveFillsRow.holds Tryz.pinned (OpenSpec.ofChange moveFillsSpec)

/-- ITS FALSE NEIGHBOUR: 'it returns false'. Refute it at one input. -/
def moveFillsWrong : ChangeSpec := { name := "moveFills", fn := fun _ => fun
  | [d1, d2, d3] => { results := [.lit (.bool false)], args := [d1, d2, d3] }
  | _ => none }
def MoveFillsWrongFalsely : Prop := moveFillsRow.holds Tryz.pinned (OpenSpec.ofChange moveFillsWrong)

/-- 'whittlelaw6.MoveEach': WHATEVER THE INPUT: true; the input reads as it did. -/
def moveEachSpec : ChangeSpec := { name := "moveEach", fn := fun _ => fun
  | [d1, d2, d3] => { results := [.lit (.bool true)], args := [d1, d2, d3] }
  | _ => none }
def moveEachRow : OpenClaim := { program := "ytejbbceidnaloaagreatdoor", sum := "67ff8975d5bbc10e244b371093a287289e7458d83a31c8d1eee7d330957b1860", func := "whittle/whittlelaw6.MoveEach", spec := "moveEach", inPlace := ["internal/bytealg.IndexByteString", "internal/bytealg.CountString", "internal/bytealg.IndexString", "internal/abi.NoEscape", "internal/bytealg.MakeNoZero"], unfollowed := true, recurses := true, named := ["whittle/lex.faults", "whittle/lex.pairs", "internal/bytealg.MaxLen", "unicode/utf8.first", "unicode/utf8.acceptRanges", "unicode.CaseRanges", "strconv.ErrSyntax", "strconv.ErrRange", "internal/strconv.uint64pow10", "math/bits.deBruijn32tab", "math/bits.deBruijn64tab", "whittle/value.names"], apart := false, laid := [("math/bits.deBruijn32tab", laid_math_bits_deBruijn32tab), ("math/bits.deBruijn64tab", laid_math_bits_deBruijn64tab), ("internal/strconv.uint64pow10", laid_internal_strconv_uint64pow10), ("unicode/utf8.acceptRanges", laid_unicode_utf8_acceptRanges), ("strconv.ErrRange", laid_strconv_ErrRange), ("strconv.ErrSyntax", laid_strconv_ErrSyntax), ("whittle/lex.pairs", laid_whittle_lex_pairs), ("whittle/lex.faults", laid_whittle_lex_faults), ("whittle/value.names", laid_whittle_value_names), ("unicode.CaseRanges", laid_unicode_CaseRanges), ("unicode/utf8.first", laid_unicode_utf8_first)] }
def MoveEachSaid : Prop := moveEachRow.holds Tryz.pinned (OpenSpec.ofChange moveEachSpec)

/-- ITS FALSE NEIGHBOUR: 'it returns false'. Refute it at one input. -/
def moveEachWrong : ChangeSpec := { name := "moveEach", fn := fun _ => fun
  | [d1, d2, d3] => { results := [.lit (.bool false)], args := [d1, d2, d3] }
  | _ => none }
def MoveEachWrongFalsely : Prop := moveEachRow.holds Tryz.pinned (OpenSpec.ofChange moveEachWrong)

/- THE SECOND FORM. 'bulk': how many values and letters a reading holds, each counted each time it is reached (what is shared counts as often as it is met; a slice's spare places count too). A statement '..UptoSaid' is the law's where the arguments, and the package variables that the reading takes, are together of bulk at most 1048576: NARROWER than '..Said'. Prove '..Said' where nothing that the law and all that it calls make is longer than what came in: it says more and counts as full. Else prove '..UptoSaid'. A law counts once. -/
mutual
def uptoBulk {H : Type} : DataW H → Nat
  | .lit (.string bytes) => bytes.length + 1
  | .lit _ => 1
  | .nil => 1
  | .ptr d => uptoBulk d + 1
  | .slice elems spare => uptoBulkAll elems + uptoBulkAll spare + 1
  | .agg parts => uptoBulkAll parts + 1
  | .iface _ d => uptoBulk d + 1
  | .map entries => uptoBulkEntries entries + 1
  | .held _ => 1
def uptoBulkAll {H : Type} : List (DataW H) → Nat
  | [] => 0
  | d :: r => uptoBulk d + uptoBulkAll r
def uptoBulkEntries {H : Type} : List (Lit × DataW H) → Nat
  | [] => 0
  | x :: r => uptoBulkEntry x + uptoBulkEntries r
def uptoBulkEntry {H : Type} : Lit × DataW H → Nat
  | (.string bytes, d) => bytes.length + uptoBulk d + 1
  | (_, d) => uptoBulk d + 1
 end
def uptoSmall : (H : Type) → List (DataW H) → Bool := fun _ ds => decide (uptoBulkAll ds ≤ 1048576)
def OpenSpec.upto (s : _root_.Go.ChangeSpec) : _root_.Go.OpenSpec := { _root_.Go.OpenSpec.ofChange s with cond := some uptoSmall }

/-- 'whittlelaw5.TreeParses', WHERE WHAT IT READS IS OF BULK AT MOST 1048576: true; the input reads as it did. -/
def treeParsesUptoRow : OpenClaim := { program := "ytejbbceidnaloaagreatdoor", sum := "67ff8975d5bbc10e244b371093a287289e7458d83a31c8d1eee7d330957b1860", func := "whittle/whittlelaw5.TreeParses", spec := "treeParses", inPlace := ["internal/bytealg.IndexByteString", "internal/bytealg.CountString", "internal/bytealg.IndexString", "internal/abi.NoEscape", "internal/bytealg.MakeNoZero"], unfollowed := true, recurses := true, named := ["whittle/lex.faults", "whittle/lex.pairs", "internal/bytealg.MaxLen", "unicode/utf8.first", "unicode/utf8.acceptRanges", "unicode.CaseRanges", "strconv.ErrSyntax", "strconv.ErrRange", "internal/strconv.uint64pow10", "math/bits.deBruijn32tab", "math/bits.deBruijn64tab", "whittle/value.names"], apart := false, laid := [("math/bits.deBruijn32tab", laid_math_bits_deBruijn32tab), ("math/bits.deBruijn64tab", laid_math_bits_deBruijn64tab), ("internal/strconv.uint64pow10", laid_internal_strconv_uint64pow10), ("unicode/utf8.acceptRanges", laid_unicode_utf8_acceptRanges), ("strconv.ErrRange", laid_strconv_ErrRange), ("strconv.ErrSyntax", laid_strconv_ErrSyntax), ("whittle/lex.pairs", laid_whittle_lex_pairs), ("whittle/lex.faults", laid_whittle_lex_faults), ("whittle/value.names", laid_whittle_value_names), ("unicode.CaseRanges", laid_unicode_CaseRanges), ("unicode/utf8.first", laid_unicode_utf8_first)], narrowed := true }
def TreeParsesUptoSaid : Prop := treeParsesUptoRow.holds Tryz.pinned (OpenSpec.upto treeParsesSpec)

/-- 'whittlelaw5.TreePrints', WHERE WHAT IT READS IS OF BULK AT MOST 1048576: true; the input reads as it did. -/
def treePrintsUptoRow : OpenClaim := { program := "ytejbbceidnaloaagreatdoor", sum := "67ff8975d5bbc10e244b371093a287289e7458d83a31c8d1eee7d330957b1860", func := "whittle/whittlelaw5.TreePrints", spec := "treePrints", inPlace := ["internal/abi.NoEscape", "internal/bytealg.MakeNoZero", "internal/bytealg.CountString", "internal/bytealg.IndexByteString", "internal/bytealg.IndexString"], unfollowed := true, recurses := true, named := ["unicode/utf8.first", "unicode/utf8.acceptRanges", "unicode.CaseRanges", "internal/bytealg.MaxLen", "whittle/value.names", "internal/strconv.uint64pow10", "math/bits.deBruijn32tab", "math/bits.deBruijn64tab", "whittle/lex.faults", "whittle/lex.pairs", "strconv.ErrSyntax", "strconv.ErrRange"], apart := false, laid := [("math/bits.deBruijn32tab", laid_math_bits_deBruijn32tab), ("math/bits.deBruijn64tab", laid_math_bits_deBruijn64tab), ("internal/strconv.uint64pow10", laid_internal_strconv_uint64pow10), ("unicode/utf8.acceptRanges", laid_unicode_utf8_acceptRanges), ("strconv.ErrRange", laid_strconv_ErrRange), ("strconv.ErrSyntax", laid_strconv_ErrSyntax), ("whittle/lex.pairs", laid_whittle_lex_pairs), ("whittle/lex.faults", laid_whittle_lex_faults), ("whittle/value.names", laid_whittle_value_names), ("unicode.CaseRanges", laid_unicode_CaseRanges), ("unicode/utf8.first", laid_unicode_utf8_first)], narrowed := true }
def TreePrintsUptoSaid : Prop := treePrintsUptoRow.holds Tryz.pinned (OpenSpec.upto treePrintsSpec)

/-- 'whittlelaw5.TreeBack', WHERE WHAT IT READS IS OF BULK AT MOST 1048576: true; the input reads as it did. -/
def treeBackUptoRow : OpenClaim := { program := "ytejbbceidnaloaagreatdoor", sum := "67ff8975d5bbc10e244b371093a287289e7458d83a31c8d1eee7d330957b1860", func := "whittle/whittlelaw5.TreeBack", spec := "treeBack", inPlace := ["internal/bytealg.IndexByteString", "internal/bytealg.CountString", "internal/bytealg.IndexString", "internal/abi.NoEscape", "internal/bytealg.MakeNoZero"], unfollowed := true, recurses := true, named := ["whittle/lex.faults", "whittle/lex.pairs", "internal/bytealg.MaxLen", "unicode/utf8.first", "unicode/utf8.acceptRanges", "unicode.CaseRanges", "strconv.ErrSyntax", "strconv.ErrRange", "internal/strconv.uint64pow10", "math/bits.deBruijn32tab", "math/bits.deBruijn64tab", "whittle/value.names"], apart := false, laid := [("math/bits.deBruijn32tab", laid_math_bits_deBruijn32tab), ("math/bits.deBruijn64tab", laid_math_bits_deBruijn64tab), ("internal/strconv.uint64pow10", laid_internal_strconv_uint64pow10), ("unicode/utf8.acceptRanges", laid_unicode_utf8_acceptRanges), ("strconv.ErrRange", laid_strconv_ErrRange), ("strconv.ErrSyntax", laid_strconv_ErrSyntax), ("whittle/lex.pairs", laid_whittle_lex_pairs), ("whittle/lex.faults", laid_whittle_lex_faults), ("whittle/value.names", laid_whittle_value_names), ("unicode.CaseRanges", laid_unicode_CaseRanges), ("unicode/utf8.first", laid_unicode_utf8_first)], narrowed := true }
def TreeBackUptoSaid : Prop := treeBackUptoRow.holds Tryz.pinned (OpenSpec.upto treeBackSpec)

/-- 'whittlelaw5.TreeOneForm', WHERE WHAT IT READS IS OF BULK AT MOST 1048576: true; the input reads as it did. -/
def treeOneFormUptoRow : OpenClaim := { program := "ytejbbceidnaloaagreatdoor", sum := "67ff8975d5bbc10e244b371093a287289e7458d83a31c8d1eee7d330957b1860", func := "whittle/whittlelaw5.TreeOneForm", spec := "treeOneForm", inPlace := ["internal/bytealg.IndexByteString", "internal/bytealg.CountString", "internal/bytealg.IndexString", "internal/abi.NoEscape", "internal/bytealg.MakeNoZero"], unfollowed := true, recurses := true, named := ["whittle/lex.faults", "whittle/lex.pairs", "internal/bytealg.MaxLen", "unicode/utf8.first", "unicode/utf8.acceptRanges", "unicode.CaseRanges", "strconv.ErrSyntax", "strconv.ErrRange", "internal/strconv.uint64pow10", "math/bits.deBruijn32tab", "math/bits.deBruijn64tab", "whittle/value.names"], apart := false, laid := [("math/bits.deBruijn32tab", laid_math_bits_deBruijn32tab), ("math/bits.deBruijn64tab", laid_math_bits_deBruijn64tab), ("internal/strconv.uint64pow10", laid_internal_strconv_uint64pow10), ("unicode/utf8.acceptRanges", laid_unicode_utf8_acceptRanges), ("strconv.ErrRange", laid_strconv_ErrRange), ("strconv.ErrSyntax", laid_strconv_ErrSyntax), ("whittle/lex.pairs", laid_whittle_lex_pairs), ("whittle/lex.faults", laid_whittle_lex_faults), ("whittle/value.names", laid_whittle_value_names), ("unicode.CaseRanges", laid_unicode_CaseRanges), ("unicode/utf8.first", laid_unicode_utf8_first)], narrowed := true }
def TreeOneFormUptoSaid : Prop := treeOneFormUptoRow.holds Tryz.pinned (OpenSpec.upto treeOneFormSpec)

/-- 'whittlelaw5.TreeNeeded', WHERE WHAT IT READS IS OF BULK AT MOST 1048576: true; the input reads as it did. -/
def treeNeededUptoRow : OpenClaim := { program := "ytejbbceidnaloaagreatdoor", sum := "67ff8975d5bbc10e244b371093a287289e7458d83a31c8d1eee7d330957b1860", func := "whittle/whittlelaw5.TreeNeeded", spec := "treeNeeded", inPlace := ["internal/bytealg.IndexByteString", "internal/bytealg.CountString", "internal/bytealg.IndexString", "internal/abi.NoEscape", "internal/bytealg.MakeNoZero"], unfollowed := true, recurses := true, named := ["whittle/lex.faults", "whittle/lex.pairs", "internal/bytealg.MaxLen", "unicode/utf8.first", "unicode/utf8.acceptRanges", "unicode.CaseRanges", "strconv.ErrSyntax", "strconv.ErrRange", "internal/strconv.uint64pow10", "math/bits.deBruijn32tab", "math/bits.deBruijn64tab", "whittle/value.names"], apart := false, laid := [("math/bits.deBruijn32tab", laid_math_bits_deBruijn32tab), ("math/bits.deBruijn64tab", laid_math_bits_deBruijn64tab), ("internal/strconv.uint64pow10", laid_internal_strconv_uint64pow10), ("unicode/utf8.acceptRanges", laid_unicode_utf8_acceptRanges), ("strconv.ErrRange", laid_strconv_ErrRange), ("strconv.ErrSyntax", laid_strconv_ErrSyntax), ("whittle/lex.pairs", laid_whittle_lex_pairs), ("whittle/lex.faults", laid_whittle_lex_faults), ("whittle/value.names", laid_whittle_value_names), ("unicode.CaseRanges", laid_unicode_CaseRanges), ("unicode/utf8.first", laid_unicode_utf8_first)], narrowed := true }
def TreeNeededUptoSaid : Prop := treeNeededUptoRow.holds Tryz.pinned (OpenSpec.upto treeNeededSpec)

/-- 'whittlelaw5.TreeKids', WHERE WHAT IT READS IS OF BULK AT MOST 1048576: true; the input reads as it did. -/
def treeKidsUptoRow : OpenClaim := { program := "ytejbbceidnaloaagreatdoor", sum := "67ff8975d5bbc10e244b371093a287289e7458d83a31c8d1eee7d330957b1860", func := "whittle/whittlelaw5.TreeKids", spec := "treeKids", inPlace := ["internal/abi.NoEscape", "internal/bytealg.MakeNoZero", "internal/bytealg.IndexByteString", "internal/bytealg.CountString", "internal/bytealg.IndexString"], unfollowed := true, recurses := true, named := ["unicode/utf8.first", "unicode/utf8.acceptRanges", "unicode.CaseRanges", "whittle/lex.faults", "whittle/lex.pairs", "internal/bytealg.MaxLen", "strconv.ErrSyntax", "strconv.ErrRange", "internal/strconv.uint64pow10", "math/bits.deBruijn32tab", "math/bits.deBruijn64tab", "whittle/value.names"], apart := false, laid := [("math/bits.deBruijn32tab", laid_math_bits_deBruijn32tab), ("math/bits.deBruijn64tab", laid_math_bits_deBruijn64tab), ("internal/strconv.uint64pow10", laid_internal_strconv_uint64pow10), ("unicode/utf8.acceptRanges", laid_unicode_utf8_acceptRanges), ("strconv.ErrRange", laid_strconv_ErrRange), ("strconv.ErrSyntax", laid_strconv_ErrSyntax), ("whittle/lex.pairs", laid_whittle_lex_pairs), ("whittle/lex.faults", laid_whittle_lex_faults), ("whittle/value.names", laid_whittle_value_names), ("unicode.CaseRanges", laid_unicode_CaseRanges), ("unicode/utf8.first", laid_unicode_utf8_first)], narrowed := true }
def TreeKidsUptoSaid : Prop := treeKidsUptoRow.holds Tryz.pinned (OpenSpec.upto treeKidsSpec)

/-- 'whittlelaw5.TreeFresh', WHERE WHAT IT READS IS OF BULK AT MOST 1048576: true; the input reads as it did. -/
def treeFreshUptoRow : OpenClaim := { program := "ytejbbceidnaloaagreatdoor", sum := "67ff8975d5bbc10e244b371093a287289e7458d83a31c8d1eee7d330957b1860", func := "whittle/whittlelaw5.TreeFresh", spec := "treeFresh", inPlace := ["internal/bytealg.IndexByteString", "internal/bytealg.CountString", "internal/bytealg.IndexString", "internal/abi.NoEscape", "internal/bytealg.MakeNoZero"], unfollowed := true, recurses := true, named := ["whittle/lex.faults", "whittle/lex.pairs", "internal/bytealg.MaxLen", "unicode/utf8.first", "unicode/utf8.acceptRanges", "unicode.CaseRanges", "strconv.ErrSyntax", "strconv.ErrRange", "internal/strconv.uint64pow10", "math/bits.deBruijn32tab", "math/bits.deBruijn64tab", "whittle/value.names"], apart := false, laid := [("math/bits.deBruijn32tab", laid_math_bits_deBruijn32tab), ("math/bits.deBruijn64tab", laid_math_bits_deBruijn64tab), ("internal/strconv.uint64pow10", laid_internal_strconv_uint64pow10), ("unicode/utf8.acceptRanges", laid_unicode_utf8_acceptRanges), ("strconv.ErrRange", laid_strconv_ErrRange), ("strconv.ErrSyntax", laid_strconv_ErrSyntax), ("whittle/lex.pairs", laid_whittle_lex_pairs), ("whittle/lex.faults", laid_whittle_lex_faults), ("whittle/value.names", laid_whittle_value_names), ("unicode.CaseRanges", laid_unicode_CaseRanges), ("unicode/utf8.first", laid_unicode_utf8_first)], narrowed := true }
def TreeFreshUptoSaid : Prop := treeFreshUptoRow.holds Tryz.pinned (OpenSpec.upto treeFreshSpec)

/-- 'whittlelaw5.TreeJoined', WHERE WHAT IT READS IS OF BULK AT MOST 1048576: true; the input reads as it did. -/
def treeJoinedUptoRow : OpenClaim := { program := "ytejbbceidnaloaagreatdoor", sum := "67ff8975d5bbc10e244b371093a287289e7458d83a31c8d1eee7d330957b1860", func := "whittle/whittlelaw5.TreeJoined", spec := "treeJoined", inPlace := ["internal/bytealg.IndexByteString", "internal/bytealg.CountString", "internal/bytealg.IndexString", "internal/abi.NoEscape", "internal/bytealg.MakeNoZero"], unfollowed := true, recurses := true, named := ["whittle/lex.faults", "whittle/lex.pairs", "internal/bytealg.MaxLen", "unicode/utf8.first", "unicode/utf8.acceptRanges", "unicode.CaseRanges", "strconv.ErrSyntax", "strconv.ErrRange", "internal/strconv.uint64pow10", "math/bits.deBruijn32tab", "math/bits.deBruijn64tab", "whittle/value.names"], apart := false, laid := [("math/bits.deBruijn32tab", laid_math_bits_deBruijn32tab), ("math/bits.deBruijn64tab", laid_math_bits_deBruijn64tab), ("internal/strconv.uint64pow10", laid_internal_strconv_uint64pow10), ("unicode/utf8.acceptRanges", laid_unicode_utf8_acceptRanges), ("strconv.ErrRange", laid_strconv_ErrRange), ("strconv.ErrSyntax", laid_strconv_ErrSyntax), ("whittle/lex.pairs", laid_whittle_lex_pairs), ("whittle/lex.faults", laid_whittle_lex_faults), ("whittle/value.names", laid_whittle_value_names), ("unicode.CaseRanges", laid_unicode_CaseRanges), ("unicode/utf8.first", laid_unicode_utf8_first)], narrowed := true }
def TreeJoinedUptoSaid : Prop := treeJoinedUptoRow.holds Tryz.pinned (OpenSpec.upto treeJoinedSpec)

/-- 'whittlelaw5.TreeParts', WHERE WHAT IT READS IS OF BULK AT MOST 1048576: true; the input reads as it did. -/
def treePartsUptoRow : OpenClaim := { program := "ytejbbceidnaloaagreatdoor", sum := "67ff8975d5bbc10e244b371093a287289e7458d83a31c8d1eee7d330957b1860", func := "whittle/whittlelaw5.TreeParts", spec := "treeParts", inPlace := ["internal/bytealg.IndexByteString", "internal/bytealg.CountString", "internal/bytealg.IndexString", "internal/abi.NoEscape", "internal/bytealg.MakeNoZero"], unfollowed := true, recurses := true, named := ["whittle/lex.faults", "whittle/lex.pairs", "internal/bytealg.MaxLen", "unicode/utf8.first", "unicode/utf8.acceptRanges", "unicode.CaseRanges", "strconv.ErrSyntax", "strconv.ErrRange", "internal/strconv.uint64pow10", "math/bits.deBruijn32tab", "math/bits.deBruijn64tab", "whittle/value.names"], apart := false, laid := [("math/bits.deBruijn32tab", laid_math_bits_deBruijn32tab), ("math/bits.deBruijn64tab", laid_math_bits_deBruijn64tab), ("internal/strconv.uint64pow10", laid_internal_strconv_uint64pow10), ("unicode/utf8.acceptRanges", laid_unicode_utf8_acceptRanges), ("strconv.ErrRange", laid_strconv_ErrRange), ("strconv.ErrSyntax", laid_strconv_ErrSyntax), ("whittle/lex.pairs", laid_whittle_lex_pairs), ("whittle/lex.faults", laid_whittle_lex_faults), ("whittle/value.names", laid_whittle_value_names), ("unicode.CaseRanges", laid_unicode_CaseRanges), ("unicode/utf8.first", laid_unicode_utf8_first)], narrowed := true }
def TreePartsUptoSaid : Prop := treePartsUptoRow.holds Tryz.pinned (OpenSpec.upto treePartsSpec)

/-- 'whittlelaw5.TreeBrackets', WHERE WHAT IT READS IS OF BULK AT MOST 1048576: true; the input reads as it did. -/
def treeBracketsUptoRow : OpenClaim := { program := "ytejbbceidnaloaagreatdoor", sum := "67ff8975d5bbc10e244b371093a287289e7458d83a31c8d1eee7d330957b1860", func := "whittle/whittlelaw5.TreeBrackets", spec := "treeBrackets", inPlace := ["internal/bytealg.IndexByteString", "internal/bytealg.CountString", "internal/bytealg.IndexString", "internal/abi.NoEscape", "internal/bytealg.MakeNoZero"], unfollowed := true, recurses := true, named := ["whittle/lex.faults", "whittle/lex.pairs", "internal/bytealg.MaxLen", "unicode/utf8.first", "unicode/utf8.acceptRanges", "unicode.CaseRanges", "strconv.ErrSyntax", "strconv.ErrRange", "internal/strconv.uint64pow10", "math/bits.deBruijn32tab", "math/bits.deBruijn64tab", "whittle/value.names"], apart := false, laid := [("math/bits.deBruijn32tab", laid_math_bits_deBruijn32tab), ("math/bits.deBruijn64tab", laid_math_bits_deBruijn64tab), ("internal/strconv.uint64pow10", laid_internal_strconv_uint64pow10), ("unicode/utf8.acceptRanges", laid_unicode_utf8_acceptRanges), ("strconv.ErrRange", laid_strconv_ErrRange), ("strconv.ErrSyntax", laid_strconv_ErrSyntax), ("whittle/lex.pairs", laid_whittle_lex_pairs), ("whittle/lex.faults", laid_whittle_lex_faults), ("whittle/value.names", laid_whittle_value_names), ("unicode.CaseRanges", laid_unicode_CaseRanges), ("unicode/utf8.first", laid_unicode_utf8_first)], narrowed := true }
def TreeBracketsUptoSaid : Prop := treeBracketsUptoRow.holds Tryz.pinned (OpenSpec.upto treeBracketsSpec)

/-- 'whittlelaw6.MoveShifts', WHERE WHAT IT READS IS OF BULK AT MOST 1048576: true; the input reads as it did. -/
def moveShiftsUptoRow : OpenClaim := { program := "ytejbbceidnaloaagreatdoor", sum := "67ff8975d5bbc10e244b371093a287289e7458d83a31c8d1eee7d330957b1860", func := "whittle/whittlelaw6.MoveShifts", spec := "moveShifts", inPlace := ["internal/abi.NoEscape", "internal/bytealg.MakeNoZero", "internal/bytealg.IndexByteString", "internal/bytealg.CountString", "internal/bytealg.IndexString"], unfollowed := true, recurses := true, named := ["unicode/utf8.first", "unicode/utf8.acceptRanges", "unicode.CaseRanges", "whittle/lex.faults", "whittle/lex.pairs", "internal/bytealg.MaxLen", "strconv.ErrSyntax", "strconv.ErrRange", "internal/strconv.uint64pow10", "math/bits.deBruijn32tab", "math/bits.deBruijn64tab", "whittle/value.names"], apart := false, laid := [("math/bits.deBruijn32tab", laid_math_bits_deBruijn32tab), ("math/bits.deBruijn64tab", laid_math_bits_deBruijn64tab), ("internal/strconv.uint64pow10", laid_internal_strconv_uint64pow10), ("unicode/utf8.acceptRanges", laid_unicode_utf8_acceptRanges), ("strconv.ErrRange", laid_strconv_ErrRange), ("strconv.ErrSyntax", laid_strconv_ErrSyntax), ("whittle/lex.pairs", laid_whittle_lex_pairs), ("whittle/lex.faults", laid_whittle_lex_faults), ("whittle/value.names", laid_whittle_value_names), ("unicode.CaseRanges", laid_unicode_CaseRanges), ("unicode/utf8.first", laid_unicode_utf8_first)], narrowed := true }
def MoveShiftsUptoSaid : Prop := moveShiftsUptoRow.holds Tryz.pinned (OpenSpec.upto moveShiftsSpec)

/-- 'whittlelaw6.MoveCopies', WHERE WHAT IT READS IS OF BULK AT MOST 1048576: true; the input reads as it did. -/
def moveCopiesUptoRow : OpenClaim := { program := "ytejbbceidnaloaagreatdoor", sum := "67ff8975d5bbc10e244b371093a287289e7458d83a31c8d1eee7d330957b1860", func := "whittle/whittlelaw6.MoveCopies", spec := "moveCopies", inPlace := ["internal/bytealg.IndexByteString", "internal/bytealg.CountString", "internal/bytealg.IndexString", "internal/abi.NoEscape", "internal/bytealg.MakeNoZero"], unfollowed := true, recurses := true, named := ["whittle/lex.faults", "whittle/lex.pairs", "internal/bytealg.MaxLen", "unicode/utf8.first", "unicode/utf8.acceptRanges", "unicode.CaseRanges", "strconv.ErrSyntax", "strconv.ErrRange", "internal/strconv.uint64pow10", "math/bits.deBruijn32tab", "math/bits.deBruijn64tab", "whittle/value.names"], apart := false, laid := [("math/bits.deBruijn32tab", laid_math_bits_deBruijn32tab), ("math/bits.deBruijn64tab", laid_math_bits_deBruijn64tab), ("internal/strconv.uint64pow10", laid_internal_strconv_uint64pow10), ("unicode/utf8.acceptRanges", laid_unicode_utf8_acceptRanges), ("strconv.ErrRange", laid_strconv_ErrRange), ("strconv.ErrSyntax", laid_strconv_ErrSyntax), ("whittle/lex.pairs", laid_whittle_lex_pairs), ("whittle/lex.faults", laid_whittle_lex_faults), ("whittle/value.names", laid_whittle_value_names), ("unicode.CaseRanges", laid_unicode_CaseRanges), ("unicode/utf8.first", laid_unicode_utf8_first)], narrowed := true }
def MoveCopiesUptoSaid : Prop := moveCopiesUptoRow.holds Tryz.pinned (OpenSpec.upto moveCopiesSpec)

/-- 'whittlelaw6.MoveThere', WHERE WHAT IT READS IS OF BULK AT MOST 1048576: true; the input reads as it did. -/
def moveThereUptoRow : OpenClaim := { program := "ytejbbceidnaloaagreatdoor", sum := "67ff8975d5bbc10e244b371093a287289e7458d83a31c8d1eee7d330957b1860", func := "whittle/whittlelaw6.MoveThere", spec := "moveThere", inPlace := ["internal/bytealg.IndexByteString", "internal/bytealg.CountString", "internal/bytealg.IndexString", "internal/abi.NoEscape", "internal/bytealg.MakeNoZero"], unfollowed := true, recurses := true, named := ["whittle/lex.faults", "whittle/lex.pairs", "internal/bytealg.MaxLen", "unicode/utf8.first", "unicode/utf8.acceptRanges", "unicode.CaseRanges", "strconv.ErrSyntax", "strconv.ErrRange", "internal/strconv.uint64pow10", "math/bits.deBruijn32tab", "math/bits.deBruijn64tab", "whittle/value.names"], apart := false, laid := [("math/bits.deBruijn32tab", laid_math_bits_deBruijn32tab), ("math/bits.deBruijn64tab", laid_math_bits_deBruijn64tab), ("internal/strconv.uint64pow10", laid_internal_strconv_uint64pow10), ("unicode/utf8.acceptRanges", laid_unicode_utf8_acceptRanges), ("strconv.ErrRange", laid_strconv_ErrRange), ("strconv.ErrSyntax", laid_strconv_ErrSyntax), ("whittle/lex.pairs", laid_whittle_lex_pairs), ("whittle/lex.faults", laid_whittle_lex_faults), ("whittle/value.names", laid_whittle_value_names), ("unicode.CaseRanges", laid_unicode_CaseRanges), ("unicode/utf8.first", laid_unicode_utf8_first)], narrowed := true }
def MoveThereUptoSaid : Prop := moveThereUptoRow.holds Tryz.pinned (OpenSpec.upto moveThereSpec)

/-- 'whittlelaw6.MoveTwice', WHERE WHAT IT READS IS OF BULK AT MOST 1048576: true; the input reads as it did. -/
def moveTwiceUptoRow : OpenClaim := { program := "ytejbbceidnaloaagreatdoor", sum := "67ff8975d5bbc10e244b371093a287289e7458d83a31c8d1eee7d330957b1860", func := "whittle/whittlelaw6.MoveTwice", spec := "moveTwice", inPlace := ["internal/bytealg.IndexByteString", "internal/bytealg.CountString", "internal/bytealg.IndexString", "internal/abi.NoEscape", "internal/bytealg.MakeNoZero"], unfollowed := true, recurses := true, named := ["whittle/lex.faults", "whittle/lex.pairs", "internal/bytealg.MaxLen", "unicode/utf8.first", "unicode/utf8.acceptRanges", "unicode.CaseRanges", "strconv.ErrSyntax", "strconv.ErrRange", "internal/strconv.uint64pow10", "math/bits.deBruijn32tab", "math/bits.deBruijn64tab", "whittle/value.names"], apart := false, laid := [("math/bits.deBruijn32tab", laid_math_bits_deBruijn32tab), ("math/bits.deBruijn64tab", laid_math_bits_deBruijn64tab), ("internal/strconv.uint64pow10", laid_internal_strconv_uint64pow10), ("unicode/utf8.acceptRanges", laid_unicode_utf8_acceptRanges), ("strconv.ErrRange", laid_strconv_ErrRange), ("strconv.ErrSyntax", laid_strconv_ErrSyntax), ("whittle/lex.pairs", laid_whittle_lex_pairs), ("whittle/lex.faults", laid_whittle_lex_faults), ("whittle/value.names", laid_whittle_value_names), ("unicode.CaseRanges", laid_unicode_CaseRanges), ("unicode/utf8.first", laid_unicode_utf8_first)], narrowed := true }
def MoveTwiceUptoSaid : Prop := moveTwiceUptoRow.holds Tryz.pinned (OpenSpec.upto moveTwiceSpec)

/-- 'whittlelaw6.MoveRefs', WHERE WHAT IT READS IS OF BULK AT MOST 1048576: true; the input reads as it did. -/
def moveRefsUptoRow : OpenClaim := { program := "ytejbbceidnaloaagreatdoor", sum := "67ff8975d5bbc10e244b371093a287289e7458d83a31c8d1eee7d330957b1860", func := "whittle/whittlelaw6.MoveRefs", spec := "moveRefs", inPlace := ["internal/bytealg.IndexByteString", "internal/bytealg.CountString", "internal/bytealg.IndexString", "internal/abi.NoEscape", "internal/bytealg.MakeNoZero"], unfollowed := true, recurses := true, named := ["whittle/lex.faults", "whittle/lex.pairs", "internal/bytealg.MaxLen", "unicode/utf8.first", "unicode/utf8.acceptRanges", "unicode.CaseRanges", "strconv.ErrSyntax", "strconv.ErrRange", "internal/strconv.uint64pow10", "math/bits.deBruijn32tab", "math/bits.deBruijn64tab", "whittle/value.names"], apart := false, laid := [("math/bits.deBruijn32tab", laid_math_bits_deBruijn32tab), ("math/bits.deBruijn64tab", laid_math_bits_deBruijn64tab), ("internal/strconv.uint64pow10", laid_internal_strconv_uint64pow10), ("unicode/utf8.acceptRanges", laid_unicode_utf8_acceptRanges), ("strconv.ErrRange", laid_strconv_ErrRange), ("strconv.ErrSyntax", laid_strconv_ErrSyntax), ("whittle/lex.pairs", laid_whittle_lex_pairs), ("whittle/lex.faults", laid_whittle_lex_faults), ("whittle/value.names", laid_whittle_value_names), ("unicode.CaseRanges", laid_unicode_CaseRanges), ("unicode/utf8.first", laid_unicode_utf8_first)], narrowed := true }
def MoveRefsUptoSaid : Prop := moveRefsUptoRow.holds Tryz.pinned (OpenSpec.upto moveRefsSpec)

/-- 'whittlelaw6.MoveTexts', WHERE WHAT IT READS IS OF BULK AT MOST 1048576: true; the input reads as it did. -/
def moveTextsUptoRow : OpenClaim := { program := "ytejbbceidnaloaagreatdoor", sum := "67ff8975d5bbc10e244b371093a287289e7458d83a31c8d1eee7d330957b1860", func := "whittle/whittlelaw6.MoveTexts", spec := "moveTexts", inPlace := ["internal/bytealg.IndexByteString", "internal/bytealg.CountString", "internal/bytealg.IndexString", "internal/abi.NoEscape", "internal/bytealg.MakeNoZero"], unfollowed := true, recurses := true, named := ["whittle/lex.faults", "whittle/lex.pairs", "internal/bytealg.MaxLen", "unicode/utf8.first", "unicode/utf8.acceptRanges", "unicode.CaseRanges", "strconv.ErrSyntax", "strconv.ErrRange", "internal/strconv.uint64pow10", "math/bits.deBruijn32tab", "math/bits.deBruijn64tab", "whittle/value.names"], apart := false, laid := [("math/bits.deBruijn32tab", laid_math_bits_deBruijn32tab), ("math/bits.deBruijn64tab", laid_math_bits_deBruijn64tab), ("internal/strconv.uint64pow10", laid_internal_strconv_uint64pow10), ("unicode/utf8.acceptRanges", laid_unicode_utf8_acceptRanges), ("strconv.ErrRange", laid_strconv_ErrRange), ("strconv.ErrSyntax", laid_strconv_ErrSyntax), ("whittle/lex.pairs", laid_whittle_lex_pairs), ("whittle/lex.faults", laid_whittle_lex_faults), ("whittle/value.names", laid_whittle_value_names), ("unicode.CaseRanges", laid_unicode_CaseRanges), ("unicode/utf8.first", laid_unicode_utf8_first)], narrowed := true }
def MoveTextsUptoSaid : Prop := moveTextsUptoRow.holds Tryz.pinned (OpenSpec.upto moveTextsSpec)

/-- 'whittlelaw6.MoveFills', WHERE WHAT IT READS IS OF BULK AT MOST 1048576: true; the input reads as it did. -/
def moveFillsUptoRow : OpenClaim := { program := "ytejbbceidnaloaagreatdoor", sum := "67ff8975d5bbc10e244b371093a287289e7458d83a31c8d1eee7d330957b1860", func := "whittle/whittlelaw6.MoveFills", spec := "moveFills", inPlace := ["internal/bytealg.IndexByteString", "internal/bytealg.CountString", "internal/bytealg.IndexString", "internal/abi.NoEscape", "internal/bytealg.MakeNoZero"], unfollowed := true, recurses := true, named := ["whittle/lex.faults", "whittle/lex.pairs", "internal/bytealg.MaxLen", "unicode/utf8.first", "unicode/utf8.acceptRanges", "unicode.CaseRanges", "strconv.ErrSyntax", "strconv.ErrRange", "internal/strconv.uint64pow10", "math/bits.deBruijn32tab", "math/bits.deBruijn64tab", "whittle/value.names"], apart := false, laid := [("math/bits.deBruijn32tab", laid_math_bits_deBruijn32tab), ("math/bits.deBruijn64tab", laid_math_bits_deBruijn64tab), ("internal/strconv.uint64pow10", laid_internal_strconv_uint64pow10), ("unicode/utf8.acceptRanges", laid_unicode_utf8_acceptRanges), ("strconv.ErrRange", laid_strconv_ErrRange), ("strconv.ErrSyntax", laid_strconv_ErrSyntax), ("whittle/lex.pairs", laid_whittle_lex_pairs), ("whittle/lex.faults", laid_whittle_lex_faults), ("whittle/value.names", laid_whittle_value_names), ("unicode.CaseRanges", laid_unicode_CaseRanges), ("unicode/utf8.first", laid_unicode_utf8_first)], narrowed := true }
def MoveFillsUptoSaid : Prop := moveFillsUptoRow.holds Tryz.pinned (OpenSpec.upto moveFillsSpec)

/-- 'whittlelaw6.MoveEach', WHERE WHAT IT READS IS OF BULK AT MOST 1048576: true; the input reads as it did. -/
def moveEachUptoRow : OpenClaim := { program := "ytejbbceidnaloaagreatdoor", sum := "67ff8975d5bbc10e244b371093a287289e7458d83a31c8d1eee7d330957b1860", func := "whittle/whittlelaw6.MoveEach", spec := "moveEach", inPlace := ["internal/bytealg.IndexByteString", "internal/bytealg.CountString", "internal/bytealg.IndexString", "internal/abi.NoEscape", "internal/bytealg.MakeNoZero"], unfollowed := true, recurses := true, named := ["whittle/lex.faults", "whittle/lex.pairs", "internal/bytealg.MaxLen", "unicode/utf8.first", "unicode/utf8.acceptRanges", "unicode.CaseRanges", "strconv.ErrSyntax", "strconv.ErrRange", "internal/strconv.uint64pow10", "math/bits.deBruijn32tab", "math/bits.deBruijn64tab", "whittle/value.names"], apart := false, laid := [("math/bits.deBruijn32tab", laid_math_bits_deBruijn32tab), ("math/bits.deBruijn64tab", laid_math_bits_deBruijn64tab), ("internal/strconv.uint64pow10", laid_internal_strconv_uint64pow10), ("unicode/utf8.acceptRanges", laid_unicode_utf8_acceptRanges), ("strconv.ErrRange", laid_strconv_ErrRange), ("strconv.ErrSyntax", laid_strconv_ErrSyntax), ("whittle/lex.pairs", laid_whittle_lex_pairs), ("whittle/lex.faults", laid_whittle_lex_faults), ("whittle/value.names", laid_whittle_value_names), ("unicode.CaseRanges", laid_unicode_CaseRanges), ("unicode/utf8.first", laid_unicode_utf8_first)], narrowed := true }
def MoveEachUptoSaid : Prop := moveEachUptoRow.holds Tryz.pinned (OpenSpec.upto moveEachSpec)

end Rows
end Go.Proofs.YtejbbceidnaloaaGreatDoor
