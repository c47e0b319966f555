/-
  NARROWER THAN 'FOR EVERY INPUT', by the rows' own cells (each row's printed sentence says how): PlaceNames: laid · PlaceMeets: laid · PlaceOrder: laid · PlaceThere: laid · PlaceHulls: laid · PlaceShifts: laid · PlaceCount: laid · PlaceHold: laid · PlaceCursors: laid · PlaceWalk: laid · PlaceAreas: laid · PlaceReads: laid · PlaceBack: laid.
  DERIVED. THE GIVEN ROWS OF THIS SEAT. 13 by the template 'for every input the law returns true; each argument reads behind the call as it read before'; 0 by the template 'total and deterministic' (their statements: YtijmipnafhljkaaDoorTotals.lean).
  GIVEN WITH THE SEED: the statements are not yours to turn. If you find one false, say at which input.
  Laid BY PROGRAM, IN A SANDBOX (cutbox-rows.mjs): the forced cells as the released guide's own fill.sh prints them over the translation a72920f4c27cfe28… (all of the seat's roots in one cut). By AI agents, Wed Nov 11 2026. No macro, syntax, notation, axiom, sorry.
-/
import Derived.Test.YtijmipnafhljkaaDoorChecked
import GoSem.Claim
import GoSem.ClaimJoined
import GoSem.ClaimMapViews
import Derived.JoinedTies
import Derived.KernelRfl
namespace Go.Proofs.YtijmipnafhljkaaDoor
/- THE CELL 'sum', in the pinned program and in every row, IS THE sha256 OF THE DUMP (.gsa) THAT YtijmipnafhljkaaDoorProg.lean LOADS. Nothing in Lean hashes anything: it is a label: what it is worth is what the hold of that sum in a sandbox is worth. -/
noncomputable def Tryd.pinned : Pinned := { name := "ytijmipnafhljkaadoor", sum := "a72920f4c27cfe288f8d806d781b62012740a9b03ce01010381c55cda43c6d8b", checked := Tryd.checked }
namespace Rows
def none {H : Type} : Left H := { results := [], args := [] }

/- WHAT THE LISTED PACKAGE-LEVEL VARIABLES READ AS WHEN THE CALL BEGINS. Each datum BY PROGRAM (the guide's laid-datum.mjs) off the statement by which the dump's own 'gosem.cut.vars' lays the variable. In a bare row this is a premise. The card (YtijmipnafhljkaaDoorCards.lean) ties it to the program's text. -/
def laid_math_bits_deBruijn32tab {H : Type} : DataW H := .agg [.lit (.int .u8 0), .lit (.int .u8 1), .lit (.int .u8 28), .lit (.int .u8 2), .lit (.int .u8 29), .lit (.int .u8 14), .lit (.int .u8 24), .lit (.int .u8 3), .lit (.int .u8 30), .lit (.int .u8 22), .lit (.int .u8 20), .lit (.int .u8 15), .lit (.int .u8 25), .lit (.int .u8 17), .lit (.int .u8 4), .lit (.int .u8 8), .lit (.int .u8 31), .lit (.int .u8 27), .lit (.int .u8 13), .lit (.int .u8 23), .lit (.int .u8 21), .lit (.int .u8 19), .lit (.int .u8 16), .lit (.int .u8 7), .lit (.int .u8 26), .lit (.int .u8 12), .lit (.int .u8 18), .lit (.int .u8 6), .lit (.int .u8 11), .lit (.int .u8 5), .lit (.int .u8 10), .lit (.int .u8 9)]
def laid_math_bits_deBruijn64tab {H : Type} : DataW H := .agg [.lit (.int .u8 0), .lit (.int .u8 1), .lit (.int .u8 56), .lit (.int .u8 2), .lit (.int .u8 57), .lit (.int .u8 49), .lit (.int .u8 28), .lit (.int .u8 3), .lit (.int .u8 61), .lit (.int .u8 58), .lit (.int .u8 42), .lit (.int .u8 50), .lit (.int .u8 38), .lit (.int .u8 29), .lit (.int .u8 17), .lit (.int .u8 4), .lit (.int .u8 62), .lit (.int .u8 47), .lit (.int .u8 59), .lit (.int .u8 36), .lit (.int .u8 45), .lit (.int .u8 43), .lit (.int .u8 51), .lit (.int .u8 22), .lit (.int .u8 53), .lit (.int .u8 39), .lit (.int .u8 33), .lit (.int .u8 30), .lit (.int .u8 24), .lit (.int .u8 18), .lit (.int .u8 12), .lit (.int .u8 5), .lit (.int .u8 63), .lit (.int .u8 55), .lit (.int .u8 48), .lit (.int .u8 27), .lit (.int .u8 60), .lit (.int .u8 41), .lit (.int .u8 37), .lit (.int .u8 16), .lit (.int .u8 46), .lit (.int .u8 35), .lit (.int .u8 44), .lit (.int .u8 21), .lit (.int .u8 52), .lit (.int .u8 32), .lit (.int .u8 23), .lit (.int .u8 11), .lit (.int .u8 54), .lit (.int .u8 26), .lit (.int .u8 40), .lit (.int .u8 15), .lit (.int .u8 34), .lit (.int .u8 20), .lit (.int .u8 31), .lit (.int .u8 10), .lit (.int .u8 25), .lit (.int .u8 14), .lit (.int .u8 19), .lit (.int .u8 9), .lit (.int .u8 13), .lit (.int .u8 8), .lit (.int .u8 7), .lit (.int .u8 6)]
def laid_internal_strconv_uint64pow10 {H : Type} : DataW H := .agg [.lit (.int .u64 1), .lit (.int .u64 10), .lit (.int .u64 100), .lit (.int .u64 1000), .lit (.int .u64 10000), .lit (.int .u64 100000), .lit (.int .u64 1000000), .lit (.int .u64 10000000), .lit (.int .u64 100000000), .lit (.int .u64 1000000000), .lit (.int .u64 10000000000), .lit (.int .u64 100000000000), .lit (.int .u64 1000000000000), .lit (.int .u64 10000000000000), .lit (.int .u64 100000000000000), .lit (.int .u64 1000000000000000), .lit (.int .u64 10000000000000000), .lit (.int .u64 100000000000000000), .lit (.int .u64 1000000000000000000), .lit (.int .u64 10000000000000000000)]
def laid_strconv_ErrRange {H : Type} : DataW H := .iface "*errors.errorString" (.ptr (.agg [.lit (.string [118, 97, 108, 117, 101, 32, 111, 117, 116, 32, 111, 102, 32, 114, 97, 110, 103, 101])]))
def laid_strconv_ErrSyntax {H : Type} : DataW H := .iface "*errors.errorString" (.ptr (.agg [.lit (.string [105, 110, 118, 97, 108, 105, 100, 32, 115, 121, 110, 116, 97, 120])]))

/-- 'whittlelaw3.PlaceNames': WHATEVER THE INPUT: true; the input reads as it did. -/
def placeNamesSpec : ChangeSpec := { name := "placeNames", fn := fun _ => fun
  | [d1, d2, d3] => { results := [.lit (.bool true)], args := [d1, d2, d3] }
  | _ => none }
def placeNamesRow : OpenClaim := { program := "ytijmipnafhljkaadoor", sum := "a72920f4c27cfe288f8d806d781b62012740a9b03ce01010381c55cda43c6d8b", func := "whittle/whittlelaw3.PlaceNames", spec := "placeNames", named := ["strconv.ErrSyntax", "strconv.ErrRange", "internal/strconv.uint64pow10", "math/bits.deBruijn32tab", "math/bits.deBruijn64tab"], apart := false, laid := [("math/bits.deBruijn32tab", laid_math_bits_deBruijn32tab), ("math/bits.deBruijn64tab", laid_math_bits_deBruijn64tab), ("internal/strconv.uint64pow10", laid_internal_strconv_uint64pow10), ("strconv.ErrRange", laid_strconv_ErrRange), ("strconv.ErrSyntax", laid_strconv_ErrSyntax)] }
def PlaceNamesSaid : Prop := placeNamesRow.holds Tryd.pinned (OpenSpec.ofChange placeNamesSpec)

/-- ITS FALSE NEIGHBOUR: 'it returns false'. Refute it at one input. -/
def placeNamesWrong : ChangeSpec := { name := "placeNames", fn := fun _ => fun
  | [d1, d2, d3] => { results := [.lit (.bool false)], args := [d1, d2, d3] }
  | _ => none }
def PlaceNamesWrongFalsely : Prop := placeNamesRow.holds Tryd.pinned (OpenSpec.ofChange placeNamesWrong)

/-- 'whittlelaw3.PlaceMeets': WHATEVER THE INPUT: true; the input reads as it did. -/
def placeMeetsSpec : ChangeSpec := { name := "placeMeets", fn := fun _ => fun
  | [d1, d2, d3, d4] => { results := [.lit (.bool true)], args := [d1, d2, d3, d4] }
  | _ => none }
def placeMeetsRow : OpenClaim := { program := "ytijmipnafhljkaadoor", sum := "a72920f4c27cfe288f8d806d781b62012740a9b03ce01010381c55cda43c6d8b", func := "whittle/whittlelaw3.PlaceMeets", spec := "placeMeets", named := ["strconv.ErrSyntax", "strconv.ErrRange", "internal/strconv.uint64pow10", "math/bits.deBruijn32tab", "math/bits.deBruijn64tab"], apart := false, laid := [("math/bits.deBruijn32tab", laid_math_bits_deBruijn32tab), ("math/bits.deBruijn64tab", laid_math_bits_deBruijn64tab), ("internal/strconv.uint64pow10", laid_internal_strconv_uint64pow10), ("strconv.ErrRange", laid_strconv_ErrRange), ("strconv.ErrSyntax", laid_strconv_ErrSyntax)] }
def PlaceMeetsSaid : Prop := placeMeetsRow.holds Tryd.pinned (OpenSpec.ofChange placeMeetsSpec)

/-- ITS FALSE NEIGHBOUR: 'it returns false'. Refute it at one input. -/
def placeMeetsWrong : ChangeSpec := { name := "placeMeets", fn := fun _ => fun
  | [d1, d2, d3, d4] => { results := [.lit (.bool false)], args := [d1, d2, d3, d4] }
  | _ => none }
def PlaceMeetsWrongFalsely : Prop := placeMeetsRow.holds Tryd.pinned (OpenSpec.ofChange placeMeetsWrong)

/-- 'whittlelaw3.PlaceOrder': WHATEVER THE INPUT: true; the input reads as it did. -/
def placeOrderSpec : ChangeSpec := { name := "placeOrder", fn := fun _ => fun
  | [d1, d2, d3] => { results := [.lit (.bool true)], args := [d1, d2, d3] }
  | _ => none }
def placeOrderRow : OpenClaim := { program := "ytijmipnafhljkaadoor", sum := "a72920f4c27cfe288f8d806d781b62012740a9b03ce01010381c55cda43c6d8b", func := "whittle/whittlelaw3.PlaceOrder", spec := "placeOrder", named := ["strconv.ErrSyntax", "strconv.ErrRange", "internal/strconv.uint64pow10", "math/bits.deBruijn32tab", "math/bits.deBruijn64tab"], apart := false, laid := [("math/bits.deBruijn32tab", laid_math_bits_deBruijn32tab), ("math/bits.deBruijn64tab", laid_math_bits_deBruijn64tab), ("internal/strconv.uint64pow10", laid_internal_strconv_uint64pow10), ("strconv.ErrRange", laid_strconv_ErrRange), ("strconv.ErrSyntax", laid_strconv_ErrSyntax)] }
def PlaceOrderSaid : Prop := placeOrderRow.holds Tryd.pinned (OpenSpec.ofChange placeOrderSpec)

/-- ITS FALSE NEIGHBOUR: 'it returns false'. Refute it at one input. -/
def placeOrderWrong : ChangeSpec := { name := "placeOrder", fn := fun _ => fun
  | [d1, d2, d3] => { results := [.lit (.bool false)], args := [d1, d2, d3] }
  | _ => none }
def PlaceOrderWrongFalsely : Prop := placeOrderRow.holds Tryd.pinned (OpenSpec.ofChange placeOrderWrong)

/-- 'whittlelaw3.PlaceThere': WHATEVER THE INPUT: true; the input reads as it did. -/
def placeThereSpec : ChangeSpec := { name := "placeThere", fn := fun _ => fun
  | [d1, d2, d3, d4] => { results := [.lit (.bool true)], args := [d1, d2, d3, d4] }
  | _ => none }
def placeThereRow : OpenClaim := { program := "ytijmipnafhljkaadoor", sum := "a72920f4c27cfe288f8d806d781b62012740a9b03ce01010381c55cda43c6d8b", func := "whittle/whittlelaw3.PlaceThere", spec := "placeThere", named := ["strconv.ErrSyntax", "strconv.ErrRange", "internal/strconv.uint64pow10", "math/bits.deBruijn32tab", "math/bits.deBruijn64tab"], apart := false, laid := [("math/bits.deBruijn32tab", laid_math_bits_deBruijn32tab), ("math/bits.deBruijn64tab", laid_math_bits_deBruijn64tab), ("internal/strconv.uint64pow10", laid_internal_strconv_uint64pow10), ("strconv.ErrRange", laid_strconv_ErrRange), ("strconv.ErrSyntax", laid_strconv_ErrSyntax)] }
def PlaceThereSaid : Prop := placeThereRow.holds Tryd.pinned (OpenSpec.ofChange placeThereSpec)

/-- ITS FALSE NEIGHBOUR: 'it returns false'. Refute it at one input. -/
def placeThereWrong : ChangeSpec := { name := "placeThere", fn := fun _ => fun
  | [d1, d2, d3, d4] => { results := [.lit (.bool false)], args := [d1, d2, d3, d4] }
  | _ => none }
def PlaceThereWrongFalsely : Prop := placeThereRow.holds Tryd.pinned (OpenSpec.ofChange placeThereWrong)

/-- 'whittlelaw3.PlaceHulls': WHATEVER THE INPUT: true; the input reads as it did. -/
def placeHullsSpec : ChangeSpec := { name := "placeHulls", fn := fun _ => fun
  | [d] => { results := [.lit (.bool true)], args := [d] }
  | _ => none }
def placeHullsRow : OpenClaim := { program := "ytijmipnafhljkaadoor", sum := "a72920f4c27cfe288f8d806d781b62012740a9b03ce01010381c55cda43c6d8b", func := "whittle/whittlelaw3.PlaceHulls", spec := "placeHulls", named := ["strconv.ErrSyntax", "strconv.ErrRange", "internal/strconv.uint64pow10", "math/bits.deBruijn32tab", "math/bits.deBruijn64tab"], apart := false, laid := [("math/bits.deBruijn32tab", laid_math_bits_deBruijn32tab), ("math/bits.deBruijn64tab", laid_math_bits_deBruijn64tab), ("internal/strconv.uint64pow10", laid_internal_strconv_uint64pow10), ("strconv.ErrRange", laid_strconv_ErrRange), ("strconv.ErrSyntax", laid_strconv_ErrSyntax)] }
def PlaceHullsSaid : Prop := placeHullsRow.holds Tryd.pinned (OpenSpec.ofChange placeHullsSpec)

/-- ITS FALSE NEIGHBOUR: 'it returns false'. Refute it at one input. -/
def placeHullsWrong : ChangeSpec := { name := "placeHulls", fn := fun _ => fun
  | [d] => { results := [.lit (.bool false)], args := [d] }
  | _ => none }
def PlaceHullsWrongFalsely : Prop := placeHullsRow.holds Tryd.pinned (OpenSpec.ofChange placeHullsWrong)

/-- 'whittlelaw3.PlaceShifts': WHATEVER THE INPUT: true; the input reads as it did. -/
def placeShiftsSpec : ChangeSpec := { name := "placeShifts", fn := fun _ => fun
  | [d1, d2, d3, d4] => { results := [.lit (.bool true)], args := [d1, d2, d3, d4] }
  | _ => none }
def placeShiftsRow : OpenClaim := { program := "ytijmipnafhljkaadoor", sum := "a72920f4c27cfe288f8d806d781b62012740a9b03ce01010381c55cda43c6d8b", func := "whittle/whittlelaw3.PlaceShifts", spec := "placeShifts", named := ["strconv.ErrSyntax", "strconv.ErrRange", "internal/strconv.uint64pow10", "math/bits.deBruijn32tab", "math/bits.deBruijn64tab"], apart := false, laid := [("math/bits.deBruijn32tab", laid_math_bits_deBruijn32tab), ("math/bits.deBruijn64tab", laid_math_bits_deBruijn64tab), ("internal/strconv.uint64pow10", laid_internal_strconv_uint64pow10), ("strconv.ErrRange", laid_strconv_ErrRange), ("strconv.ErrSyntax", laid_strconv_ErrSyntax)] }
def PlaceShiftsSaid : Prop := placeShiftsRow.holds Tryd.pinned (OpenSpec.ofChange placeShiftsSpec)

/-- ITS FALSE NEIGHBOUR: 'it returns false'. Refute it at one input. -/
def placeShiftsWrong : ChangeSpec := { name := "placeShifts", fn := fun _ => fun
  | [d1, d2, d3, d4] => { results := [.lit (.bool false)], args := [d1, d2, d3, d4] }
  | _ => none }
def PlaceShiftsWrongFalsely : Prop := placeShiftsRow.holds Tryd.pinned (OpenSpec.ofChange placeShiftsWrong)

/-- 'whittlelaw3.PlaceCount': WHATEVER THE INPUT: true; the input reads as it did. -/
def placeCountSpec : ChangeSpec := { name := "placeCount", fn := fun _ => fun
  | [d1, d2, d3] => { results := [.lit (.bool true)], args := [d1, d2, d3] }
  | _ => none }
def placeCountRow : OpenClaim := { program := "ytijmipnafhljkaadoor", sum := "a72920f4c27cfe288f8d806d781b62012740a9b03ce01010381c55cda43c6d8b", func := "whittle/whittlelaw3.PlaceCount", spec := "placeCount", named := ["strconv.ErrSyntax", "strconv.ErrRange", "internal/strconv.uint64pow10", "math/bits.deBruijn32tab", "math/bits.deBruijn64tab"], apart := false, laid := [("math/bits.deBruijn32tab", laid_math_bits_deBruijn32tab), ("math/bits.deBruijn64tab", laid_math_bits_deBruijn64tab), ("internal/strconv.uint64pow10", laid_internal_strconv_uint64pow10), ("strconv.ErrRange", laid_strconv_ErrRange), ("strconv.ErrSyntax", laid_strconv_ErrSyntax)] }
def PlaceCountSaid : Prop := placeCountRow.holds Tryd.pinned (OpenSpec.ofChange placeCountSpec)

/-- ITS FALSE NEIGHBOUR: 'it returns false'. Refute it at one input. -/
def placeCountWrong : ChangeSpec := { name := "placeCount", fn := fun _ => fun
  | [d1, d2, d3] => { results := [.lit (.bool false)], args := [d1, d2, d3] }
  | _ => none }
def PlaceCountWrongFalsely : Prop := placeCountRow.holds Tryd.pinned (OpenSpec.ofChange placeCountWrong)

/-- 'whittlelaw3.PlaceHold': WHATEVER THE INPUT: true; the input reads as it did. -/
def placeHoldSpec : ChangeSpec := { name := "placeHold", fn := fun _ => fun
  | [d1, d2] => { results := [.lit (.bool true)], args := [d1, d2] }
  | _ => none }
def placeHoldRow : OpenClaim := { program := "ytijmipnafhljkaadoor", sum := "a72920f4c27cfe288f8d806d781b62012740a9b03ce01010381c55cda43c6d8b", func := "whittle/whittlelaw3.PlaceHold", spec := "placeHold", named := ["strconv.ErrSyntax", "strconv.ErrRange", "internal/strconv.uint64pow10", "math/bits.deBruijn32tab", "math/bits.deBruijn64tab"], apart := false, laid := [("math/bits.deBruijn32tab", laid_math_bits_deBruijn32tab), ("math/bits.deBruijn64tab", laid_math_bits_deBruijn64tab), ("internal/strconv.uint64pow10", laid_internal_strconv_uint64pow10), ("strconv.ErrRange", laid_strconv_ErrRange), ("strconv.ErrSyntax", laid_strconv_ErrSyntax)] }
def PlaceHoldSaid : Prop := placeHoldRow.holds Tryd.pinned (OpenSpec.ofChange placeHoldSpec)

/-- ITS FALSE NEIGHBOUR: 'it returns false'. Refute it at one input. -/
def placeHoldWrong : ChangeSpec := { name := "placeHold", fn := fun _ => fun
  | [d1, d2] => { results := [.lit (.bool false)], args := [d1, d2] }
  | _ => none }
def PlaceHoldWrongFalsely : Prop := placeHoldRow.holds Tryd.pinned (OpenSpec.ofChange placeHoldWrong)

/-- 'whittlelaw3.PlaceCursors': WHATEVER THE INPUT: true; the input reads as it did. -/
def placeCursorsSpec : ChangeSpec := { name := "placeCursors", fn := fun _ => fun
  | [d1, d2] => { results := [.lit (.bool true)], args := [d1, d2] }
  | _ => none }
def placeCursorsRow : OpenClaim := { program := "ytijmipnafhljkaadoor", sum := "a72920f4c27cfe288f8d806d781b62012740a9b03ce01010381c55cda43c6d8b", func := "whittle/whittlelaw3.PlaceCursors", spec := "placeCursors", named := ["strconv.ErrSyntax", "strconv.ErrRange", "internal/strconv.uint64pow10", "math/bits.deBruijn32tab", "math/bits.deBruijn64tab"], apart := false, laid := [("math/bits.deBruijn32tab", laid_math_bits_deBruijn32tab), ("math/bits.deBruijn64tab", laid_math_bits_deBruijn64tab), ("internal/strconv.uint64pow10", laid_internal_strconv_uint64pow10), ("strconv.ErrRange", laid_strconv_ErrRange), ("strconv.ErrSyntax", laid_strconv_ErrSyntax)] }
def PlaceCursorsSaid : Prop := placeCursorsRow.holds Tryd.pinned (OpenSpec.ofChange placeCursorsSpec)

/-- ITS FALSE NEIGHBOUR: 'it returns false'. Refute it at one input. -/
def placeCursorsWrong : ChangeSpec := { name := "placeCursors", fn := fun _ => fun
  | [d1, d2] => { results := [.lit (.bool false)], args := [d1, d2] }
  | _ => none }
def PlaceCursorsWrongFalsely : Prop := placeCursorsRow.holds Tryd.pinned (OpenSpec.ofChange placeCursorsWrong)

/-- 'whittlelaw3.PlaceWalk': WHATEVER THE INPUT: true; the input reads as it did. -/
def placeWalkSpec : ChangeSpec := { name := "placeWalk", fn := fun _ => fun
  | [d1, d2, d3] => { results := [.lit (.bool true)], args := [d1, d2, d3] }
  | _ => none }
def placeWalkRow : OpenClaim := { program := "ytijmipnafhljkaadoor", sum := "a72920f4c27cfe288f8d806d781b62012740a9b03ce01010381c55cda43c6d8b", func := "whittle/whittlelaw3.PlaceWalk", spec := "placeWalk", named := ["strconv.ErrSyntax", "strconv.ErrRange", "internal/strconv.uint64pow10", "math/bits.deBruijn32tab", "math/bits.deBruijn64tab"], apart := false, laid := [("math/bits.deBruijn32tab", laid_math_bits_deBruijn32tab), ("math/bits.deBruijn64tab", laid_math_bits_deBruijn64tab), ("internal/strconv.uint64pow10", laid_internal_strconv_uint64pow10), ("strconv.ErrRange", laid_strconv_ErrRange), ("strconv.ErrSyntax", laid_strconv_ErrSyntax)] }
def PlaceWalkSaid : Prop := placeWalkRow.holds Tryd.pinned (OpenSpec.ofChange placeWalkSpec)

/-- ITS FALSE NEIGHBOUR: 'it returns false'. Refute it at one input. -/
def placeWalkWrong : ChangeSpec := { name := "placeWalk", fn := fun _ => fun
  | [d1, d2, d3] => { results := [.lit (.bool false)], args := [d1, d2, d3] }
  | _ => none }
def PlaceWalkWrongFalsely : Prop := placeWalkRow.holds Tryd.pinned (OpenSpec.ofChange placeWalkWrong)

/-- 'whittlelaw3.PlaceAreas': WHATEVER THE INPUT: true; the input reads as it did. -/
def placeAreasSpec : ChangeSpec := { name := "placeAreas", fn := fun _ => fun
  | [d1, d2, d3, d4] => { results := [.lit (.bool true)], args := [d1, d2, d3, d4] }
  | _ => none }
def placeAreasRow : OpenClaim := { program := "ytijmipnafhljkaadoor", sum := "a72920f4c27cfe288f8d806d781b62012740a9b03ce01010381c55cda43c6d8b", func := "whittle/whittlelaw3.PlaceAreas", spec := "placeAreas", named := ["strconv.ErrSyntax", "strconv.ErrRange", "internal/strconv.uint64pow10", "math/bits.deBruijn32tab", "math/bits.deBruijn64tab"], apart := false, laid := [("math/bits.deBruijn32tab", laid_math_bits_deBruijn32tab), ("math/bits.deBruijn64tab", laid_math_bits_deBruijn64tab), ("internal/strconv.uint64pow10", laid_internal_strconv_uint64pow10), ("strconv.ErrRange", laid_strconv_ErrRange), ("strconv.ErrSyntax", laid_strconv_ErrSyntax)] }
def PlaceAreasSaid : Prop := placeAreasRow.holds Tryd.pinned (OpenSpec.ofChange placeAreasSpec)

/-- ITS FALSE NEIGHBOUR: 'it returns false'. Refute it at one input. -/
def placeAreasWrong : ChangeSpec := { name := "placeAreas", fn := fun _ => fun
  | [d1, d2, d3, d4] => { results := [.lit (.bool false)], args := [d1, d2, d3, d4] }
  | _ => none }
def PlaceAreasWrongFalsely : Prop := placeAreasRow.holds Tryd.pinned (OpenSpec.ofChange placeAreasWrong)

/-- 'whittlelaw3.PlaceReads': WHATEVER THE INPUT: true; the input reads as it did. -/
def placeReadsSpec : ChangeSpec := { name := "placeReads", fn := fun _ => fun
  | [d] => { results := [.lit (.bool true)], args := [d] }
  | _ => none }
def placeReadsRow : OpenClaim := { program := "ytijmipnafhljkaadoor", sum := "a72920f4c27cfe288f8d806d781b62012740a9b03ce01010381c55cda43c6d8b", func := "whittle/whittlelaw3.PlaceReads", spec := "placeReads", inPlace := ["internal/bytealg.IndexByteString", "internal/bytealg.IndexString"], named := ["strconv.ErrSyntax", "strconv.ErrRange", "internal/strconv.uint64pow10", "math/bits.deBruijn32tab", "math/bits.deBruijn64tab", "internal/bytealg.MaxLen"], apart := false, laid := [("math/bits.deBruijn32tab", laid_math_bits_deBruijn32tab), ("math/bits.deBruijn64tab", laid_math_bits_deBruijn64tab), ("internal/strconv.uint64pow10", laid_internal_strconv_uint64pow10), ("strconv.ErrRange", laid_strconv_ErrRange), ("strconv.ErrSyntax", laid_strconv_ErrSyntax)] }
def PlaceReadsSaid : Prop := placeReadsRow.holds Tryd.pinned (OpenSpec.ofChange placeReadsSpec)

/-- ITS FALSE NEIGHBOUR: 'it returns false'. Refute it at one input. -/
def placeReadsWrong : ChangeSpec := { name := "placeReads", fn := fun _ => fun
  | [d] => { results := [.lit (.bool false)], args := [d] }
  | _ => none }
def PlaceReadsWrongFalsely : Prop := placeReadsRow.holds Tryd.pinned (OpenSpec.ofChange placeReadsWrong)

/-- 'whittlelaw3.PlaceBack': WHATEVER THE INPUT: true; the input reads as it did. -/
def placeBackSpec : ChangeSpec := { name := "placeBack", fn := fun _ => fun
  | [d1, d2] => { results := [.lit (.bool true)], args := [d1, d2] }
  | _ => none }
def placeBackRow : OpenClaim := { program := "ytijmipnafhljkaadoor", sum := "a72920f4c27cfe288f8d806d781b62012740a9b03ce01010381c55cda43c6d8b", func := "whittle/whittlelaw3.PlaceBack", spec := "placeBack", inPlace := ["internal/bytealg.IndexByteString", "internal/bytealg.IndexString"], named := ["strconv.ErrSyntax", "strconv.ErrRange", "internal/strconv.uint64pow10", "math/bits.deBruijn32tab", "math/bits.deBruijn64tab", "internal/bytealg.MaxLen"], apart := false, laid := [("math/bits.deBruijn32tab", laid_math_bits_deBruijn32tab), ("math/bits.deBruijn64tab", laid_math_bits_deBruijn64tab), ("internal/strconv.uint64pow10", laid_internal_strconv_uint64pow10), ("strconv.ErrRange", laid_strconv_ErrRange), ("strconv.ErrSyntax", laid_strconv_ErrSyntax)] }
def PlaceBackSaid : Prop := placeBackRow.holds Tryd.pinned (OpenSpec.ofChange placeBackSpec)

/-- ITS FALSE NEIGHBOUR: 'it returns false'. Refute it at one input. -/
def placeBackWrong : ChangeSpec := { name := "placeBack", fn := fun _ => fun
  | [d1, d2] => { results := [.lit (.bool false)], args := [d1, d2] }
  | _ => none }
def PlaceBackWrongFalsely : Prop := placeBackRow.holds Tryd.pinned (OpenSpec.ofChange placeBackWrong)

/- THE SECOND FORM. 'bulk': how many values and letters a reading holds, each counted each time it is reached (what is shared counts as often as it is met; a slice's spare places count too). A statement '..UptoSaid' is the law's where the arguments, and the package variables that the reading takes, are together of bulk at most 1048576: NARROWER than '..Said'. Prove '..Said' where nothing that the law and all that it calls make is longer than what came in: it says more and counts as full. Else prove '..UptoSaid'. A law counts once. -/
mutual
def uptoBulk {H : Type} : DataW H → Nat
  | .lit (.string bytes) => bytes.length + 1
  | .lit _ => 1
  | .nil => 1
  | .ptr d => uptoBulk d + 1
  | .slice elems spare => uptoBulkAll elems + uptoBulkAll spare + 1
  | .agg parts => uptoBulkAll parts + 1
  | .iface _ d => uptoBulk d + 1
  | .map entries => uptoBulkEntries entries + 1
  | .held _ => 1
def uptoBulkAll {H : Type} : List (DataW H) → Nat
  | [] => 0
  | d :: r => uptoBulk d + uptoBulkAll r
def uptoBulkEntries {H : Type} : List (Lit × DataW H) → Nat
  | [] => 0
  | x :: r => uptoBulkEntry x + uptoBulkEntries r
def uptoBulkEntry {H : Type} : Lit × DataW H → Nat
  | (.string bytes, d) => bytes.length + uptoBulk d + 1
  | (_, d) => uptoBulk d + 1
 end
def uptoSmall : (H : Type) → List (DataW H) → Bool := fun _ ds => decide (uptoBulkAll ds ≤ 1048576)
def OpenSpec.upto (s : _root_.Go.ChangeSpec) : _root_.Go.OpenSpec := { _root_.Go.OpenSpec.ofChange s with cond := some uptoSmall }

/-- 'whittlelaw3.PlaceNames', WHERE WHAT IT READS IS OF BULK AT MOST 1048576: true; the input reads as it did. -/
def placeNamesUptoRow : OpenClaim := { program := "ytijmipnafhljkaadoor", sum := "a72920f4c27cfe288f8d806d781b62012740a9b03ce01010381c55cda43c6d8b", func := "whittle/whittlelaw3.PlaceNames", spec := "placeNames", named := ["strconv.ErrSyntax", "strconv.ErrRange", "internal/strconv.uint64pow10", "math/bits.deBruijn32tab", "math/bits.deBruijn64tab"], apart := false, laid := [("math/bits.deBruijn32tab", laid_math_bits_deBruijn32tab), ("math/bits.deBruijn64tab", laid_math_bits_deBruijn64tab), ("internal/strconv.uint64pow10", laid_internal_strconv_uint64pow10), ("strconv.ErrRange", laid_strconv_ErrRange), ("strconv.ErrSyntax", laid_strconv_ErrSyntax)], narrowed := true }
def PlaceNamesUptoSaid : Prop := placeNamesUptoRow.holds Tryd.pinned (OpenSpec.upto placeNamesSpec)

/-- 'whittlelaw3.PlaceMeets', WHERE WHAT IT READS IS OF BULK AT MOST 1048576: true; the input reads as it did. -/
def placeMeetsUptoRow : OpenClaim := { program := "ytijmipnafhljkaadoor", sum := "a72920f4c27cfe288f8d806d781b62012740a9b03ce01010381c55cda43c6d8b", func := "whittle/whittlelaw3.PlaceMeets", spec := "placeMeets", named := ["strconv.ErrSyntax", "strconv.ErrRange", "internal/strconv.uint64pow10", "math/bits.deBruijn32tab", "math/bits.deBruijn64tab"], apart := false, laid := [("math/bits.deBruijn32tab", laid_math_bits_deBruijn32tab), ("math/bits.deBruijn64tab", laid_math_bits_deBruijn64tab), ("internal/strconv.uint64pow10", laid_internal_strconv_uint64pow10), ("strconv.ErrRange", laid_strconv_ErrRange), ("strconv.ErrSyntax", laid_strconv_ErrSyntax)], narrowed := true }
def PlaceMeetsUptoSaid : Prop := placeMeetsUptoRow.holds Tryd.pinned (OpenSpec.upto placeMeetsSpec)

/-- 'whittlelaw3.PlaceOrder', WHERE WHAT IT READS IS OF BULK AT MOST 1048576: true; the input reads as it did. -/
def placeOrderUptoRow : OpenClaim := { program := "ytijmipnafhljkaadoor", sum := "a72920f4c27cfe288f8d806d781b62012740a9b03ce01010381c55cda43c6d8b", func := "whittle/whittlelaw3.PlaceOrder", spec := "placeOrder", named := ["strconv.ErrSyntax", "strconv.ErrRange", "internal/strconv.uint64pow10", "math/bits.deBruijn32tab", "math/bits.deBruijn64tab"], apart := false, laid := [("math/bits.deBruijn32tab", laid_math_bits_deBruijn32tab), ("math/bits.deBruijn64tab", laid_math_bits_deBruijn64tab), ("internal/strconv.uint64pow10", laid_internal_strconv_uint64pow10), ("strconv.ErrRange", laid_strconv_ErrRange), ("strconv.ErrSyntax", laid_strconv_ErrSyntax)], narrowed := true }
def PlaceOrderUptoSaid : Prop := placeOrderUptoRow.holds Tryd.pinned (OpenSpec.upto placeOrderSpec)

/-- 'whittlelaw3.PlaceThere', WHERE WHAT IT READS IS OF BULK AT MOST 1048576: true; the input reads as it did. -/
def placeThereUptoRow : OpenClaim := { program := "ytijmipnafhljkaadoor", sum := "a72920f4c27cfe288f8d806d781b62012740a9b03ce01010381c55cda43c6d8b", func := "whittle/whittlelaw3.PlaceThere", spec := "placeThere", named := ["strconv.ErrSyntax", "strconv.ErrRange", "internal/strconv.uint64pow10", "math/bits.deBruijn32tab", "math/bits.deBruijn64tab"], apart := false, laid := [("math/bits.deBruijn32tab", laid_math_bits_deBruijn32tab), ("math/bits.deBruijn64tab", laid_math_bits_deBruijn64tab), ("internal/strconv.uint64pow10", laid_internal_strconv_uint64pow10), ("strconv.ErrRange", laid_strconv_ErrRange), ("strconv.ErrSyntax", laid_strconv_ErrSyntax)], narrowed := true }
def PlaceThereUptoSaid : Prop := placeThereUptoRow.holds Tryd.pinned (OpenSpec.upto placeThereSpec)

/-- 'whittlelaw3.PlaceHulls', WHERE WHAT IT READS IS OF BULK AT MOST 1048576: true; the input reads as it did. -/
def placeHullsUptoRow : OpenClaim := { program := "ytijmipnafhljkaadoor", sum := "a72920f4c27cfe288f8d806d781b62012740a9b03ce01010381c55cda43c6d8b", func := "whittle/whittlelaw3.PlaceHulls", spec := "placeHulls", named := ["strconv.ErrSyntax", "strconv.ErrRange", "internal/strconv.uint64pow10", "math/bits.deBruijn32tab", "math/bits.deBruijn64tab"], apart := false, laid := [("math/bits.deBruijn32tab", laid_math_bits_deBruijn32tab), ("math/bits.deBruijn64tab", laid_math_bits_deBruijn64tab), ("internal/strconv.uint64pow10", laid_internal_strconv_uint64pow10), ("strconv.ErrRange", laid_strconv_ErrRange), ("strconv.ErrSyntax", laid_strconv_ErrSyntax)], narrowed := true }
def PlaceHullsUptoSaid : Prop := placeHullsUptoRow.holds Tryd.pinned (OpenSpec.upto placeHullsSpec)

/-- 'whittlelaw3.PlaceShifts', WHERE WHAT IT READS IS OF BULK AT MOST 1048576: true; the input reads as it did. -/
def placeShiftsUptoRow : OpenClaim := { program := "ytijmipnafhljkaadoor", sum := "a72920f4c27cfe288f8d806d781b62012740a9b03ce01010381c55cda43c6d8b", func := "whittle/whittlelaw3.PlaceShifts", spec := "placeShifts", named := ["strconv.ErrSyntax", "strconv.ErrRange", "internal/strconv.uint64pow10", "math/bits.deBruijn32tab", "math/bits.deBruijn64tab"], apart := false, laid := [("math/bits.deBruijn32tab", laid_math_bits_deBruijn32tab), ("math/bits.deBruijn64tab", laid_math_bits_deBruijn64tab), ("internal/strconv.uint64pow10", laid_internal_strconv_uint64pow10), ("strconv.ErrRange", laid_strconv_ErrRange), ("strconv.ErrSyntax", laid_strconv_ErrSyntax)], narrowed := true }
def PlaceShiftsUptoSaid : Prop := placeShiftsUptoRow.holds Tryd.pinned (OpenSpec.upto placeShiftsSpec)

/-- 'whittlelaw3.PlaceCount', WHERE WHAT IT READS IS OF BULK AT MOST 1048576: true; the input reads as it did. -/
def placeCountUptoRow : OpenClaim := { program := "ytijmipnafhljkaadoor", sum := "a72920f4c27cfe288f8d806d781b62012740a9b03ce01010381c55cda43c6d8b", func := "whittle/whittlelaw3.PlaceCount", spec := "placeCount", named := ["strconv.ErrSyntax", "strconv.ErrRange", "internal/strconv.uint64pow10", "math/bits.deBruijn32tab", "math/bits.deBruijn64tab"], apart := false, laid := [("math/bits.deBruijn32tab", laid_math_bits_deBruijn32tab), ("math/bits.deBruijn64tab", laid_math_bits_deBruijn64tab), ("internal/strconv.uint64pow10", laid_internal_strconv_uint64pow10), ("strconv.ErrRange", laid_strconv_ErrRange), ("strconv.ErrSyntax", laid_strconv_ErrSyntax)], narrowed := true }
def PlaceCountUptoSaid : Prop := placeCountUptoRow.holds Tryd.pinned (OpenSpec.upto placeCountSpec)

/-- 'whittlelaw3.PlaceHold', WHERE WHAT IT READS IS OF BULK AT MOST 1048576: true; the input reads as it did. -/
def placeHoldUptoRow : OpenClaim := { program := "ytijmipnafhljkaadoor", sum := "a72920f4c27cfe288f8d806d781b62012740a9b03ce01010381c55cda43c6d8b", func := "whittle/whittlelaw3.PlaceHold", spec := "placeHold", named := ["strconv.ErrSyntax", "strconv.ErrRange", "internal/strconv.uint64pow10", "math/bits.deBruijn32tab", "math/bits.deBruijn64tab"], apart := false, laid := [("math/bits.deBruijn32tab", laid_math_bits_deBruijn32tab), ("math/bits.deBruijn64tab", laid_math_bits_deBruijn64tab), ("internal/strconv.uint64pow10", laid_internal_strconv_uint64pow10), ("strconv.ErrRange", laid_strconv_ErrRange), ("strconv.ErrSyntax", laid_strconv_ErrSyntax)], narrowed := true }
def PlaceHoldUptoSaid : Prop := placeHoldUptoRow.holds Tryd.pinned (OpenSpec.upto placeHoldSpec)

/-- 'whittlelaw3.PlaceCursors', WHERE WHAT IT READS IS OF BULK AT MOST 1048576: true; the input reads as it did. -/
def placeCursorsUptoRow : OpenClaim := { program := "ytijmipnafhljkaadoor", sum := "a72920f4c27cfe288f8d806d781b62012740a9b03ce01010381c55cda43c6d8b", func := "whittle/whittlelaw3.PlaceCursors", spec := "placeCursors", named := ["strconv.ErrSyntax", "strconv.ErrRange", "internal/strconv.uint64pow10", "math/bits.deBruijn32tab", "math/bits.deBruijn64tab"], apart := false, laid := [("math/bits.deBruijn32tab", laid_math_bits_deBruijn32tab), ("math/bits.deBruijn64tab", laid_math_bits_deBruijn64tab), ("internal/strconv.uint64pow10", laid_internal_strconv_uint64pow10), ("strconv.ErrRange", laid_strconv_ErrRange), ("strconv.ErrSyntax", laid_strconv_ErrSyntax)], narrowed := true }
def PlaceCursorsUptoSaid : Prop := placeCursorsUptoRow.holds Tryd.pinned (OpenSpec.upto placeCursorsSpec)

/-- 'whittlelaw3.PlaceWalk', WHERE WHAT IT READS IS OF BULK AT MOST 1048576: true; the input reads as it did. -/
def placeWalkUptoRow : OpenClaim := { program := "ytijmipnafhljkaadoor", sum := "a72920f4c27cfe288f8d806d781b62012740a9b03ce01010381c55cda43c6d8b", func := "whittle/whittlelaw3.PlaceWalk", spec := "placeWalk", named := ["strconv.ErrSyntax", "strconv.ErrRange", "internal/strconv.uint64pow10", "math/bits.deBruijn32tab", "math/bits.deBruijn64tab"], apart := false, laid := [("math/bits.deBruijn32tab", laid_math_bits_deBruijn32tab), ("math/bits.deBruijn64tab", laid_math_bits_deBruijn64tab), ("internal/strconv.uint64pow10", laid_internal_strconv_uint64pow10), ("strconv.ErrRange", laid_strconv_ErrRange), ("strconv.ErrSyntax", laid_strconv_ErrSyntax)], narrowed := true }
def PlaceWalkUptoSaid : Prop := placeWalkUptoRow.holds Tryd.pinned (OpenSpec.upto placeWalkSpec)

/-- 'whittlelaw3.PlaceAreas', WHERE WHAT IT READS IS OF BULK AT MOST 1048576: true; the input reads as it did. -/
def placeAreasUptoRow : OpenClaim := { program := "ytijmipnafhljkaadoor", sum := "a72920f4c27cfe288f8d806d781b62012740a9b03ce01010381c55cda43c6d8b", func := "whittle/whittlelaw3.PlaceAreas", spec := "placeAreas", named := ["strconv.ErrSyntax", "strconv.ErrRange", "internal/strconv.uint64pow10", "math/bits.deBruijn32tab", "math/bits.deBruijn64tab"], apart := false, laid := [("math/bits.deBruijn32tab", laid_math_bits_deBruijn32tab), ("math/bits.deBruijn64tab", laid_math_bits_deBruijn64tab), ("internal/strconv.uint64pow10", laid_internal_strconv_uint64pow10), ("strconv.ErrRange", laid_strconv_ErrRange), ("strconv.ErrSyntax", laid_strconv_ErrSyntax)], narrowed := true }
def PlaceAreasUptoSaid : Prop := placeAreasUptoRow.holds Tryd.pinned (OpenSpec.upto placeAreasSpec)

/-- 'whittlelaw3.PlaceReads', WHERE WHAT IT READS IS OF BULK AT MOST 1048576: true; the input reads as it did. -/
def placeReadsUptoRow : OpenClaim := { program := "ytijmipnafhljkaadoor", sum := "a72920f4c27cfe288f8d806d781b62012740a9b03ce01010381c55cda43c6d8b", func := "whittle/whittlelaw3.PlaceReads", spec := "placeReads", inPlace := ["internal/bytealg.IndexByteString", "internal/bytealg.IndexString"], named := ["strconv.ErrSyntax", "strconv.ErrRange", "internal/strconv.uint64pow10", "math/bits.deBruijn32tab", "math/bits.deBruijn64tab", "internal/bytealg.MaxLen"], apart := false, laid := [("math/bits.deBruijn32tab", laid_math_bits_deBruijn32tab), ("math/bits.deBruijn64tab", laid_math_bits_deBruijn64tab), ("internal/strconv.uint64pow10", laid_internal_strconv_uint64pow10), ("strconv.ErrRange", laid_strconv_ErrRange), ("strconv.ErrSyntax", laid_strconv_ErrSyntax)], narrowed := true }
def PlaceReadsUptoSaid : Prop := placeReadsUptoRow.holds Tryd.pinned (OpenSpec.upto placeReadsSpec)

/-- 'whittlelaw3.PlaceBack', WHERE WHAT IT READS IS OF BULK AT MOST 1048576: true; the input reads as it did. -/
def placeBackUptoRow : OpenClaim := { program := "ytijmipnafhljkaadoor", sum := "a72920f4c27cfe288f8d806d781b62012740a9b03ce01010381c55cda43c6d8b", func := "whittle/whittlelaw3.PlaceBack", spec := "placeBack", inPlace := ["internal/bytealg.IndexByteString", "internal/bytealg.IndexString"], named := ["strconv.ErrSyntax", "strconv.ErrRange", "internal/strconv.uint64pow10", "math/bits.deBruijn32tab", "math/bits.deBruijn64tab", "internal/bytealg.MaxLen"], apart := false, laid := [("math/bits.deBruijn32tab", laid_math_bits_deBruijn32tab), ("math/bits.deBruijn64tab", laid_math_bits_deBruijn64tab), ("internal/strconv.uint64pow10", laid_internal_strconv_uint64pow10), ("strconv.ErrRange", laid_strconv_ErrRange), ("strconv.ErrSyntax", laid_strconv_ErrSyntax)], narrowed := true }
def PlaceBackUptoSaid : Prop := placeBackUptoRow.holds Tryd.pinned (OpenSpec.upto placeBackSpec)

end Rows
end Go.Proofs.YtijmipnafhljkaaDoor
