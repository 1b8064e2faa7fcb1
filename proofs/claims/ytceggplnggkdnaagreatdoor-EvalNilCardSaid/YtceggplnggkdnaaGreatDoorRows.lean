/-
  NARROWER THAN 'FOR EVERY INPUT', by the rows' own cells (each row's printed sentence says how): EvalRing: laid · EvalLimits: laid · EvalFull: laid · EvalNil: laid · RunFault: laid · RunLong: laid · RunNil: laid · WholeRunPrint: laid.
  DERIVED. THE GIVEN ROWS OF THIS SEAT. 8 by the template 'for every input the law returns true; each argument reads behind the call as it read before'; 0 by the template 'total and deterministic' (their statements: YtceggplnggkdnaaGreatDoorTotals.lean).
  GIVEN WITH THE SEED: the statements are not yours to turn. If you find one false, say at which input.
  Laid BY PROGRAM, IN A SANDBOX (cutbox-rows.mjs): the forced cells as the released guide's own fill.sh prints them over the translation 95cac955a87dabbd… (all of the seat's roots in one cut). By AI agents, Wed Nov 11 2026. No macro, syntax, notation, axiom, sorry.
-/
import Derived.Test.YtceggplnggkdnaaGreatDoorChecked
import GoSem.Claim
import GoSem.ClaimJoined
import GoSem.ClaimMapViews
import Derived.JoinedTies
import Derived.KernelRfl
namespace Go.Proofs.YtceggplnggkdnaaGreatDoor
/- THE CELL 'sum', in the pinned program and in every row, IS THE sha256 OF THE DUMP (.gsa) THAT YtceggplnggkdnaaGreatDoorProg.lean LOADS. Nothing in Lean hashes anything: it is a label: what it is worth is what the hold of that sum in a sandbox is worth. -/
noncomputable def Tryz.pinned : Pinned := { name := "ytceggplnggkdnaagreatdoor", sum := "95cac955a87dabbd40133ea82d4c42c3f29392ea6ee96d2ab14a8d3c27d0f322", checked := Tryz.checked }
namespace Rows
def none {H : Type} : Left H := { results := [], args := [] }

/- WHAT THE LISTED PACKAGE-LEVEL VARIABLES READ AS WHEN THE CALL BEGINS. Each datum BY PROGRAM (the guide's laid-datum.mjs) off the statement by which the dump's own 'gosem.cut.vars' lays the variable. In a bare row this is a premise. The card (YtceggplnggkdnaaGreatDoorCards.lean) ties it to the program's text. -/
def laid_trellis_radix_signs {H : Type} : DataW H := .agg [.lit (.int .u8 48), .lit (.int .u8 49), .lit (.int .u8 50), .lit (.int .u8 51), .lit (.int .u8 52), .lit (.int .u8 53), .lit (.int .u8 54), .lit (.int .u8 55), .lit (.int .u8 56), .lit (.int .u8 57), .lit (.int .u8 97), .lit (.int .u8 98), .lit (.int .u8 99), .lit (.int .u8 100), .lit (.int .u8 101), .lit (.int .u8 102), .lit (.int .u8 103), .lit (.int .u8 104), .lit (.int .u8 105), .lit (.int .u8 106), .lit (.int .u8 107), .lit (.int .u8 108), .lit (.int .u8 109), .lit (.int .u8 110), .lit (.int .u8 111), .lit (.int .u8 112), .lit (.int .u8 113), .lit (.int .u8 114), .lit (.int .u8 115), .lit (.int .u8 116), .lit (.int .u8 117), .lit (.int .u8 118), .lit (.int .u8 119), .lit (.int .u8 120), .lit (.int .u8 121), .lit (.int .u8 122)]
def laid_errors_errorType {H : Type} : DataW H := .iface "internal/reflectlite.rtype" (.agg [.ptr (.lit (.string [101, 114, 114, 111, 114]))])
def laid_internal_strconv_uint64pow10 {H : Type} : DataW H := .agg [.lit (.int .u64 1), .lit (.int .u64 10), .lit (.int .u64 100), .lit (.int .u64 1000), .lit (.int .u64 10000), .lit (.int .u64 100000), .lit (.int .u64 1000000), .lit (.int .u64 10000000), .lit (.int .u64 100000000), .lit (.int .u64 1000000000), .lit (.int .u64 10000000000), .lit (.int .u64 100000000000), .lit (.int .u64 1000000000000), .lit (.int .u64 10000000000000), .lit (.int .u64 100000000000000), .lit (.int .u64 1000000000000000), .lit (.int .u64 10000000000000000), .lit (.int .u64 100000000000000000), .lit (.int .u64 1000000000000000000), .lit (.int .u64 10000000000000000000)]
def laid_math_bits_deBruijn32tab {H : Type} : DataW H := .agg [.lit (.int .u8 0), .lit (.int .u8 1), .lit (.int .u8 28), .lit (.int .u8 2), .lit (.int .u8 29), .lit (.int .u8 14), .lit (.int .u8 24), .lit (.int .u8 3), .lit (.int .u8 30), .lit (.int .u8 22), .lit (.int .u8 20), .lit (.int .u8 15), .lit (.int .u8 25), .lit (.int .u8 17), .lit (.int .u8 4), .lit (.int .u8 8), .lit (.int .u8 31), .lit (.int .u8 27), .lit (.int .u8 13), .lit (.int .u8 23), .lit (.int .u8 21), .lit (.int .u8 19), .lit (.int .u8 16), .lit (.int .u8 7), .lit (.int .u8 26), .lit (.int .u8 12), .lit (.int .u8 18), .lit (.int .u8 6), .lit (.int .u8 11), .lit (.int .u8 5), .lit (.int .u8 10), .lit (.int .u8 9)]
def laid_math_bits_deBruijn64tab {H : Type} : DataW H := .agg [.lit (.int .u8 0), .lit (.int .u8 1), .lit (.int .u8 56), .lit (.int .u8 2), .lit (.int .u8 57), .lit (.int .u8 49), .lit (.int .u8 28), .lit (.int .u8 3), .lit (.int .u8 61), .lit (.int .u8 58), .lit (.int .u8 42), .lit (.int .u8 50), .lit (.int .u8 38), .lit (.int .u8 29), .lit (.int .u8 17), .lit (.int .u8 4), .lit (.int .u8 62), .lit (.int .u8 47), .lit (.int .u8 59), .lit (.int .u8 36), .lit (.int .u8 45), .lit (.int .u8 43), .lit (.int .u8 51), .lit (.int .u8 22), .lit (.int .u8 53), .lit (.int .u8 39), .lit (.int .u8 33), .lit (.int .u8 30), .lit (.int .u8 24), .lit (.int .u8 18), .lit (.int .u8 12), .lit (.int .u8 5), .lit (.int .u8 63), .lit (.int .u8 55), .lit (.int .u8 48), .lit (.int .u8 27), .lit (.int .u8 60), .lit (.int .u8 41), .lit (.int .u8 37), .lit (.int .u8 16), .lit (.int .u8 46), .lit (.int .u8 35), .lit (.int .u8 44), .lit (.int .u8 21), .lit (.int .u8 52), .lit (.int .u8 32), .lit (.int .u8 23), .lit (.int .u8 11), .lit (.int .u8 54), .lit (.int .u8 26), .lit (.int .u8 40), .lit (.int .u8 15), .lit (.int .u8 34), .lit (.int .u8 20), .lit (.int .u8 31), .lit (.int .u8 10), .lit (.int .u8 25), .lit (.int .u8 14), .lit (.int .u8 19), .lit (.int .u8 9), .lit (.int .u8 13), .lit (.int .u8 8), .lit (.int .u8 7), .lit (.int .u8 6)]

/-- 'trellislaw27.EvalRing': WHATEVER THE INPUT: true; the input reads as it did. -/
def evalRingSpec : ChangeSpec := { name := "evalRing", fn := fun _ => fun
  | [d1, d2, d3, d4] => { results := [.lit (.bool true)], args := [d1, d2, d3, d4] }
  | _ => none }
def evalRingRow : OpenClaim := { program := "ytceggplnggkdnaagreatdoor", sum := "95cac955a87dabbd40133ea82d4c42c3f29392ea6ee96d2ab14a8d3c27d0f322", func := "trellis/trellislaw27.EvalRing", spec := "evalRing", inPlace := ["internal/bytealg.IndexByteString", "internal/bytealg.IndexString", "math/bits.Add64", "math/bits.Sub64", "internal/abi.NoEscape", "internal/bytealg.MakeNoZero", "internal/reflectlite.ValueOf", "(internal/reflectlite.Value).Type", "(internal/reflectlite.Value).IsNil", "internal/reflectlite.TypeOf", "(internal/reflectlite.Value).Elem", "(internal/reflectlite.Value).Set", "math.Float64frombits", "math.Float64bits"], unfollowed := true, recurses := true, named := ["internal/bytealg.MaxLen", "math/bits.divideError", "math/bits.overflowError", "trellis/radix.signs", "errors.errorType", "internal/strconv.uint64pow10", "math/bits.deBruijn32tab", "math/bits.deBruijn64tab"], plainKeys := false, apart := false, laid := [("trellis/radix.signs", laid_trellis_radix_signs), ("errors.errorType", laid_errors_errorType), ("internal/strconv.uint64pow10", laid_internal_strconv_uint64pow10), ("math/bits.deBruijn32tab", laid_math_bits_deBruijn32tab), ("math/bits.deBruijn64tab", laid_math_bits_deBruijn64tab)] }
def EvalRingSaid : Prop := evalRingRow.holds Tryz.pinned (OpenSpec.ofChange evalRingSpec)

/-- ITS FALSE NEIGHBOUR: 'it returns false'. Refute it at one input. -/
def evalRingWrong : ChangeSpec := { name := "evalRing", fn := fun _ => fun
  | [d1, d2, d3, d4] => { results := [.lit (.bool false)], args := [d1, d2, d3, d4] }
  | _ => none }
def EvalRingWrongFalsely : Prop := evalRingRow.holds Tryz.pinned (OpenSpec.ofChange evalRingWrong)

/-- 'trellislaw27.EvalLimits': WHATEVER THE INPUT: true; the input reads as it did. -/
def evalLimitsSpec : ChangeSpec := { name := "evalLimits", fn := fun _ => fun
  | [d] => { results := [.lit (.bool true)], args := [d] }
  | _ => none }
def evalLimitsRow : OpenClaim := { program := "ytceggplnggkdnaagreatdoor", sum := "95cac955a87dabbd40133ea82d4c42c3f29392ea6ee96d2ab14a8d3c27d0f322", func := "trellis/trellislaw27.EvalLimits", spec := "evalLimits", inPlace := ["internal/bytealg.IndexByteString", "internal/bytealg.IndexString", "math/bits.Add64", "math/bits.Sub64", "internal/abi.NoEscape", "internal/bytealg.MakeNoZero", "internal/reflectlite.ValueOf", "(internal/reflectlite.Value).Type", "(internal/reflectlite.Value).IsNil", "internal/reflectlite.TypeOf", "(internal/reflectlite.Value).Elem", "(internal/reflectlite.Value).Set", "math.Float64frombits", "math.Float64bits"], unfollowed := true, recurses := true, named := ["internal/bytealg.MaxLen", "math/bits.divideError", "math/bits.overflowError", "trellis/radix.signs", "errors.errorType", "internal/strconv.uint64pow10", "math/bits.deBruijn32tab", "math/bits.deBruijn64tab"], plainKeys := false, apart := false, laid := [("trellis/radix.signs", laid_trellis_radix_signs), ("errors.errorType", laid_errors_errorType), ("internal/strconv.uint64pow10", laid_internal_strconv_uint64pow10), ("math/bits.deBruijn32tab", laid_math_bits_deBruijn32tab), ("math/bits.deBruijn64tab", laid_math_bits_deBruijn64tab)] }
def EvalLimitsSaid : Prop := evalLimitsRow.holds Tryz.pinned (OpenSpec.ofChange evalLimitsSpec)

/-- ITS FALSE NEIGHBOUR: 'it returns false'. Refute it at one input. -/
def evalLimitsWrong : ChangeSpec := { name := "evalLimits", fn := fun _ => fun
  | [d] => { results := [.lit (.bool false)], args := [d] }
  | _ => none }
def EvalLimitsWrongFalsely : Prop := evalLimitsRow.holds Tryz.pinned (OpenSpec.ofChange evalLimitsWrong)

/-- 'trellislaw27.EvalFull': WHATEVER THE INPUT: true; the input reads as it did. -/
def evalFullSpec : ChangeSpec := { name := "evalFull", fn := fun _ => fun
  | [d] => { results := [.lit (.bool true)], args := [d] }
  | _ => none }
def evalFullRow : OpenClaim := { program := "ytceggplnggkdnaagreatdoor", sum := "95cac955a87dabbd40133ea82d4c42c3f29392ea6ee96d2ab14a8d3c27d0f322", func := "trellis/trellislaw27.EvalFull", spec := "evalFull", inPlace := ["internal/bytealg.IndexByteString", "internal/bytealg.IndexString", "math/bits.Add64", "math/bits.Sub64", "internal/abi.NoEscape", "internal/bytealg.MakeNoZero", "internal/reflectlite.ValueOf", "(internal/reflectlite.Value).Type", "(internal/reflectlite.Value).IsNil", "internal/reflectlite.TypeOf", "(internal/reflectlite.Value).Elem", "(internal/reflectlite.Value).Set", "math.Float64frombits", "math.Float64bits"], unfollowed := true, recurses := true, named := ["internal/bytealg.MaxLen", "math/bits.divideError", "math/bits.overflowError", "trellis/radix.signs", "errors.errorType", "internal/strconv.uint64pow10", "math/bits.deBruijn32tab", "math/bits.deBruijn64tab"], plainKeys := false, apart := false, laid := [("trellis/radix.signs", laid_trellis_radix_signs), ("errors.errorType", laid_errors_errorType), ("internal/strconv.uint64pow10", laid_internal_strconv_uint64pow10), ("math/bits.deBruijn32tab", laid_math_bits_deBruijn32tab), ("math/bits.deBruijn64tab", laid_math_bits_deBruijn64tab)] }
def EvalFullSaid : Prop := evalFullRow.holds Tryz.pinned (OpenSpec.ofChange evalFullSpec)

/-- ITS FALSE NEIGHBOUR: 'it returns false'. Refute it at one input. -/
def evalFullWrong : ChangeSpec := { name := "evalFull", fn := fun _ => fun
  | [d] => { results := [.lit (.bool false)], args := [d] }
  | _ => none }
def EvalFullWrongFalsely : Prop := evalFullRow.holds Tryz.pinned (OpenSpec.ofChange evalFullWrong)

/-- 'trellislaw27.EvalNil': WHATEVER THE INPUT: true; the input reads as it did. -/
def evalNilSpec : ChangeSpec := { name := "evalNil", fn := fun _ => fun
  | [d] => { results := [.lit (.bool true)], args := [d] }
  | _ => none }
def evalNilRow : OpenClaim := { program := "ytceggplnggkdnaagreatdoor", sum := "95cac955a87dabbd40133ea82d4c42c3f29392ea6ee96d2ab14a8d3c27d0f322", func := "trellis/trellislaw27.EvalNil", spec := "evalNil", inPlace := ["internal/bytealg.IndexByteString", "internal/bytealg.IndexString", "math/bits.Add64", "math/bits.Sub64", "internal/abi.NoEscape", "internal/bytealg.MakeNoZero", "internal/reflectlite.ValueOf", "(internal/reflectlite.Value).Type", "(internal/reflectlite.Value).IsNil", "internal/reflectlite.TypeOf", "(internal/reflectlite.Value).Elem", "(internal/reflectlite.Value).Set", "math.Float64frombits", "math.Float64bits", "maps.clone"], unfollowed := true, recurses := true, named := ["internal/bytealg.MaxLen", "math/bits.divideError", "math/bits.overflowError", "trellis/radix.signs", "errors.errorType", "internal/strconv.uint64pow10", "math/bits.deBruijn32tab", "math/bits.deBruijn64tab"], plainKeys := false, apart := false, laid := [("trellis/radix.signs", laid_trellis_radix_signs), ("errors.errorType", laid_errors_errorType), ("internal/strconv.uint64pow10", laid_internal_strconv_uint64pow10), ("math/bits.deBruijn32tab", laid_math_bits_deBruijn32tab), ("math/bits.deBruijn64tab", laid_math_bits_deBruijn64tab)] }
def EvalNilSaid : Prop := evalNilRow.holds Tryz.pinned (OpenSpec.ofChange evalNilSpec)

/-- ITS FALSE NEIGHBOUR: 'it returns false'. Refute it at one input. -/
def evalNilWrong : ChangeSpec := { name := "evalNil", fn := fun _ => fun
  | [d] => { results := [.lit (.bool false)], args := [d] }
  | _ => none }
def EvalNilWrongFalsely : Prop := evalNilRow.holds Tryz.pinned (OpenSpec.ofChange evalNilWrong)

/-- 'trellislaw28.RunFault': WHATEVER THE INPUT: true; the input reads as it did. -/
def runFaultSpec : ChangeSpec := { name := "runFault", fn := fun _ => fun
  | [d1, d2, d3] => { results := [.lit (.bool true)], args := [d1, d2, d3] }
  | _ => none }
def runFaultRow : OpenClaim := { program := "ytceggplnggkdnaagreatdoor", sum := "95cac955a87dabbd40133ea82d4c42c3f29392ea6ee96d2ab14a8d3c27d0f322", func := "trellis/trellislaw28.RunFault", spec := "runFault", inPlace := ["internal/bytealg.IndexByteString", "internal/bytealg.IndexString", "math/bits.Add64", "math/bits.Sub64", "internal/abi.NoEscape", "internal/bytealg.MakeNoZero", "internal/reflectlite.ValueOf", "(internal/reflectlite.Value).Type", "(internal/reflectlite.Value).IsNil", "internal/reflectlite.TypeOf", "(internal/reflectlite.Value).Elem", "(internal/reflectlite.Value).Set", "math.Float64frombits", "math.Float64bits"], unfollowed := true, recurses := true, named := ["internal/bytealg.MaxLen", "math/bits.divideError", "math/bits.overflowError", "trellis/radix.signs", "errors.errorType", "internal/strconv.uint64pow10", "math/bits.deBruijn32tab", "math/bits.deBruijn64tab"], plainKeys := false, apart := false, laid := [("trellis/radix.signs", laid_trellis_radix_signs), ("errors.errorType", laid_errors_errorType), ("internal/strconv.uint64pow10", laid_internal_strconv_uint64pow10), ("math/bits.deBruijn32tab", laid_math_bits_deBruijn32tab), ("math/bits.deBruijn64tab", laid_math_bits_deBruijn64tab)] }
def RunFaultSaid : Prop := runFaultRow.holds Tryz.pinned (OpenSpec.ofChange runFaultSpec)

/-- ITS FALSE NEIGHBOUR: 'it returns false'. Refute it at one input. -/
def runFaultWrong : ChangeSpec := { name := "runFault", fn := fun _ => fun
  | [d1, d2, d3] => { results := [.lit (.bool false)], args := [d1, d2, d3] }
  | _ => none }
def RunFaultWrongFalsely : Prop := runFaultRow.holds Tryz.pinned (OpenSpec.ofChange runFaultWrong)

/-- 'trellislaw28.RunLong': WHATEVER THE INPUT: true; the input reads as it did. -/
def runLongSpec : ChangeSpec := { name := "runLong", fn := fun _ => fun
  | [d1, d2] => { results := [.lit (.bool true)], args := [d1, d2] }
  | _ => none }
def runLongRow : OpenClaim := { program := "ytceggplnggkdnaagreatdoor", sum := "95cac955a87dabbd40133ea82d4c42c3f29392ea6ee96d2ab14a8d3c27d0f322", func := "trellis/trellislaw28.RunLong", spec := "runLong", inPlace := ["internal/bytealg.IndexByteString", "internal/bytealg.IndexString", "math/bits.Add64", "math/bits.Sub64", "internal/abi.NoEscape", "internal/bytealg.MakeNoZero", "internal/reflectlite.ValueOf", "(internal/reflectlite.Value).Type", "(internal/reflectlite.Value).IsNil", "internal/reflectlite.TypeOf", "(internal/reflectlite.Value).Elem", "(internal/reflectlite.Value).Set", "math.Float64frombits", "math.Float64bits"], unfollowed := true, recurses := true, named := ["internal/bytealg.MaxLen", "math/bits.divideError", "math/bits.overflowError", "trellis/radix.signs", "errors.errorType", "internal/strconv.uint64pow10", "math/bits.deBruijn32tab", "math/bits.deBruijn64tab"], plainKeys := false, apart := false, laid := [("trellis/radix.signs", laid_trellis_radix_signs), ("errors.errorType", laid_errors_errorType), ("internal/strconv.uint64pow10", laid_internal_strconv_uint64pow10), ("math/bits.deBruijn32tab", laid_math_bits_deBruijn32tab), ("math/bits.deBruijn64tab", laid_math_bits_deBruijn64tab)] }
def RunLongSaid : Prop := runLongRow.holds Tryz.pinned (OpenSpec.ofChange runLongSpec)

/-- ITS FALSE NEIGHBOUR: 'it returns false'. Refute it at one input. -/
def runLongWrong : ChangeSpec := { name := "runLong", fn := fun _ => fun
  | [d1, d2] => { results := [.lit (.bool false)], args := [d1, d2] }
  | _ => none }
def RunLongWrongFalsely : Prop := runLongRow.holds Tryz.pinned (OpenSpec.ofChange runLongWrong)

/-- 'trellislaw28.RunNil': WHATEVER THE INPUT: true; the input reads as it did. -/
def runNilSpec : ChangeSpec := { name := "runNil", fn := fun _ => fun
  | [d] => { results := [.lit (.bool true)], args := [d] }
  | _ => none }
def runNilRow : OpenClaim := { program := "ytceggplnggkdnaagreatdoor", sum := "95cac955a87dabbd40133ea82d4c42c3f29392ea6ee96d2ab14a8d3c27d0f322", func := "trellis/trellislaw28.RunNil", spec := "runNil", inPlace := ["internal/bytealg.IndexByteString", "internal/bytealg.IndexString", "math/bits.Add64", "math/bits.Sub64", "internal/abi.NoEscape", "internal/bytealg.MakeNoZero", "internal/reflectlite.ValueOf", "(internal/reflectlite.Value).Type", "(internal/reflectlite.Value).IsNil", "internal/reflectlite.TypeOf", "(internal/reflectlite.Value).Elem", "(internal/reflectlite.Value).Set", "math.Float64frombits", "math.Float64bits"], unfollowed := true, recurses := true, named := ["internal/bytealg.MaxLen", "math/bits.divideError", "math/bits.overflowError", "trellis/radix.signs", "errors.errorType", "internal/strconv.uint64pow10", "math/bits.deBruijn32tab", "math/bits.deBruijn64tab"], plainKeys := false, apart := false, laid := [("trellis/radix.signs", laid_trellis_radix_signs), ("errors.errorType", laid_errors_errorType), ("internal/strconv.uint64pow10", laid_internal_strconv_uint64pow10), ("math/bits.deBruijn32tab", laid_math_bits_deBruijn32tab), ("math/bits.deBruijn64tab", laid_math_bits_deBruijn64tab)] }
def RunNilSaid : Prop := runNilRow.holds Tryz.pinned (OpenSpec.ofChange runNilSpec)

/-- ITS FALSE NEIGHBOUR: 'it returns false'. Refute it at one input. -/
def runNilWrong : ChangeSpec := { name := "runNil", fn := fun _ => fun
  | [d] => { results := [.lit (.bool false)], args := [d] }
  | _ => none }
def RunNilWrongFalsely : Prop := runNilRow.holds Tryz.pinned (OpenSpec.ofChange runNilWrong)

/-- 'trellistop.WholeRunPrint': WHATEVER THE INPUT: true; the input reads as it did. -/
def wholeRunPrintSpec : ChangeSpec := { name := "wholeRunPrint", fn := fun _ => fun
  | [d] => { results := [.lit (.bool true)], args := [d] }
  | _ => none }
def wholeRunPrintRow : OpenClaim := { program := "ytceggplnggkdnaagreatdoor", sum := "95cac955a87dabbd40133ea82d4c42c3f29392ea6ee96d2ab14a8d3c27d0f322", func := "trellis/trellistop.WholeRunPrint", spec := "wholeRunPrint", inPlace := ["internal/bytealg.IndexByteString", "internal/bytealg.IndexString", "math/bits.Add64", "math/bits.Sub64", "internal/abi.NoEscape", "internal/bytealg.MakeNoZero", "internal/reflectlite.ValueOf", "(internal/reflectlite.Value).Type", "(internal/reflectlite.Value).IsNil", "internal/reflectlite.TypeOf", "(internal/reflectlite.Value).Elem", "(internal/reflectlite.Value).Set", "math.Float64frombits", "math.Float64bits"], unfollowed := true, recurses := true, named := ["internal/bytealg.MaxLen", "math/bits.divideError", "math/bits.overflowError", "trellis/radix.signs", "errors.errorType", "internal/strconv.uint64pow10", "math/bits.deBruijn32tab", "math/bits.deBruijn64tab"], plainKeys := false, apart := false, laid := [("trellis/radix.signs", laid_trellis_radix_signs), ("errors.errorType", laid_errors_errorType), ("internal/strconv.uint64pow10", laid_internal_strconv_uint64pow10), ("math/bits.deBruijn32tab", laid_math_bits_deBruijn32tab), ("math/bits.deBruijn64tab", laid_math_bits_deBruijn64tab)] }
def WholeRunPrintSaid : Prop := wholeRunPrintRow.holds Tryz.pinned (OpenSpec.ofChange wholeRunPrintSpec)

/-- ITS FALSE NEIGHBOUR: 'it returns false'. Refute it at one input. -/
def wholeRunPrintWrong : ChangeSpec := { name := "wholeRunPrint", fn := fun _ => fun
  | [d] => { results := [.lit (.bool false)], args := [d] }
  | _ => none }
def WholeRunPrintWrongFalsely : Prop := wholeRunPrintRow.holds Tryz.pinned (OpenSpec.ofChange wholeRunPrintWrong)

/- THE SECOND FORM. 'bulk': how many values and letters a reading holds, each counted each time it is reached (what is shared counts as often as it is met; a slice's spare places count too). A statement '..UptoSaid' is the law's where the arguments, and the package variables that the reading takes, are together of bulk at most 1048576: NARROWER than '..Said'. Prove '..Said' where nothing that the law and all that it calls make is longer than what came in: it says more and counts as full. Else prove '..UptoSaid'. A law counts once. -/
mutual
def uptoBulk {H : Type} : DataW H → Nat
  | .lit (.string bytes) => bytes.length + 1
  | .lit _ => 1
  | .nil => 1
  | .ptr d => uptoBulk d + 1
  | .slice elems spare => uptoBulkAll elems + uptoBulkAll spare + 1
  | .agg parts => uptoBulkAll parts + 1
  | .iface _ d => uptoBulk d + 1
  | .map entries => uptoBulkEntries entries + 1
  | .held _ => 1
def uptoBulkAll {H : Type} : List (DataW H) → Nat
  | [] => 0
  | d :: r => uptoBulk d + uptoBulkAll r
def uptoBulkEntries {H : Type} : List (Lit × DataW H) → Nat
  | [] => 0
  | x :: r => uptoBulkEntry x + uptoBulkEntries r
def uptoBulkEntry {H : Type} : Lit × DataW H → Nat
  | (.string bytes, d) => bytes.length + uptoBulk d + 1
  | (_, d) => uptoBulk d + 1
 end
def uptoSmall : (H : Type) → List (DataW H) → Bool := fun _ ds => decide (uptoBulkAll ds ≤ 1048576)
def OpenSpec.upto (s : _root_.Go.ChangeSpec) : _root_.Go.OpenSpec := { _root_.Go.OpenSpec.ofChange s with cond := some uptoSmall }

/-- 'trellislaw27.EvalRing', WHERE WHAT IT READS IS OF BULK AT MOST 1048576: true; the input reads as it did. -/
def evalRingUptoRow : OpenClaim := { program := "ytceggplnggkdnaagreatdoor", sum := "95cac955a87dabbd40133ea82d4c42c3f29392ea6ee96d2ab14a8d3c27d0f322", func := "trellis/trellislaw27.EvalRing", spec := "evalRing", inPlace := ["internal/bytealg.IndexByteString", "internal/bytealg.IndexString", "math/bits.Add64", "math/bits.Sub64", "internal/abi.NoEscape", "internal/bytealg.MakeNoZero", "internal/reflectlite.ValueOf", "(internal/reflectlite.Value).Type", "(internal/reflectlite.Value).IsNil", "internal/reflectlite.TypeOf", "(internal/reflectlite.Value).Elem", "(internal/reflectlite.Value).Set", "math.Float64frombits", "math.Float64bits"], unfollowed := true, recurses := true, named := ["internal/bytealg.MaxLen", "math/bits.divideError", "math/bits.overflowError", "trellis/radix.signs", "errors.errorType", "internal/strconv.uint64pow10", "math/bits.deBruijn32tab", "math/bits.deBruijn64tab"], plainKeys := false, apart := false, laid := [("trellis/radix.signs", laid_trellis_radix_signs), ("errors.errorType", laid_errors_errorType), ("internal/strconv.uint64pow10", laid_internal_strconv_uint64pow10), ("math/bits.deBruijn32tab", laid_math_bits_deBruijn32tab), ("math/bits.deBruijn64tab", laid_math_bits_deBruijn64tab)], narrowed := true }
def EvalRingUptoSaid : Prop := evalRingUptoRow.holds Tryz.pinned (OpenSpec.upto evalRingSpec)

/-- 'trellislaw27.EvalLimits', WHERE WHAT IT READS IS OF BULK AT MOST 1048576: true; the input reads as it did. -/
def evalLimitsUptoRow : OpenClaim := { program := "ytceggplnggkdnaagreatdoor", sum := "95cac955a87dabbd40133ea82d4c42c3f29392ea6ee96d2ab14a8d3c27d0f322", func := "trellis/trellislaw27.EvalLimits", spec := "evalLimits", inPlace := ["internal/bytealg.IndexByteString", "internal/bytealg.IndexString", "math/bits.Add64", "math/bits.Sub64", "internal/abi.NoEscape", "internal/bytealg.MakeNoZero", "internal/reflectlite.ValueOf", "(internal/reflectlite.Value).Type", "(internal/reflectlite.Value).IsNil", "internal/reflectlite.TypeOf", "(internal/reflectlite.Value).Elem", "(internal/reflectlite.Value).Set", "math.Float64frombits", "math.Float64bits"], unfollowed := true, recurses := true, named := ["internal/bytealg.MaxLen", "math/bits.divideError", "math/bits.overflowError", "trellis/radix.signs", "errors.errorType", "internal/strconv.uint64pow10", "math/bits.deBruijn32tab", "math/bits.deBruijn64tab"], plainKeys := false, apart := false, laid := [("trellis/radix.signs", laid_trellis_radix_signs), ("errors.errorType", laid_errors_errorType), ("internal/strconv.uint64pow10", laid_internal_strconv_uint64pow10), ("math/bits.deBruijn32tab", laid_math_bits_deBruijn32tab), ("math/bits.deBruijn64tab", laid_math_bits_deBruijn64tab)], narrowed := true }
def EvalLimitsUptoSaid : Prop := evalLimitsUptoRow.holds Tryz.pinned (OpenSpec.upto evalLimitsSpec)

/-- 'trellislaw27.EvalFull', WHERE WHAT IT READS IS OF BULK AT MOST 1048576: true; the input reads as it did. -/
def evalFullUptoRow : OpenClaim := { program := "ytceggplnggkdnaagreatdoor", sum := "95cac955a87dabbd40133ea82d4c42c3f29392ea6ee96d2ab14a8d3c27d0f322", func := "trellis/trellislaw27.EvalFull", spec := "evalFull", inPlace := ["internal/bytealg.IndexByteString", "internal/bytealg.IndexString", "math/bits.Add64", "math/bits.Sub64", "internal/abi.NoEscape", "internal/bytealg.MakeNoZero", "internal/reflectlite.ValueOf", "(internal/reflectlite.Value).Type", "(internal/reflectlite.Value).IsNil", "internal/reflectlite.TypeOf", "(internal/reflectlite.Value).Elem", "(internal/reflectlite.Value).Set", "math.Float64frombits", "math.Float64bits"], unfollowed := true, recurses := true, named := ["internal/bytealg.MaxLen", "math/bits.divideError", "math/bits.overflowError", "trellis/radix.signs", "errors.errorType", "internal/strconv.uint64pow10", "math/bits.deBruijn32tab", "math/bits.deBruijn64tab"], plainKeys := false, apart := false, laid := [("trellis/radix.signs", laid_trellis_radix_signs), ("errors.errorType", laid_errors_errorType), ("internal/strconv.uint64pow10", laid_internal_strconv_uint64pow10), ("math/bits.deBruijn32tab", laid_math_bits_deBruijn32tab), ("math/bits.deBruijn64tab", laid_math_bits_deBruijn64tab)], narrowed := true }
def EvalFullUptoSaid : Prop := evalFullUptoRow.holds Tryz.pinned (OpenSpec.upto evalFullSpec)

/-- 'trellislaw27.EvalNil', WHERE WHAT IT READS IS OF BULK AT MOST 1048576: true; the input reads as it did. -/
def evalNilUptoRow : OpenClaim := { program := "ytceggplnggkdnaagreatdoor", sum := "95cac955a87dabbd40133ea82d4c42c3f29392ea6ee96d2ab14a8d3c27d0f322", func := "trellis/trellislaw27.EvalNil", spec := "evalNil", inPlace := ["internal/bytealg.IndexByteString", "internal/bytealg.IndexString", "math/bits.Add64", "math/bits.Sub64", "internal/abi.NoEscape", "internal/bytealg.MakeNoZero", "internal/reflectlite.ValueOf", "(internal/reflectlite.Value).Type", "(internal/reflectlite.Value).IsNil", "internal/reflectlite.TypeOf", "(internal/reflectlite.Value).Elem", "(internal/reflectlite.Value).Set", "math.Float64frombits", "math.Float64bits", "maps.clone"], unfollowed := true, recurses := true, named := ["internal/bytealg.MaxLen", "math/bits.divideError", "math/bits.overflowError", "trellis/radix.signs", "errors.errorType", "internal/strconv.uint64pow10", "math/bits.deBruijn32tab", "math/bits.deBruijn64tab"], plainKeys := false, apart := false, laid := [("trellis/radix.signs", laid_trellis_radix_signs), ("errors.errorType", laid_errors_errorType), ("internal/strconv.uint64pow10", laid_internal_strconv_uint64pow10), ("math/bits.deBruijn32tab", laid_math_bits_deBruijn32tab), ("math/bits.deBruijn64tab", laid_math_bits_deBruijn64tab)], narrowed := true }
def EvalNilUptoSaid : Prop := evalNilUptoRow.holds Tryz.pinned (OpenSpec.upto evalNilSpec)

/-- 'trellislaw28.RunFault', WHERE WHAT IT READS IS OF BULK AT MOST 1048576: true; the input reads as it did. -/
def runFaultUptoRow : OpenClaim := { program := "ytceggplnggkdnaagreatdoor", sum := "95cac955a87dabbd40133ea82d4c42c3f29392ea6ee96d2ab14a8d3c27d0f322", func := "trellis/trellislaw28.RunFault", spec := "runFault", inPlace := ["internal/bytealg.IndexByteString", "internal/bytealg.IndexString", "math/bits.Add64", "math/bits.Sub64", "internal/abi.NoEscape", "internal/bytealg.MakeNoZero", "internal/reflectlite.ValueOf", "(internal/reflectlite.Value).Type", "(internal/reflectlite.Value).IsNil", "internal/reflectlite.TypeOf", "(internal/reflectlite.Value).Elem", "(internal/reflectlite.Value).Set", "math.Float64frombits", "math.Float64bits"], unfollowed := true, recurses := true, named := ["internal/bytealg.MaxLen", "math/bits.divideError", "math/bits.overflowError", "trellis/radix.signs", "errors.errorType", "internal/strconv.uint64pow10", "math/bits.deBruijn32tab", "math/bits.deBruijn64tab"], plainKeys := false, apart := false, laid := [("trellis/radix.signs", laid_trellis_radix_signs), ("errors.errorType", laid_errors_errorType), ("internal/strconv.uint64pow10", laid_internal_strconv_uint64pow10), ("math/bits.deBruijn32tab", laid_math_bits_deBruijn32tab), ("math/bits.deBruijn64tab", laid_math_bits_deBruijn64tab)], narrowed := true }
def RunFaultUptoSaid : Prop := runFaultUptoRow.holds Tryz.pinned (OpenSpec.upto runFaultSpec)

/-- 'trellislaw28.RunLong', WHERE WHAT IT READS IS OF BULK AT MOST 1048576: true; the input reads as it did. -/
def runLongUptoRow : OpenClaim := { program := "ytceggplnggkdnaagreatdoor", sum := "95cac955a87dabbd40133ea82d4c42c3f29392ea6ee96d2ab14a8d3c27d0f322", func := "trellis/trellislaw28.RunLong", spec := "runLong", inPlace := ["internal/bytealg.IndexByteString", "internal/bytealg.IndexString", "math/bits.Add64", "math/bits.Sub64", "internal/abi.NoEscape", "internal/bytealg.MakeNoZero", "internal/reflectlite.ValueOf", "(internal/reflectlite.Value).Type", "(internal/reflectlite.Value).IsNil", "internal/reflectlite.TypeOf", "(internal/reflectlite.Value).Elem", "(internal/reflectlite.Value).Set", "math.Float64frombits", "math.Float64bits"], unfollowed := true, recurses := true, named := ["internal/bytealg.MaxLen", "math/bits.divideError", "math/bits.overflowError", "trellis/radix.signs", "errors.errorType", "internal/strconv.uint64pow10", "math/bits.deBruijn32tab", "math/bits.deBruijn64tab"], plainKeys := false, apart := false, laid := [("trellis/radix.signs", laid_trellis_radix_signs), ("errors.errorType", laid_errors_errorType), ("internal/strconv.uint64pow10", laid_internal_strconv_uint64pow10), ("math/bits.deBruijn32tab", laid_math_bits_deBruijn32tab), ("math/bits.deBruijn64tab", laid_math_bits_deBruijn64tab)], narrowed := true }
def RunLongUptoSaid : Prop := runLongUptoRow.holds Tryz.pinned (OpenSpec.upto runLongSpec)

/-- 'trellislaw28.RunNil', WHERE WHAT IT READS IS OF BULK AT MOST 1048576: true; the input reads as it did. -/
def runNilUptoRow : OpenClaim := { program := "ytceggplnggkdnaagreatdoor", sum := "95cac955a87dabbd40133ea82d4c42c3f29392ea6ee96d2ab14a8d3c27d0f322", func := "trellis/trellislaw28.RunNil", spec := "runNil", inPlace := ["internal/bytealg.IndexByteString", "internal/bytealg.IndexString", "math/bits.Add64", "math/bits.Sub64", "internal/abi.NoEscape", "internal/bytealg.MakeNoZero", "internal/reflectlite.ValueOf", "(internal/reflectlite.Value).Type", "(internal/reflectlite.Value).IsNil", "internal/reflectlite.TypeOf", "(internal/reflectlite.Value).Elem", "(internal/reflectlite.Value).Set", "math.Float64frombits", "math.Float64bits"], unfollowed := true, recurses := true, named := ["internal/bytealg.MaxLen", "math/bits.divideError", "math/bits.overflowError", "trellis/radix.signs", "errors.errorType", "internal/strconv.uint64pow10", "math/bits.deBruijn32tab", "math/bits.deBruijn64tab"], plainKeys := false, apart := false, laid := [("trellis/radix.signs", laid_trellis_radix_signs), ("errors.errorType", laid_errors_errorType), ("internal/strconv.uint64pow10", laid_internal_strconv_uint64pow10), ("math/bits.deBruijn32tab", laid_math_bits_deBruijn32tab), ("math/bits.deBruijn64tab", laid_math_bits_deBruijn64tab)], narrowed := true }
def RunNilUptoSaid : Prop := runNilUptoRow.holds Tryz.pinned (OpenSpec.upto runNilSpec)

/-- 'trellistop.WholeRunPrint', WHERE WHAT IT READS IS OF BULK AT MOST 1048576: true; the input reads as it did. -/
def wholeRunPrintUptoRow : OpenClaim := { program := "ytceggplnggkdnaagreatdoor", sum := "95cac955a87dabbd40133ea82d4c42c3f29392ea6ee96d2ab14a8d3c27d0f322", func := "trellis/trellistop.WholeRunPrint", spec := "wholeRunPrint", inPlace := ["internal/bytealg.IndexByteString", "internal/bytealg.IndexString", "math/bits.Add64", "math/bits.Sub64", "internal/abi.NoEscape", "internal/bytealg.MakeNoZero", "internal/reflectlite.ValueOf", "(internal/reflectlite.Value).Type", "(internal/reflectlite.Value).IsNil", "internal/reflectlite.TypeOf", "(internal/reflectlite.Value).Elem", "(internal/reflectlite.Value).Set", "math.Float64frombits", "math.Float64bits"], unfollowed := true, recurses := true, named := ["internal/bytealg.MaxLen", "math/bits.divideError", "math/bits.overflowError", "trellis/radix.signs", "errors.errorType", "internal/strconv.uint64pow10", "math/bits.deBruijn32tab", "math/bits.deBruijn64tab"], plainKeys := false, apart := false, laid := [("trellis/radix.signs", laid_trellis_radix_signs), ("errors.errorType", laid_errors_errorType), ("internal/strconv.uint64pow10", laid_internal_strconv_uint64pow10), ("math/bits.deBruijn32tab", laid_math_bits_deBruijn32tab), ("math/bits.deBruijn64tab", laid_math_bits_deBruijn64tab)], narrowed := true }
def WholeRunPrintUptoSaid : Prop := wholeRunPrintUptoRow.holds Tryz.pinned (OpenSpec.upto wholeRunPrintSpec)

end Rows
end Go.Proofs.YtceggplnggkdnaaGreatDoor
