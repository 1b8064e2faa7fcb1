/-
  NARROWER THAN 'FOR EVERY INPUT', by the rows' own cells (each row's printed sentence says how): SyntaxBack: laid · SyntaxTrees: laid · SyntaxBlanks: laid · SyntaxKeeps: laid · SyntaxStays: laid · SyntaxParses: laid · SyntaxPrints: laid · SyntaxLimits: laid · SyntaxTexts: laid.
  DERIVED. THE GIVEN ROWS OF THIS SEAT. 9 by the template 'for every input the law returns true; each argument reads behind the call as it read before'; 0 by the template 'total and deterministic' (their statements: YtgfmiladfeoldaaGreatDoorTotals.lean).
  GIVEN WITH THE SEED: the statements are not yours to turn. If you find one false, say at which input.
  Laid BY PROGRAM, IN A SANDBOX (cutbox-rows.mjs): the forced cells as the released guide's own fill.sh prints them over the translation c93fc756fe3fa808… (all of the seat's roots in one cut). By AI agents, Wed Nov 11 2026. No macro, syntax, notation, axiom, sorry.
-/
import Derived.Test.YtgfmiladfeoldaaGreatDoorChecked
import GoSem.Claim
import GoSem.ClaimJoined
import GoSem.ClaimMapViews
import Derived.JoinedTies
import Derived.KernelRfl
namespace Go.Proofs.YtgfmiladfeoldaaGreatDoor
/- THE CELL 'sum', in the pinned program and in every row, IS THE sha256 OF THE DUMP (.gsa) THAT YtgfmiladfeoldaaGreatDoorProg.lean LOADS. Nothing in Lean hashes anything: it is a label: what it is worth is what the hold of that sum in a sandbox is worth. -/
noncomputable def Tryz.pinned : Pinned := { name := "ytgfmiladfeoldaagreatdoor", sum := "c93fc756fe3fa80854c1035d065330a822ffb8239f13218f935fc2060aa21c4c", checked := Tryz.checked }
namespace Rows
def none {H : Type} : Left H := { results := [], args := [] }

/- WHAT THE LISTED PACKAGE-LEVEL VARIABLES READ AS WHEN THE CALL BEGINS. Each datum BY PROGRAM (the guide's laid-datum.mjs) off the statement by which the dump's own 'gosem.cut.vars' lays the variable. In a bare row this is a premise. The card (YtgfmiladfeoldaaGreatDoorCards.lean) ties it to the program's text. -/
def laid_trellis_radix_signs {H : Type} : DataW H := .agg [.lit (.int .u8 48), .lit (.int .u8 49), .lit (.int .u8 50), .lit (.int .u8 51), .lit (.int .u8 52), .lit (.int .u8 53), .lit (.int .u8 54), .lit (.int .u8 55), .lit (.int .u8 56), .lit (.int .u8 57), .lit (.int .u8 97), .lit (.int .u8 98), .lit (.int .u8 99), .lit (.int .u8 100), .lit (.int .u8 101), .lit (.int .u8 102), .lit (.int .u8 103), .lit (.int .u8 104), .lit (.int .u8 105), .lit (.int .u8 106), .lit (.int .u8 107), .lit (.int .u8 108), .lit (.int .u8 109), .lit (.int .u8 110), .lit (.int .u8 111), .lit (.int .u8 112), .lit (.int .u8 113), .lit (.int .u8 114), .lit (.int .u8 115), .lit (.int .u8 116), .lit (.int .u8 117), .lit (.int .u8 118), .lit (.int .u8 119), .lit (.int .u8 120), .lit (.int .u8 121), .lit (.int .u8 122)]
def laid_math_bits_deBruijn32tab {H : Type} : DataW H := .agg [.lit (.int .u8 0), .lit (.int .u8 1), .lit (.int .u8 28), .lit (.int .u8 2), .lit (.int .u8 29), .lit (.int .u8 14), .lit (.int .u8 24), .lit (.int .u8 3), .lit (.int .u8 30), .lit (.int .u8 22), .lit (.int .u8 20), .lit (.int .u8 15), .lit (.int .u8 25), .lit (.int .u8 17), .lit (.int .u8 4), .lit (.int .u8 8), .lit (.int .u8 31), .lit (.int .u8 27), .lit (.int .u8 13), .lit (.int .u8 23), .lit (.int .u8 21), .lit (.int .u8 19), .lit (.int .u8 16), .lit (.int .u8 7), .lit (.int .u8 26), .lit (.int .u8 12), .lit (.int .u8 18), .lit (.int .u8 6), .lit (.int .u8 11), .lit (.int .u8 5), .lit (.int .u8 10), .lit (.int .u8 9)]
def laid_math_bits_deBruijn64tab {H : Type} : DataW H := .agg [.lit (.int .u8 0), .lit (.int .u8 1), .lit (.int .u8 56), .lit (.int .u8 2), .lit (.int .u8 57), .lit (.int .u8 49), .lit (.int .u8 28), .lit (.int .u8 3), .lit (.int .u8 61), .lit (.int .u8 58), .lit (.int .u8 42), .lit (.int .u8 50), .lit (.int .u8 38), .lit (.int .u8 29), .lit (.int .u8 17), .lit (.int .u8 4), .lit (.int .u8 62), .lit (.int .u8 47), .lit (.int .u8 59), .lit (.int .u8 36), .lit (.int .u8 45), .lit (.int .u8 43), .lit (.int .u8 51), .lit (.int .u8 22), .lit (.int .u8 53), .lit (.int .u8 39), .lit (.int .u8 33), .lit (.int .u8 30), .lit (.int .u8 24), .lit (.int .u8 18), .lit (.int .u8 12), .lit (.int .u8 5), .lit (.int .u8 63), .lit (.int .u8 55), .lit (.int .u8 48), .lit (.int .u8 27), .lit (.int .u8 60), .lit (.int .u8 41), .lit (.int .u8 37), .lit (.int .u8 16), .lit (.int .u8 46), .lit (.int .u8 35), .lit (.int .u8 44), .lit (.int .u8 21), .lit (.int .u8 52), .lit (.int .u8 32), .lit (.int .u8 23), .lit (.int .u8 11), .lit (.int .u8 54), .lit (.int .u8 26), .lit (.int .u8 40), .lit (.int .u8 15), .lit (.int .u8 34), .lit (.int .u8 20), .lit (.int .u8 31), .lit (.int .u8 10), .lit (.int .u8 25), .lit (.int .u8 14), .lit (.int .u8 19), .lit (.int .u8 9), .lit (.int .u8 13), .lit (.int .u8 8), .lit (.int .u8 7), .lit (.int .u8 6)]
def laid_internal_strconv_uint64pow10 {H : Type} : DataW H := .agg [.lit (.int .u64 1), .lit (.int .u64 10), .lit (.int .u64 100), .lit (.int .u64 1000), .lit (.int .u64 10000), .lit (.int .u64 100000), .lit (.int .u64 1000000), .lit (.int .u64 10000000), .lit (.int .u64 100000000), .lit (.int .u64 1000000000), .lit (.int .u64 10000000000), .lit (.int .u64 100000000000), .lit (.int .u64 1000000000000), .lit (.int .u64 10000000000000), .lit (.int .u64 100000000000000), .lit (.int .u64 1000000000000000), .lit (.int .u64 10000000000000000), .lit (.int .u64 100000000000000000), .lit (.int .u64 1000000000000000000), .lit (.int .u64 10000000000000000000)]

/-- 'trellislaw26.SyntaxBack': WHATEVER THE INPUT: true; the input reads as it did. -/
def syntaxBackSpec : ChangeSpec := { name := "syntaxBack", fn := fun _ => fun
  | [d] => { results := [.lit (.bool true)], args := [d] }
  | _ => none }
def syntaxBackRow : OpenClaim := { program := "ytgfmiladfeoldaagreatdoor", sum := "c93fc756fe3fa80854c1035d065330a822ffb8239f13218f935fc2060aa21c4c", func := "trellis/trellislaw26.SyntaxBack", spec := "syntaxBack", inPlace := ["internal/bytealg.IndexByteString", "internal/bytealg.IndexString", "math/bits.Add64", "math/bits.Sub64", "internal/abi.NoEscape", "internal/bytealg.MakeNoZero"], unfollowed := true, recurses := true, named := ["internal/bytealg.MaxLen", "math/bits.divideError", "math/bits.overflowError", "trellis/radix.signs"], apart := false, laid := [("trellis/radix.signs", laid_trellis_radix_signs)] }
def SyntaxBackSaid : Prop := syntaxBackRow.holds Tryz.pinned (OpenSpec.ofChange syntaxBackSpec)

/-- ITS FALSE NEIGHBOUR: 'it returns false'. Refute it at one input. -/
def syntaxBackWrong : ChangeSpec := { name := "syntaxBack", fn := fun _ => fun
  | [d] => { results := [.lit (.bool false)], args := [d] }
  | _ => none }
def SyntaxBackWrongFalsely : Prop := syntaxBackRow.holds Tryz.pinned (OpenSpec.ofChange syntaxBackWrong)

/-- 'trellislaw26.SyntaxTrees': WHATEVER THE INPUT: true; the input reads as it did. -/
def syntaxTreesSpec : ChangeSpec := { name := "syntaxTrees", fn := fun _ => fun
  | [d] => { results := [.lit (.bool true)], args := [d] }
  | _ => none }
def syntaxTreesRow : OpenClaim := { program := "ytgfmiladfeoldaagreatdoor", sum := "c93fc756fe3fa80854c1035d065330a822ffb8239f13218f935fc2060aa21c4c", func := "trellis/trellislaw26.SyntaxTrees", spec := "syntaxTrees", inPlace := ["internal/bytealg.IndexByteString", "internal/bytealg.IndexString", "math/bits.Add64", "math/bits.Sub64", "internal/abi.NoEscape", "internal/bytealg.MakeNoZero"], unfollowed := true, recurses := true, named := ["internal/bytealg.MaxLen", "math/bits.divideError", "math/bits.overflowError", "trellis/radix.signs"], apart := false, laid := [("trellis/radix.signs", laid_trellis_radix_signs)] }
def SyntaxTreesSaid : Prop := syntaxTreesRow.holds Tryz.pinned (OpenSpec.ofChange syntaxTreesSpec)

/-- ITS FALSE NEIGHBOUR: 'it returns false'. Refute it at one input. -/
def syntaxTreesWrong : ChangeSpec := { name := "syntaxTrees", fn := fun _ => fun
  | [d] => { results := [.lit (.bool false)], args := [d] }
  | _ => none }
def SyntaxTreesWrongFalsely : Prop := syntaxTreesRow.holds Tryz.pinned (OpenSpec.ofChange syntaxTreesWrong)

/-- 'trellislaw26.SyntaxBlanks': WHATEVER THE INPUT: true; the input reads as it did. -/
def syntaxBlanksSpec : ChangeSpec := { name := "syntaxBlanks", fn := fun _ => fun
  | [d1, d2] => { results := [.lit (.bool true)], args := [d1, d2] }
  | _ => none }
def syntaxBlanksRow : OpenClaim := { program := "ytgfmiladfeoldaagreatdoor", sum := "c93fc756fe3fa80854c1035d065330a822ffb8239f13218f935fc2060aa21c4c", func := "trellis/trellislaw26.SyntaxBlanks", spec := "syntaxBlanks", inPlace := ["internal/bytealg.IndexByteString", "internal/bytealg.IndexString", "math/bits.Add64", "math/bits.Sub64", "internal/abi.NoEscape", "internal/bytealg.MakeNoZero"], unfollowed := true, recurses := true, named := ["internal/bytealg.MaxLen", "math/bits.divideError", "math/bits.overflowError", "trellis/radix.signs"], apart := false, laid := [("trellis/radix.signs", laid_trellis_radix_signs)] }
def SyntaxBlanksSaid : Prop := syntaxBlanksRow.holds Tryz.pinned (OpenSpec.ofChange syntaxBlanksSpec)

/-- ITS FALSE NEIGHBOUR: 'it returns false'. Refute it at one input. -/
def syntaxBlanksWrong : ChangeSpec := { name := "syntaxBlanks", fn := fun _ => fun
  | [d1, d2] => { results := [.lit (.bool false)], args := [d1, d2] }
  | _ => none }
def SyntaxBlanksWrongFalsely : Prop := syntaxBlanksRow.holds Tryz.pinned (OpenSpec.ofChange syntaxBlanksWrong)

/-- 'trellislaw26.SyntaxKeeps': WHATEVER THE INPUT: true; the input reads as it did. -/
def syntaxKeepsSpec : ChangeSpec := { name := "syntaxKeeps", fn := fun _ => fun
  | [d1, d2, d3] => { results := [.lit (.bool true)], args := [d1, d2, d3] }
  | _ => none }
def syntaxKeepsRow : OpenClaim := { program := "ytgfmiladfeoldaagreatdoor", sum := "c93fc756fe3fa80854c1035d065330a822ffb8239f13218f935fc2060aa21c4c", func := "trellis/trellislaw26.SyntaxKeeps", spec := "syntaxKeeps", inPlace := ["internal/bytealg.IndexByteString", "internal/bytealg.IndexString", "math/bits.Add64", "math/bits.Sub64", "internal/abi.NoEscape", "internal/bytealg.MakeNoZero"], unfollowed := true, recurses := true, named := ["internal/bytealg.MaxLen", "math/bits.divideError", "math/bits.overflowError", "trellis/radix.signs"], apart := false, laid := [("trellis/radix.signs", laid_trellis_radix_signs)] }
def SyntaxKeepsSaid : Prop := syntaxKeepsRow.holds Tryz.pinned (OpenSpec.ofChange syntaxKeepsSpec)

/-- ITS FALSE NEIGHBOUR: 'it returns false'. Refute it at one input. -/
def syntaxKeepsWrong : ChangeSpec := { name := "syntaxKeeps", fn := fun _ => fun
  | [d1, d2, d3] => { results := [.lit (.bool false)], args := [d1, d2, d3] }
  | _ => none }
def SyntaxKeepsWrongFalsely : Prop := syntaxKeepsRow.holds Tryz.pinned (OpenSpec.ofChange syntaxKeepsWrong)

/-- 'trellislaw26.SyntaxStays': WHATEVER THE INPUT: true; the input reads as it did. -/
def syntaxStaysSpec : ChangeSpec := { name := "syntaxStays", fn := fun _ => fun
  | [d1, d2, d3] => { results := [.lit (.bool true)], args := [d1, d2, d3] }
  | _ => none }
def syntaxStaysRow : OpenClaim := { program := "ytgfmiladfeoldaagreatdoor", sum := "c93fc756fe3fa80854c1035d065330a822ffb8239f13218f935fc2060aa21c4c", func := "trellis/trellislaw26.SyntaxStays", spec := "syntaxStays", inPlace := ["internal/bytealg.IndexByteString", "internal/bytealg.IndexString", "math/bits.Add64", "math/bits.Sub64", "internal/abi.NoEscape", "internal/bytealg.MakeNoZero"], unfollowed := true, recurses := true, named := ["internal/bytealg.MaxLen", "math/bits.divideError", "math/bits.overflowError", "trellis/radix.signs"], apart := false, laid := [("trellis/radix.signs", laid_trellis_radix_signs)] }
def SyntaxStaysSaid : Prop := syntaxStaysRow.holds Tryz.pinned (OpenSpec.ofChange syntaxStaysSpec)

/-- ITS FALSE NEIGHBOUR: 'it returns false'. Refute it at one input. -/
def syntaxStaysWrong : ChangeSpec := { name := "syntaxStays", fn := fun _ => fun
  | [d1, d2, d3] => { results := [.lit (.bool false)], args := [d1, d2, d3] }
  | _ => none }
def SyntaxStaysWrongFalsely : Prop := syntaxStaysRow.holds Tryz.pinned (OpenSpec.ofChange syntaxStaysWrong)

/-- 'trellislaw26.SyntaxParses': WHATEVER THE INPUT: true; the input reads as it did. -/
def syntaxParsesSpec : ChangeSpec := { name := "syntaxParses", fn := fun _ => fun
  | [d] => { results := [.lit (.bool true)], args := [d] }
  | _ => none }
def syntaxParsesRow : OpenClaim := { program := "ytgfmiladfeoldaagreatdoor", sum := "c93fc756fe3fa80854c1035d065330a822ffb8239f13218f935fc2060aa21c4c", func := "trellis/trellislaw26.SyntaxParses", spec := "syntaxParses", inPlace := ["internal/bytealg.IndexByteString", "internal/bytealg.IndexString", "math/bits.Add64", "math/bits.Sub64", "internal/abi.NoEscape", "internal/bytealg.MakeNoZero"], unfollowed := true, recurses := true, named := ["internal/bytealg.MaxLen", "math/bits.divideError", "math/bits.overflowError", "trellis/radix.signs", "internal/strconv.uint64pow10", "math/bits.deBruijn32tab", "math/bits.deBruijn64tab"], apart := false, laid := [("math/bits.deBruijn32tab", laid_math_bits_deBruijn32tab), ("math/bits.deBruijn64tab", laid_math_bits_deBruijn64tab), ("internal/strconv.uint64pow10", laid_internal_strconv_uint64pow10), ("trellis/radix.signs", laid_trellis_radix_signs)] }
def SyntaxParsesSaid : Prop := syntaxParsesRow.holds Tryz.pinned (OpenSpec.ofChange syntaxParsesSpec)

/-- ITS FALSE NEIGHBOUR: 'it returns false'. Refute it at one input. -/
def syntaxParsesWrong : ChangeSpec := { name := "syntaxParses", fn := fun _ => fun
  | [d] => { results := [.lit (.bool false)], args := [d] }
  | _ => none }
def SyntaxParsesWrongFalsely : Prop := syntaxParsesRow.holds Tryz.pinned (OpenSpec.ofChange syntaxParsesWrong)

/-- 'trellislaw26.SyntaxPrints': WHATEVER THE INPUT: true; the input reads as it did. -/
def syntaxPrintsSpec : ChangeSpec := { name := "syntaxPrints", fn := fun _ => fun
  | [d] => { results := [.lit (.bool true)], args := [d] }
  | _ => none }
def syntaxPrintsRow : OpenClaim := { program := "ytgfmiladfeoldaagreatdoor", sum := "c93fc756fe3fa80854c1035d065330a822ffb8239f13218f935fc2060aa21c4c", func := "trellis/trellislaw26.SyntaxPrints", spec := "syntaxPrints", inPlace := ["internal/bytealg.IndexByteString", "internal/bytealg.IndexString", "math/bits.Add64", "math/bits.Sub64", "internal/abi.NoEscape", "internal/bytealg.MakeNoZero"], unfollowed := true, recurses := true, named := ["internal/bytealg.MaxLen", "math/bits.divideError", "math/bits.overflowError", "trellis/radix.signs", "internal/strconv.uint64pow10", "math/bits.deBruijn32tab", "math/bits.deBruijn64tab"], apart := false, laid := [("math/bits.deBruijn32tab", laid_math_bits_deBruijn32tab), ("math/bits.deBruijn64tab", laid_math_bits_deBruijn64tab), ("internal/strconv.uint64pow10", laid_internal_strconv_uint64pow10), ("trellis/radix.signs", laid_trellis_radix_signs)] }
def SyntaxPrintsSaid : Prop := syntaxPrintsRow.holds Tryz.pinned (OpenSpec.ofChange syntaxPrintsSpec)

/-- ITS FALSE NEIGHBOUR: 'it returns false'. Refute it at one input. -/
def syntaxPrintsWrong : ChangeSpec := { name := "syntaxPrints", fn := fun _ => fun
  | [d] => { results := [.lit (.bool false)], args := [d] }
  | _ => none }
def SyntaxPrintsWrongFalsely : Prop := syntaxPrintsRow.holds Tryz.pinned (OpenSpec.ofChange syntaxPrintsWrong)

/-- 'trellislaw26.SyntaxLimits': WHATEVER THE INPUT: true; the input reads as it did. -/
def syntaxLimitsSpec : ChangeSpec := { name := "syntaxLimits", fn := fun _ => fun
  | [d] => { results := [.lit (.bool true)], args := [d] }
  | _ => none }
def syntaxLimitsRow : OpenClaim := { program := "ytgfmiladfeoldaagreatdoor", sum := "c93fc756fe3fa80854c1035d065330a822ffb8239f13218f935fc2060aa21c4c", func := "trellis/trellislaw26.SyntaxLimits", spec := "syntaxLimits", inPlace := ["internal/bytealg.IndexByteString", "internal/bytealg.IndexString", "math/bits.Add64", "math/bits.Sub64", "internal/abi.NoEscape", "internal/bytealg.MakeNoZero"], unfollowed := true, recurses := true, named := ["internal/bytealg.MaxLen", "math/bits.divideError", "math/bits.overflowError", "trellis/radix.signs", "internal/strconv.uint64pow10", "math/bits.deBruijn32tab", "math/bits.deBruijn64tab"], apart := false, laid := [("math/bits.deBruijn32tab", laid_math_bits_deBruijn32tab), ("math/bits.deBruijn64tab", laid_math_bits_deBruijn64tab), ("internal/strconv.uint64pow10", laid_internal_strconv_uint64pow10), ("trellis/radix.signs", laid_trellis_radix_signs)] }
def SyntaxLimitsSaid : Prop := syntaxLimitsRow.holds Tryz.pinned (OpenSpec.ofChange syntaxLimitsSpec)

/-- ITS FALSE NEIGHBOUR: 'it returns false'. Refute it at one input. -/
def syntaxLimitsWrong : ChangeSpec := { name := "syntaxLimits", fn := fun _ => fun
  | [d] => { results := [.lit (.bool false)], args := [d] }
  | _ => none }
def SyntaxLimitsWrongFalsely : Prop := syntaxLimitsRow.holds Tryz.pinned (OpenSpec.ofChange syntaxLimitsWrong)

/-- 'trellislaw26.SyntaxTexts': WHATEVER THE INPUT: true; the input reads as it did. -/
def syntaxTextsSpec : ChangeSpec := { name := "syntaxTexts", fn := fun _ => fun
  | [d1, d2, d3, d4] => { results := [.lit (.bool true)], args := [d1, d2, d3, d4] }
  | _ => none }
def syntaxTextsRow : OpenClaim := { program := "ytgfmiladfeoldaagreatdoor", sum := "c93fc756fe3fa80854c1035d065330a822ffb8239f13218f935fc2060aa21c4c", func := "trellis/trellislaw26.SyntaxTexts", spec := "syntaxTexts", inPlace := ["internal/bytealg.IndexByteString", "internal/bytealg.IndexString", "math/bits.Add64", "math/bits.Sub64", "internal/abi.NoEscape", "internal/bytealg.MakeNoZero"], unfollowed := true, recurses := true, named := ["internal/bytealg.MaxLen", "math/bits.divideError", "math/bits.overflowError", "trellis/radix.signs", "internal/strconv.uint64pow10", "math/bits.deBruijn32tab", "math/bits.deBruijn64tab"], apart := false, laid := [("math/bits.deBruijn32tab", laid_math_bits_deBruijn32tab), ("math/bits.deBruijn64tab", laid_math_bits_deBruijn64tab), ("internal/strconv.uint64pow10", laid_internal_strconv_uint64pow10), ("trellis/radix.signs", laid_trellis_radix_signs)] }
def SyntaxTextsSaid : Prop := syntaxTextsRow.holds Tryz.pinned (OpenSpec.ofChange syntaxTextsSpec)

/-- ITS FALSE NEIGHBOUR: 'it returns false'. Refute it at one input. -/
def syntaxTextsWrong : ChangeSpec := { name := "syntaxTexts", fn := fun _ => fun
  | [d1, d2, d3, d4] => { results := [.lit (.bool false)], args := [d1, d2, d3, d4] }
  | _ => none }
def SyntaxTextsWrongFalsely : Prop := syntaxTextsRow.holds Tryz.pinned (OpenSpec.ofChange syntaxTextsWrong)

/- THE SECOND FORM. 'bulk': how many values and letters a reading holds, each counted each time it is reached (what is shared counts as often as it is met; a slice's spare places count too). A statement '..UptoSaid' is the law's where the arguments, and the package variables that the reading takes, are together of bulk at most 1048576: NARROWER than '..Said'. Prove '..Said' where nothing that the law and all that it calls make is longer than what came in: it says more and counts as full. Else prove '..UptoSaid'. A law counts once. -/
mutual
def uptoBulk {H : Type} : DataW H → Nat
  | .lit (.string bytes) => bytes.length + 1
  | .lit _ => 1
  | .nil => 1
  | .ptr d => uptoBulk d + 1
  | .slice elems spare => uptoBulkAll elems + uptoBulkAll spare + 1
  | .agg parts => uptoBulkAll parts + 1
  | .iface _ d => uptoBulk d + 1
  | .map entries => uptoBulkEntries entries + 1
  | .held _ => 1
def uptoBulkAll {H : Type} : List (DataW H) → Nat
  | [] => 0
  | d :: r => uptoBulk d + uptoBulkAll r
def uptoBulkEntries {H : Type} : List (Lit × DataW H) → Nat
  | [] => 0
  | x :: r => uptoBulkEntry x + uptoBulkEntries r
def uptoBulkEntry {H : Type} : Lit × DataW H → Nat
  | (.string bytes, d) => bytes.length + uptoBulk d + 1
  | (_, d) => uptoBulk d + 1
 end
def uptoSmall : (H : Type) → List (DataW H) → Bool := fun _ ds => decide (uptoBulkAll ds ≤ 1048576)
def OpenSpec.upto (s : _root_.Go.ChangeSpec) : _root_.Go.OpenSpec := { _root_.Go.OpenSpec.ofChange s with cond := some uptoSmall }

/-- 'trellislaw26.SyntaxBack', WHERE WHAT IT READS IS OF BULK AT MOST 1048576: true; the input reads as it did. -/
def syntaxBackUptoRow : OpenClaim := { program := "ytgfmiladfeoldaagreatdoor", sum := "c93fc756fe3fa80854c1035d065330a822ffb8239f13218f935fc2060aa21c4c", func := "trellis/trellislaw26.SyntaxBack", spec := "syntaxBack", inPlace := ["internal/bytealg.IndexByteString", "internal/bytealg.IndexString", "math/bits.Add64", "math/bits.Sub64", "internal/abi.NoEscape", "internal/bytealg.MakeNoZero"], unfollowed := true, recurses := true, named := ["internal/bytealg.MaxLen", "math/bits.divideError", "math/bits.overflowError", "trellis/radix.signs"], apart := false, laid := [("trellis/radix.signs", laid_trellis_radix_signs)], narrowed := true }
def SyntaxBackUptoSaid : Prop := syntaxBackUptoRow.holds Tryz.pinned (OpenSpec.upto syntaxBackSpec)

/-- 'trellislaw26.SyntaxTrees', WHERE WHAT IT READS IS OF BULK AT MOST 1048576: true; the input reads as it did. -/
def syntaxTreesUptoRow : OpenClaim := { program := "ytgfmiladfeoldaagreatdoor", sum := "c93fc756fe3fa80854c1035d065330a822ffb8239f13218f935fc2060aa21c4c", func := "trellis/trellislaw26.SyntaxTrees", spec := "syntaxTrees", inPlace := ["internal/bytealg.IndexByteString", "internal/bytealg.IndexString", "math/bits.Add64", "math/bits.Sub64", "internal/abi.NoEscape", "internal/bytealg.MakeNoZero"], unfollowed := true, recurses := true, named := ["internal/bytealg.MaxLen", "math/bits.divideError", "math/bits.overflowError", "trellis/radix.signs"], apart := false, laid := [("trellis/radix.signs", laid_trellis_radix_signs)], narrowed := true }
def SyntaxTreesUptoSaid : Prop := syntaxTreesUptoRow.holds Tryz.pinned (OpenSpec.upto syntaxTreesSpec)

/-- 'trellislaw26.SyntaxBlanks', WHERE WHAT IT READS IS OF BULK AT MOST 1048576: true; the input reads as it did. -/
def syntaxBlanksUptoRow : OpenClaim := { program := "ytgfmiladfeoldaagreatdoor", sum := "c93fc756fe3fa80854c1035d065330a822ffb8239f13218f935fc2060aa21c4c", func := "trellis/trellislaw26.SyntaxBlanks", spec := "syntaxBlanks", inPlace := ["internal/bytealg.IndexByteString", "internal/bytealg.IndexString", "math/bits.Add64", "math/bits.Sub64", "internal/abi.NoEscape", "internal/bytealg.MakeNoZero"], unfollowed := true, recurses := true, named := ["internal/bytealg.MaxLen", "math/bits.divideError", "math/bits.overflowError", "trellis/radix.signs"], apart := false, laid := [("trellis/radix.signs", laid_trellis_radix_signs)], narrowed := true }
def SyntaxBlanksUptoSaid : Prop := syntaxBlanksUptoRow.holds Tryz.pinned (OpenSpec.upto syntaxBlanksSpec)

/-- 'trellislaw26.SyntaxKeeps', WHERE WHAT IT READS IS OF BULK AT MOST 1048576: true; the input reads as it did. -/
def syntaxKeepsUptoRow : OpenClaim := { program := "ytgfmiladfeoldaagreatdoor", sum := "c93fc756fe3fa80854c1035d065330a822ffb8239f13218f935fc2060aa21c4c", func := "trellis/trellislaw26.SyntaxKeeps", spec := "syntaxKeeps", inPlace := ["internal/bytealg.IndexByteString", "internal/bytealg.IndexString", "math/bits.Add64", "math/bits.Sub64", "internal/abi.NoEscape", "internal/bytealg.MakeNoZero"], unfollowed := true, recurses := true, named := ["internal/bytealg.MaxLen", "math/bits.divideError", "math/bits.overflowError", "trellis/radix.signs"], apart := false, laid := [("trellis/radix.signs", laid_trellis_radix_signs)], narrowed := true }
def SyntaxKeepsUptoSaid : Prop := syntaxKeepsUptoRow.holds Tryz.pinned (OpenSpec.upto syntaxKeepsSpec)

/-- 'trellislaw26.SyntaxStays', WHERE WHAT IT READS IS OF BULK AT MOST 1048576: true; the input reads as it did. -/
def syntaxStaysUptoRow : OpenClaim := { program := "ytgfmiladfeoldaagreatdoor", sum := "c93fc756fe3fa80854c1035d065330a822ffb8239f13218f935fc2060aa21c4c", func := "trellis/trellislaw26.SyntaxStays", spec := "syntaxStays", inPlace := ["internal/bytealg.IndexByteString", "internal/bytealg.IndexString", "math/bits.Add64", "math/bits.Sub64", "internal/abi.NoEscape", "internal/bytealg.MakeNoZero"], unfollowed := true, recurses := true, named := ["internal/bytealg.MaxLen", "math/bits.divideError", "math/bits.overflowError", "trellis/radix.signs"], apart := false, laid := [("trellis/radix.signs", laid_trellis_radix_signs)], narrowed := true }
def SyntaxStaysUptoSaid : Prop := syntaxStaysUptoRow.holds Tryz.pinned (OpenSpec.upto syntaxStaysSpec)

/-- 'trellislaw26.SyntaxParses', WHERE WHAT IT READS IS OF BULK AT MOST 1048576: true; the input reads as it did. -/
def syntaxParsesUptoRow : OpenClaim := { program := "ytgfmiladfeoldaagreatdoor", sum := "c93fc756fe3fa80854c1035d065330a822ffb8239f13218f935fc2060aa21c4c", func := "trellis/trellislaw26.SyntaxParses", spec := "syntaxParses", inPlace := ["internal/bytealg.IndexByteString", "internal/bytealg.IndexString", "math/bits.Add64", "math/bits.Sub64", "internal/abi.NoEscape", "internal/bytealg.MakeNoZero"], unfollowed := true, recurses := true, named := ["internal/bytealg.MaxLen", "math/bits.divideError", "math/bits.overflowError", "trellis/radix.signs", "internal/strconv.uint64pow10", "math/bits.deBruijn32tab", "math/bits.deBruijn64tab"], apart := false, laid := [("math/bits.deBruijn32tab", laid_math_bits_deBruijn32tab), ("math/bits.deBruijn64tab", laid_math_bits_deBruijn64tab), ("internal/strconv.uint64pow10", laid_internal_strconv_uint64pow10), ("trellis/radix.signs", laid_trellis_radix_signs)], narrowed := true }
def SyntaxParsesUptoSaid : Prop := syntaxParsesUptoRow.holds Tryz.pinned (OpenSpec.upto syntaxParsesSpec)

/-- 'trellislaw26.SyntaxPrints', WHERE WHAT IT READS IS OF BULK AT MOST 1048576: true; the input reads as it did. -/
def syntaxPrintsUptoRow : OpenClaim := { program := "ytgfmiladfeoldaagreatdoor", sum := "c93fc756fe3fa80854c1035d065330a822ffb8239f13218f935fc2060aa21c4c", func := "trellis/trellislaw26.SyntaxPrints", spec := "syntaxPrints", inPlace := ["internal/bytealg.IndexByteString", "internal/bytealg.IndexString", "math/bits.Add64", "math/bits.Sub64", "internal/abi.NoEscape", "internal/bytealg.MakeNoZero"], unfollowed := true, recurses := true, named := ["internal/bytealg.MaxLen", "math/bits.divideError", "math/bits.overflowError", "trellis/radix.signs", "internal/strconv.uint64pow10", "math/bits.deBruijn32tab", "math/bits.deBruijn64tab"], apart := false, laid := [("math/bits.deBruijn32tab", laid_math_bits_deBruijn32tab), ("math/bits.deBruijn64tab", laid_math_bits_deBruijn64tab), ("internal/strconv.uint64pow10", laid_internal_strconv_uint64pow10), ("trellis/radix.signs", laid_trellis_radix_signs)], narrowed := true }
def SyntaxPrintsUptoSaid : Prop := syntaxPrintsUptoRow.holds Tryz.pinned (OpenSpec.upto syntaxPrintsSpec)

/-- 'trellislaw26.SyntaxLimits', WHERE WHAT IT READS IS OF BULK AT MOST 1048576: true; the input reads as it did. -/
def syntaxLimitsUptoRow : OpenClaim := { program := "ytgfmiladfeoldaagreatdoor", sum := "c93fc756fe3fa80854c1035d065330a822ffb8239f13218f935fc2060aa21c4c", func := "trellis/trellislaw26.SyntaxLimits", spec := "syntaxLimits", inPlace := ["internal/bytealg.IndexByteString", "internal/bytealg.IndexString", "math/bits.Add64", "math/bits.Sub64", "internal/abi.NoEscape", "internal/bytealg.MakeNoZero"], unfollowed := true, recurses := true, named := ["internal/bytealg.MaxLen", "math/bits.divideError", "math/bits.overflowError", "trellis/radix.signs", "internal/strconv.uint64pow10", "math/bits.deBruijn32tab", "math/bits.deBruijn64tab"], apart := false, laid := [("math/bits.deBruijn32tab", laid_math_bits_deBruijn32tab), ("math/bits.deBruijn64tab", laid_math_bits_deBruijn64tab), ("internal/strconv.uint64pow10", laid_internal_strconv_uint64pow10), ("trellis/radix.signs", laid_trellis_radix_signs)], narrowed := true }
def SyntaxLimitsUptoSaid : Prop := syntaxLimitsUptoRow.holds Tryz.pinned (OpenSpec.upto syntaxLimitsSpec)

/-- 'trellislaw26.SyntaxTexts', WHERE WHAT IT READS IS OF BULK AT MOST 1048576: true; the input reads as it did. -/
def syntaxTextsUptoRow : OpenClaim := { program := "ytgfmiladfeoldaagreatdoor", sum := "c93fc756fe3fa80854c1035d065330a822ffb8239f13218f935fc2060aa21c4c", func := "trellis/trellislaw26.SyntaxTexts", spec := "syntaxTexts", inPlace := ["internal/bytealg.IndexByteString", "internal/bytealg.IndexString", "math/bits.Add64", "math/bits.Sub64", "internal/abi.NoEscape", "internal/bytealg.MakeNoZero"], unfollowed := true, recurses := true, named := ["internal/bytealg.MaxLen", "math/bits.divideError", "math/bits.overflowError", "trellis/radix.signs", "internal/strconv.uint64pow10", "math/bits.deBruijn32tab", "math/bits.deBruijn64tab"], apart := false, laid := [("math/bits.deBruijn32tab", laid_math_bits_deBruijn32tab), ("math/bits.deBruijn64tab", laid_math_bits_deBruijn64tab), ("internal/strconv.uint64pow10", laid_internal_strconv_uint64pow10), ("trellis/radix.signs", laid_trellis_radix_signs)], narrowed := true }
def SyntaxTextsUptoSaid : Prop := syntaxTextsUptoRow.holds Tryz.pinned (OpenSpec.upto syntaxTextsSpec)

end Rows
end Go.Proofs.YtgfmiladfeoldaaGreatDoor
