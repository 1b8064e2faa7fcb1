/-
  No cell of these rows narrows 'for every input' (looked for: loops, veiled, ifaces, maps, wideKeys, modest, calm, conditions, laid).
  DERIVED. THE GIVEN ROWS OF THIS SEAT. 8 by the template 'for every input the law returns true; each argument reads behind the call as it read before'; 0 by the template 'total and deterministic' (their statements: YtebidhdoiojaeaaTotals.lean).
  GIVEN WITH THE SEED: the statements are not yours to turn. If you find one false, say at which input.
  Laid BY PROGRAM, IN A SANDBOX (cutbox-rows.mjs): the forced cells as the released guide's own fill.sh prints them over the translation 17d9c9617820a76a… (all of the seat's roots in one cut). By AI agents, Wed Nov 11 2026. No macro, syntax, notation, axiom, sorry.
-/
import Derived.Test.YtebidhdoiojaeaaChecked
import GoSem.Claim
import GoSem.ClaimJoined
import GoSem.ClaimMapViews
import Derived.JoinedTies
import Derived.KernelRfl
namespace Go.Proofs.Ytebidhdoiojaeaa
/- THE CELL 'sum', in the pinned program and in every row, IS THE sha256 OF THE DUMP (.gsa) THAT YtebidhdoiojaeaaProg.lean LOADS. Nothing in Lean hashes anything: it is a label: what it is worth is what the hold of that sum in a sandbox is worth. -/
noncomputable def Try.pinned : Pinned := { name := "ytebidhdoiojaeaa", sum := "17d9c9617820a76afc6499d625d0335570662165ccc272e32f4d5a128cab5d1c", checked := Try.checked }
namespace Rows
def none {H : Type} : Left H := { results := [], args := [] }

/-- 'trellislaw25.LexerNames': WHATEVER THE INPUT: true; the input reads as it did. -/
def lexerNamesSpec : ChangeSpec := { name := "lexerNames", fn := fun _ => fun
  | [] => { results := [.lit (.bool true)], args := [] }
  | _ => none }
def lexerNamesRow : OpenClaim := { program := "ytebidhdoiojaeaa", sum := "17d9c9617820a76afc6499d625d0335570662165ccc272e32f4d5a128cab5d1c", func := "trellis/trellislaw25.LexerNames", spec := "lexerNames", inPlace := ["internal/bytealg.IndexByteString", "internal/bytealg.IndexString"], unfollowed := true, recurses := true, named := ["internal/bytealg.MaxLen"], apart := false }
def LexerNamesSaid : Prop := lexerNamesRow.holds Try.pinned (OpenSpec.ofChange lexerNamesSpec)

/-- ITS FALSE NEIGHBOUR: 'it returns false'. Refute it at one input. -/
def lexerNamesWrong : ChangeSpec := { name := "lexerNames", fn := fun _ => fun
  | [] => { results := [.lit (.bool false)], args := [] }
  | _ => none }
def LexerNamesWrongFalsely : Prop := lexerNamesRow.holds Try.pinned (OpenSpec.ofChange lexerNamesWrong)

/-- 'trellislaw25.LexerBeside': WHATEVER THE INPUT: true; the input reads as it did. -/
def lexerBesideSpec : ChangeSpec := { name := "lexerBeside", fn := fun _ => fun
  | [d1, d2, d3] => { results := [.lit (.bool true)], args := [d1, d2, d3] }
  | _ => none }
def lexerBesideRow : OpenClaim := { program := "ytebidhdoiojaeaa", sum := "17d9c9617820a76afc6499d625d0335570662165ccc272e32f4d5a128cab5d1c", func := "trellis/trellislaw25.LexerBeside", spec := "lexerBeside", inPlace := ["internal/bytealg.IndexByteString", "internal/bytealg.IndexString"], unfollowed := true, recurses := true, named := ["internal/bytealg.MaxLen"], apart := false }
def LexerBesideSaid : Prop := lexerBesideRow.holds Try.pinned (OpenSpec.ofChange lexerBesideSpec)

/-- ITS FALSE NEIGHBOUR: 'it returns false'. Refute it at one input. -/
def lexerBesideWrong : ChangeSpec := { name := "lexerBeside", fn := fun _ => fun
  | [d1, d2, d3] => { results := [.lit (.bool false)], args := [d1, d2, d3] }
  | _ => none }
def LexerBesideWrongFalsely : Prop := lexerBesideRow.holds Try.pinned (OpenSpec.ofChange lexerBesideWrong)

/-- 'trellislaw25.LexerColumns': WHATEVER THE INPUT: true; the input reads as it did. -/
def lexerColumnsSpec : ChangeSpec := { name := "lexerColumns", fn := fun _ => fun
  | [d1, d2] => { results := [.lit (.bool true)], args := [d1, d2] }
  | _ => none }
def lexerColumnsRow : OpenClaim := { program := "ytebidhdoiojaeaa", sum := "17d9c9617820a76afc6499d625d0335570662165ccc272e32f4d5a128cab5d1c", func := "trellis/trellislaw25.LexerColumns", spec := "lexerColumns", inPlace := ["internal/bytealg.IndexByteString", "internal/bytealg.IndexString"], unfollowed := true, recurses := true, named := ["internal/bytealg.MaxLen"], apart := false }
def LexerColumnsSaid : Prop := lexerColumnsRow.holds Try.pinned (OpenSpec.ofChange lexerColumnsSpec)

/-- ITS FALSE NEIGHBOUR: 'it returns false'. Refute it at one input. -/
def lexerColumnsWrong : ChangeSpec := { name := "lexerColumns", fn := fun _ => fun
  | [d1, d2] => { results := [.lit (.bool false)], args := [d1, d2] }
  | _ => none }
def LexerColumnsWrongFalsely : Prop := lexerColumnsRow.holds Try.pinned (OpenSpec.ofChange lexerColumnsWrong)

/-- 'trellislaw25.LexerKeeps': WHATEVER THE INPUT: true; the input reads as it did. -/
def lexerKeepsSpec : ChangeSpec := { name := "lexerKeeps", fn := fun _ => fun
  | [d1, d2] => { results := [.lit (.bool true)], args := [d1, d2] }
  | _ => none }
def lexerKeepsRow : OpenClaim := { program := "ytebidhdoiojaeaa", sum := "17d9c9617820a76afc6499d625d0335570662165ccc272e32f4d5a128cab5d1c", func := "trellis/trellislaw25.LexerKeeps", spec := "lexerKeeps", inPlace := ["internal/bytealg.IndexByteString", "internal/bytealg.IndexString"], unfollowed := true, recurses := true, named := ["internal/bytealg.MaxLen"], apart := false }
def LexerKeepsSaid : Prop := lexerKeepsRow.holds Try.pinned (OpenSpec.ofChange lexerKeepsSpec)

/-- ITS FALSE NEIGHBOUR: 'it returns false'. Refute it at one input. -/
def lexerKeepsWrong : ChangeSpec := { name := "lexerKeeps", fn := fun _ => fun
  | [d1, d2] => { results := [.lit (.bool false)], args := [d1, d2] }
  | _ => none }
def LexerKeepsWrongFalsely : Prop := lexerKeepsRow.holds Try.pinned (OpenSpec.ofChange lexerKeepsWrong)

/-- 'trellislaw25.LexerCuts': WHATEVER THE INPUT: true; the input reads as it did. -/
def lexerCutsSpec : ChangeSpec := { name := "lexerCuts", fn := fun _ => fun
  | [d1, d2] => { results := [.lit (.bool true)], args := [d1, d2] }
  | _ => none }
def lexerCutsRow : OpenClaim := { program := "ytebidhdoiojaeaa", sum := "17d9c9617820a76afc6499d625d0335570662165ccc272e32f4d5a128cab5d1c", func := "trellis/trellislaw25.LexerCuts", spec := "lexerCuts", inPlace := ["internal/bytealg.IndexByteString", "internal/bytealg.IndexString"], unfollowed := true, recurses := true, named := ["internal/bytealg.MaxLen"], apart := false }
def LexerCutsSaid : Prop := lexerCutsRow.holds Try.pinned (OpenSpec.ofChange lexerCutsSpec)

/-- ITS FALSE NEIGHBOUR: 'it returns false'. Refute it at one input. -/
def lexerCutsWrong : ChangeSpec := { name := "lexerCuts", fn := fun _ => fun
  | [d1, d2] => { results := [.lit (.bool false)], args := [d1, d2] }
  | _ => none }
def LexerCutsWrongFalsely : Prop := lexerCutsRow.holds Try.pinned (OpenSpec.ofChange lexerCutsWrong)

/-- 'trellislaw25.LexerAll': WHATEVER THE INPUT: true; the input reads as it did. -/
def lexerAllSpec : ChangeSpec := { name := "lexerAll", fn := fun _ => fun
  | [d] => { results := [.lit (.bool true)], args := [d] }
  | _ => none }
def lexerAllRow : OpenClaim := { program := "ytebidhdoiojaeaa", sum := "17d9c9617820a76afc6499d625d0335570662165ccc272e32f4d5a128cab5d1c", func := "trellis/trellislaw25.LexerAll", spec := "lexerAll", inPlace := ["internal/bytealg.IndexByteString", "internal/bytealg.IndexString"], unfollowed := true, recurses := true, named := ["internal/bytealg.MaxLen"], apart := false }
def LexerAllSaid : Prop := lexerAllRow.holds Try.pinned (OpenSpec.ofChange lexerAllSpec)

/-- ITS FALSE NEIGHBOUR: 'it returns false'. Refute it at one input. -/
def lexerAllWrong : ChangeSpec := { name := "lexerAll", fn := fun _ => fun
  | [d] => { results := [.lit (.bool false)], args := [d] }
  | _ => none }
def LexerAllWrongFalsely : Prop := lexerAllRow.holds Try.pinned (OpenSpec.ofChange lexerAllWrong)

/-- 'trellislaw25.LexerRuns': WHATEVER THE INPUT: true; the input reads as it did. -/
def lexerRunsSpec : ChangeSpec := { name := "lexerRuns", fn := fun _ => fun
  | [d1, d2] => { results := [.lit (.bool true)], args := [d1, d2] }
  | _ => none }
def lexerRunsRow : OpenClaim := { program := "ytebidhdoiojaeaa", sum := "17d9c9617820a76afc6499d625d0335570662165ccc272e32f4d5a128cab5d1c", func := "trellis/trellislaw25.LexerRuns", spec := "lexerRuns", inPlace := ["internal/bytealg.IndexByteString", "internal/bytealg.IndexString", "math/bits.Add64", "math/bits.Sub64"], unfollowed := true, recurses := true, named := ["internal/bytealg.MaxLen"], apart := false }
def LexerRunsSaid : Prop := lexerRunsRow.holds Try.pinned (OpenSpec.ofChange lexerRunsSpec)

/-- ITS FALSE NEIGHBOUR: 'it returns false'. Refute it at one input. -/
def lexerRunsWrong : ChangeSpec := { name := "lexerRuns", fn := fun _ => fun
  | [d1, d2] => { results := [.lit (.bool false)], args := [d1, d2] }
  | _ => none }
def LexerRunsWrongFalsely : Prop := lexerRunsRow.holds Try.pinned (OpenSpec.ofChange lexerRunsWrong)

/-- 'trellislaw25.LexerWhole': WHATEVER THE INPUT: true; the input reads as it did. -/
def lexerWholeSpec : ChangeSpec := { name := "lexerWhole", fn := fun _ => fun
  | [d] => { results := [.lit (.bool true)], args := [d] }
  | _ => none }
def lexerWholeRow : OpenClaim := { program := "ytebidhdoiojaeaa", sum := "17d9c9617820a76afc6499d625d0335570662165ccc272e32f4d5a128cab5d1c", func := "trellis/trellislaw25.LexerWhole", spec := "lexerWhole", inPlace := ["internal/bytealg.IndexByteString", "internal/bytealg.IndexString", "math/bits.Add64", "math/bits.Sub64"], unfollowed := true, recurses := true, named := ["internal/bytealg.MaxLen"], apart := false }
def LexerWholeSaid : Prop := lexerWholeRow.holds Try.pinned (OpenSpec.ofChange lexerWholeSpec)

/-- ITS FALSE NEIGHBOUR: 'it returns false'. Refute it at one input. -/
def lexerWholeWrong : ChangeSpec := { name := "lexerWhole", fn := fun _ => fun
  | [d] => { results := [.lit (.bool false)], args := [d] }
  | _ => none }
def LexerWholeWrongFalsely : Prop := lexerWholeRow.holds Try.pinned (OpenSpec.ofChange lexerWholeWrong)

/- THE SECOND FORM. 'bulk': how many values and letters a reading holds, each counted each time it is reached (what is shared counts as often as it is met; a slice's spare places count too). A statement '..UptoSaid' is the law's where the arguments, and the package variables that the reading takes, are together of bulk at most 1048576: NARROWER than '..Said'. Prove '..Said' where nothing that the law and all that it calls make is longer than what came in: it says more and counts as full. Else prove '..UptoSaid'. A law counts once. -/
mutual
def uptoBulk {H : Type} : DataW H → Nat
  | .lit (.string bytes) => bytes.length + 1
  | .lit _ => 1
  | .nil => 1
  | .ptr d => uptoBulk d + 1
  | .slice elems spare => uptoBulkAll elems + uptoBulkAll spare + 1
  | .agg parts => uptoBulkAll parts + 1
  | .iface _ d => uptoBulk d + 1
  | .map entries => uptoBulkEntries entries + 1
  | .held _ => 1
def uptoBulkAll {H : Type} : List (DataW H) → Nat
  | [] => 0
  | d :: r => uptoBulk d + uptoBulkAll r
def uptoBulkEntries {H : Type} : List (Lit × DataW H) → Nat
  | [] => 0
  | x :: r => uptoBulkEntry x + uptoBulkEntries r
def uptoBulkEntry {H : Type} : Lit × DataW H → Nat
  | (.string bytes, d) => bytes.length + uptoBulk d + 1
  | (_, d) => uptoBulk d + 1
 end
def uptoSmall : (H : Type) → List (DataW H) → Bool := fun _ ds => decide (uptoBulkAll ds ≤ 1048576)
def OpenSpec.upto (s : _root_.Go.ChangeSpec) : _root_.Go.OpenSpec := { _root_.Go.OpenSpec.ofChange s with cond := some uptoSmall }

/-- 'trellislaw25.LexerNames', WHERE WHAT IT READS IS OF BULK AT MOST 1048576: true; the input reads as it did. -/
def lexerNamesUptoRow : OpenClaim := { program := "ytebidhdoiojaeaa", sum := "17d9c9617820a76afc6499d625d0335570662165ccc272e32f4d5a128cab5d1c", func := "trellis/trellislaw25.LexerNames", spec := "lexerNames", inPlace := ["internal/bytealg.IndexByteString", "internal/bytealg.IndexString"], unfollowed := true, recurses := true, named := ["internal/bytealg.MaxLen"], apart := false, narrowed := true }
def LexerNamesUptoSaid : Prop := lexerNamesUptoRow.holds Try.pinned (OpenSpec.upto lexerNamesSpec)

/-- 'trellislaw25.LexerBeside', WHERE WHAT IT READS IS OF BULK AT MOST 1048576: true; the input reads as it did. -/
def lexerBesideUptoRow : OpenClaim := { program := "ytebidhdoiojaeaa", sum := "17d9c9617820a76afc6499d625d0335570662165ccc272e32f4d5a128cab5d1c", func := "trellis/trellislaw25.LexerBeside", spec := "lexerBeside", inPlace := ["internal/bytealg.IndexByteString", "internal/bytealg.IndexString"], unfollowed := true, recurses := true, named := ["internal/bytealg.MaxLen"], apart := false, narrowed := true }
def LexerBesideUptoSaid : Prop := lexerBesideUptoRow.holds Try.pinned (OpenSpec.upto lexerBesideSpec)

/-- 'trellislaw25.LexerColumns', WHERE WHAT IT READS IS OF BULK AT MOST 1048576: true; the input reads as it did. -/
def lexerColumnsUptoRow : OpenClaim := { program := "ytebidhdoiojaeaa", sum := "17d9c9617820a76afc6499d625d0335570662165ccc272e32f4d5a128cab5d1c", func := "trellis/trellislaw25.LexerColumns", spec := "lexerColumns", inPlace := ["internal/bytealg.IndexByteString", "internal/bytealg.IndexString"], unfollowed := true, recurses := true, named := ["internal/bytealg.MaxLen"], apart := false, narrowed := true }
def LexerColumnsUptoSaid : Prop := lexerColumnsUptoRow.holds Try.pinned (OpenSpec.upto lexerColumnsSpec)

/-- 'trellislaw25.LexerKeeps', WHERE WHAT IT READS IS OF BULK AT MOST 1048576: true; the input reads as it did. -/
def lexerKeepsUptoRow : OpenClaim := { program := "ytebidhdoiojaeaa", sum := "17d9c9617820a76afc6499d625d0335570662165ccc272e32f4d5a128cab5d1c", func := "trellis/trellislaw25.LexerKeeps", spec := "lexerKeeps", inPlace := ["internal/bytealg.IndexByteString", "internal/bytealg.IndexString"], unfollowed := true, recurses := true, named := ["internal/bytealg.MaxLen"], apart := false, narrowed := true }
def LexerKeepsUptoSaid : Prop := lexerKeepsUptoRow.holds Try.pinned (OpenSpec.upto lexerKeepsSpec)

/-- 'trellislaw25.LexerCuts', WHERE WHAT IT READS IS OF BULK AT MOST 1048576: true; the input reads as it did. -/
def lexerCutsUptoRow : OpenClaim := { program := "ytebidhdoiojaeaa", sum := "17d9c9617820a76afc6499d625d0335570662165ccc272e32f4d5a128cab5d1c", func := "trellis/trellislaw25.LexerCuts", spec := "lexerCuts", inPlace := ["internal/bytealg.IndexByteString", "internal/bytealg.IndexString"], unfollowed := true, recurses := true, named := ["internal/bytealg.MaxLen"], apart := false, narrowed := true }
def LexerCutsUptoSaid : Prop := lexerCutsUptoRow.holds Try.pinned (OpenSpec.upto lexerCutsSpec)

/-- 'trellislaw25.LexerAll', WHERE WHAT IT READS IS OF BULK AT MOST 1048576: true; the input reads as it did. -/
def lexerAllUptoRow : OpenClaim := { program := "ytebidhdoiojaeaa", sum := "17d9c9617820a76afc6499d625d0335570662165ccc272e32f4d5a128cab5d1c", func := "trellis/trellislaw25.LexerAll", spec := "lexerAll", inPlace := ["internal/bytealg.IndexByteString", "internal/bytealg.IndexString"], unfollowed := true, recurses := true, named := ["internal/bytealg.MaxLen"], apart := false, narrowed := true }
def LexerAllUptoSaid : Prop := lexerAllUptoRow.holds Try.pinned (OpenSpec.upto lexerAllSpec)

/-- 'trellislaw25.LexerRuns', WHERE WHAT IT READS IS OF BULK AT MOST 1048576: true; the input reads as it did. -/
def lexerRunsUptoRow : OpenClaim := { program := "ytebidhdoiojaeaa", sum := "17d9c9617820a76afc6499d625d0335570662165ccc272e32f4d5a128cab5d1c", func := "trellis/trellislaw25.LexerRuns", spec := "lexerRuns", inPlace := ["internal/bytealg.IndexByteString", "internal/bytealg.IndexString", "math/bits.Add64", "math/bits.Sub64"], unfollowed := true, recurses := true, named := ["internal/bytealg.MaxLen"], apart := false, narrowed := true }
def LexerRunsUptoSaid : Prop := lexerRunsUptoRow.holds Try.pinned (OpenSpec.upto lexerRunsSpec)

/-- 'trellislaw25.LexerWhole', WHERE WHAT IT READS IS OF BULK AT MOST 1048576: true; the input reads as it did. -/
def lexerWholeUptoRow : OpenClaim := { program := "ytebidhdoiojaeaa", sum := "17d9c9617820a76afc6499d625d0335570662165ccc272e32f4d5a128cab5d1c", func := "trellis/trellislaw25.LexerWhole", spec := "lexerWhole", inPlace := ["internal/bytealg.IndexByteString", "internal/bytealg.IndexString", "math/bits.Add64", "math/bits.Sub64"], unfollowed := true, recurses := true, named := ["internal/bytealg.MaxLen"], apart := false, narrowed := true }
def LexerWholeUptoSaid : Prop := lexerWholeUptoRow.holds Try.pinned (OpenSpec.upto lexerWholeSpec)

end Rows
end Go.Proofs.Ytebidhdoiojaeaa
