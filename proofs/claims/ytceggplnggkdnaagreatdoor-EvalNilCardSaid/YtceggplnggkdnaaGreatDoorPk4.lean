/- Joined texts of this claim's proof: Shelf, DivW1, DivW2, Num2. -/
import Derived.Shelf.Strings.Builder1
import Derived.Shelf.Strings.Builder2
import Derived.Shelf.Strings.OnBuilder
import Derived.Shelf.Small.Utf8
import Derived.Shelf.Small.Bits
import Derived.Shelf.Small.Strs
import Derived.Shelf.Strings.BuilderF
import Derived.Shelf.Strings.BuilderK
import Derived.Shelf.Strings.Builder2Cap
import Derived.Shelf.Strconv.Itoa0
import Derived.Shelf.Strconv.Itoa1
import Derived.Shelf.LaysM
import Derived.Shelf.Strconv.Itoa2
import Derived.Shelf.Strconv.Itoa3
import Derived.Shelf.Strings.Search1
import Derived.Shelf.Strings.Search2
import Derived.Shelf.Strings.Search3
import Derived.Shelf.Strings.Cut
import Derived.Shelf.Strings.Shaped
import Derived.Shelf.Strings.Prefix
import Derived.Shelf.Strings.Runes
import Derived.Shelf.Bits.Mul64
import Derived.Shelf.Strings.BuilderCap
import Derived.Test.YtceggplnggkdnaaGreatDoorProg
import Derived.Test.YtceggplnggkdnaaGreatDoorPk3
import Derived.BigQuiet
import Derived.Lib.EndianBits
import Derived.Deep.QuietTactic
import Derived.Lib.ItoaNum
import Derived.Deep.DeepCutAuto
import Derived.Deep.CutBlock
set_option linter.unusedSimpArgs false
set_option linter.unusedVariables false
namespace Go.Proofs
open Go.Shelf
def Tryz.lays156_ren : Go.Shelf.Ren := ⟨fun | 156 => 173 | 165 => 321 | 166 => 76 | 169 => 77 | 240 => 168 | 241 => 446 | 276 => 318 | 277 => 516 | n => n, fun | 31 => 28 | 9 => 9 | 3 => 3 | 4 => 4 | 0 => 0 | 20 => 20 | 72 => 92 | 76 => 151 | 70 => 90 | 37 => 45 | 75 => 74 | 127 => 224 | 164 => 196 | 5 => 5 | 80 => 48 | n => n, fun | n => n⟩
theorem Tryz.lays156 : Go.Proofs.Lays.n156 Tryz.prog Tryz.lays156_ren := {
 mixed := by kernel_rfl
 f156 := Tryz.func173.trans (congrArg some (by kernel_rfl))
 f165 := Tryz.func321.trans (congrArg some (by kernel_rfl))
 f166 := Tryz.func76.trans (congrArg some (by kernel_rfl))
 f169 := Tryz.func77.trans (congrArg some (by kernel_rfl))
 f240 := Tryz.func168.trans (congrArg some (by kernel_rfl))
 f241 := Tryz.func446.trans (congrArg some (by kernel_rfl))
 f276 := Tryz.func318.trans (congrArg some (by kernel_rfl))
 f277 := Tryz.func516.trans (congrArg some (by kernel_rfl))
 t0 := Tryz.underlying0
 a0 := Tryz.isAgg0
 z0 := Tryz.sizeOf0
 v0 := Tryz.zeroValue0
 t3 := Tryz.underlying3
 a3 := Tryz.isAgg3
 z3 := Tryz.sizeOf3
 v3 := Tryz.zeroValue3
 t4 := Tryz.underlying4
 a4 := Tryz.isAgg4
 z4 := Tryz.sizeOf4
 v4 := Tryz.zeroValue4
 t9 := Tryz.underlying9
 a9 := Tryz.isAgg9
 z9 := Tryz.sizeOf9
 v9 := Tryz.zeroValue9
 t20 := Tryz.underlying20
 a20 := Tryz.isAgg20
 z20 := Tryz.sizeOf20
 v20 := Tryz.zeroValue20
 t31 := Tryz.underlying28
 a31 := Tryz.isAgg28
 z31 := Tryz.sizeOf28
 v31 := Tryz.zeroValue28
 t37 := Tryz.underlying45
 a37 := Tryz.isAgg45
 z37 := Tryz.sizeOf45
 v37 := Tryz.zeroValue45
 t70 := Tryz.underlying90
 a70 := Tryz.isAgg90
 z70 := Tryz.sizeOf90
 v70 := Tryz.zeroValue90
 t72 := Tryz.underlying92
 a72 := Tryz.isAgg92
 z72 := Tryz.sizeOf92
 v72 := Tryz.zeroValue92
 t75 := Tryz.underlying74
 a75 := Tryz.isAgg74
 z75 := Tryz.sizeOf74
 v75 := Tryz.zeroValue74
 t76 := Tryz.underlying151
 a76 := Tryz.isAgg151
 z76 := Tryz.sizeOf151
 v76 := Tryz.zeroValue151
 t127 := Tryz.underlying224
 a127 := Tryz.isAgg224
 z127 := Tryz.sizeOf224
 v127 := Tryz.zeroValue224
 t164 := Tryz.underlying196
 a164 := Tryz.isAgg196
 z164 := Tryz.sizeOf196
 v164 := Tryz.zeroValue196 }
theorem Tryz.Builder_Extra_156 : Builder.Extra Tryz.prog Tryz.lays156_ren := {
 sizeBuilder := by kernel_rfl
 liesBuilder := by kernel_rfl
 t5 := Tryz.underlying5
 a5 := Tryz.isAgg5
 z5 := Tryz.sizeOf5
 v5 := Tryz.zeroValue5
 infoByte := by kernel_rfl
 cellsByte := by kernel_rfl
 sizeByte := by kernel_rfl
 neB5 := by decide }
open Go.RowKit in
theorem Tryz.strings_Join_none (a : Option Addr) (c : Nat) (sep : ByteArray) (w : World) :
  Calls Tryz.prog 173 #[.slice a 0 c, .string sep] w fun e w' => e = .returned (.string ⟨#[]⟩) ∧ w' = w := Any.strings_Join_none Tryz.lays156 Tryz.Builder_Extra_156 a c sep w
open Go.RowKit in
theorem Tryz.strings_Join (bk o c : Nat) (xs : List ByteArray) (sep : ByteArray) (w : World) (hcells : ∀ (j : Nat) x, xs[j]? = some x → w.cell? ⟨bk, o + j, none⟩ = some (.string x)) (hbk : bk < w.heap.size) (hN : xs.length ≤ 140737488355328) (hcap : xs.length ≤ c) (hlen : (Lib.join (xs.map (·.data.toList)) sep.data.toList).length ≤ 140737488355328) :
  Calls Tryz.prog 173 #[.slice (some ⟨bk, o, none⟩) xs.length c, .string sep] w fun e w' => e = .returned (.string ⟨(Lib.join (xs.map (·.data.toList)) sep.data.toList).toArray⟩) ∧ Below w.heap.size w w' := Any.strings_Join Tryz.lays156 Tryz.Builder_Extra_156 bk o c xs sep w hcells hbk hN hcap hlen
def Tryz.lays134_ren : Go.Shelf.Ren := ⟨fun | 134 => 580 | 129 => 302 | n => n, fun | 53 => 215 | 3 => 3 | 4 => 4 | 46 => 223 | 5 => 5 | 9 => 9 | n => n, fun | n => n⟩
theorem Tryz.lays134 : Go.Proofs.Lays.n134 Tryz.prog Tryz.lays134_ren := {
 mixed := by kernel_rfl
 f129 := Tryz.func302.trans (congrArg some (by kernel_rfl))
 f134 := Tryz.func580.trans (congrArg some (by kernel_rfl))
 t3 := Tryz.underlying3
 a3 := Tryz.isAgg3
 z3 := Tryz.sizeOf3
 v3 := Tryz.zeroValue3
 t4 := Tryz.underlying4
 a4 := Tryz.isAgg4
 z4 := Tryz.sizeOf4
 v4 := Tryz.zeroValue4
 t5 := Tryz.underlying5
 a5 := Tryz.isAgg5
 z5 := Tryz.sizeOf5
 v5 := Tryz.zeroValue5
 t9 := Tryz.underlying9
 a9 := Tryz.isAgg9
 z9 := Tryz.sizeOf9
 v9 := Tryz.zeroValue9
 t46 := Tryz.underlying223
 a46 := Tryz.isAgg223
 z46 := Tryz.sizeOf223
 v46 := Tryz.zeroValue223
 t53 := Tryz.underlying215
 a53 := Tryz.isAgg215
 z53 := Tryz.sizeOf215
 v53 := Tryz.zeroValue215 }
theorem Tryz.bits_LeadingZeros64 (x : Int) (w : World) (h0 : 0 ≤ x) (h1 : x ≤ 18446744073709551615) :
  Calls Tryz.prog 580 #[.int .u64 x] w fun e w' => e = .returned (.int .i64 (64 - (Lib.bitLen x.toNat : Int))) ∧ w' = w := Any.bits_LeadingZeros64 Tryz.lays134 x w h0 h1
def Tryz.lays129_ren : Go.Shelf.Ren := ⟨fun | 129 => 302 | n => n, fun | 53 => 215 | 3 => 3 | 4 => 4 | 46 => 223 | 5 => 5 | 9 => 9 | n => n, fun | n => n⟩
theorem Tryz.lays129 : Go.Proofs.Lays.n129 Tryz.prog Tryz.lays129_ren := {
 mixed := by kernel_rfl
 f129 := Tryz.func302.trans (congrArg some (by kernel_rfl))
 t3 := Tryz.underlying3
 a3 := Tryz.isAgg3
 z3 := Tryz.sizeOf3
 v3 := Tryz.zeroValue3
 t4 := Tryz.underlying4
 a4 := Tryz.isAgg4
 z4 := Tryz.sizeOf4
 v4 := Tryz.zeroValue4
 t5 := Tryz.underlying5
 a5 := Tryz.isAgg5
 z5 := Tryz.sizeOf5
 v5 := Tryz.zeroValue5
 t9 := Tryz.underlying9
 a9 := Tryz.isAgg9
 z9 := Tryz.sizeOf9
 v9 := Tryz.zeroValue9
 t46 := Tryz.underlying223
 a46 := Tryz.isAgg223
 z46 := Tryz.sizeOf223
 v46 := Tryz.zeroValue223
 t53 := Tryz.underlying215
 a53 := Tryz.isAgg215
 z53 := Tryz.sizeOf215
 v53 := Tryz.zeroValue215 }
theorem Tryz.bits_Len64 (x : Int) (w : World) (h0 : 0 ≤ x) (h1 : x ≤ 18446744073709551615) :
  Calls Tryz.prog 302 #[.int .u64 x] w fun e w' => e = .returned (.int .i64 (Lib.bitLen x.toNat)) ∧ w' = w := Any.bits_Len64 Tryz.lays129 x w h0 h1
def Tryz.lays219_ren : Go.Shelf.Ren := ⟨fun | 219 => 444 | 217 => 166 | 225 => 512 | 224 => 513 | 267 => 514 | 266 => 316 | 314 => 559 | n => n, fun | 9 => 9 | 3 => 3 | 4 => 4 | 5 => 5 | 46 => 223 | 146 => 590 | 51 => 368 | n => n, fun | 1 => 2 | n => n⟩
def Tryz.lays144_ren : Go.Shelf.Ren := ⟨fun | 144 => 327 | 143 => 449 | 219 => 444 | 217 => 166 | 225 => 512 | 224 => 513 | 267 => 514 | 266 => 316 | 314 => 559 | n => n, fun | 9 => 9 | 4 => 4 | 3 => 3 | 5 => 5 | 46 => 223 | 146 => 590 | 51 => 368 | n => n, fun | 1 => 2 | n => n⟩
theorem Tryz.lays144 : Go.Proofs.Lays.n144 Tryz.prog Tryz.lays144_ren := {
 mixed := by kernel_rfl
 f143 := Tryz.func449.trans (congrArg some (by kernel_rfl))
 f144 := Tryz.func327.trans (congrArg some (by kernel_rfl))
 f217 := Tryz.func166.trans (congrArg some (by kernel_rfl))
 f219 := Tryz.func444.trans (congrArg some (by kernel_rfl))
 f224 := Tryz.func513.trans (congrArg some (by kernel_rfl))
 f225 := Tryz.func512.trans (congrArg some (by kernel_rfl))
 f266 := Tryz.func316.trans (congrArg some (by kernel_rfl))
 f267 := Tryz.func514.trans (congrArg some (by kernel_rfl))
 f314 := Tryz.func559.trans (congrArg some (by kernel_rfl))
 t3 := Tryz.underlying3
 a3 := Tryz.isAgg3
 z3 := Tryz.sizeOf3
 v3 := Tryz.zeroValue3
 t4 := Tryz.underlying4
 a4 := Tryz.isAgg4
 z4 := Tryz.sizeOf4
 v4 := Tryz.zeroValue4
 t5 := Tryz.underlying5
 a5 := Tryz.isAgg5
 z5 := Tryz.sizeOf5
 v5 := Tryz.zeroValue5
 t9 := Tryz.underlying9
 a9 := Tryz.isAgg9
 z9 := Tryz.sizeOf9
 v9 := Tryz.zeroValue9
 t46 := Tryz.underlying223
 a46 := Tryz.isAgg223
 z46 := Tryz.sizeOf223
 v46 := Tryz.zeroValue223
 t51 := Tryz.underlying368
 a51 := Tryz.isAgg368
 z51 := Tryz.sizeOf368
 v51 := Tryz.zeroValue368
 t146 := Tryz.underlying590
 a146 := Tryz.isAgg590
 z146 := Tryz.sizeOf590
 v146 := Tryz.zeroValue590
 g1 := by kernel_rfl }
open Go.RowKit Go.Lib in
theorem Tryz.strings_Contains (s sub : ByteArray) (m : Int) (w : World) (hs : s.size < 4294967281) (hm : w.cell? ⟨2, 0, none⟩ = some (.int .i64 m)) :
  Calls Tryz.prog 327 #[.string s, .string sub] w fun e w' => e = .returned (.bool (Lib.contains s.data.toList sub.data.toList)) ∧ w' = w := Any.strings_Contains Tryz.lays144 s sub m w hs hm
def Tryz.lays206_ren : Go.Shelf.Ren := ⟨fun | 206 => 448 | n => n, fun | 9 => 9 | 4 => 4 | 3 => 3 | n => n, fun | n => n⟩
def Tryz.lays99_ren : Go.Shelf.Ren := ⟨fun | 99 => 323 | 206 => 448 | n => n, fun | 9 => 9 | 4 => 4 | 3 => 3 | n => n, fun | n => n⟩
theorem Tryz.lays99 : Go.Proofs.Lays.n99 Tryz.prog Tryz.lays99_ren := {
 mixed := by kernel_rfl
 f99 := Tryz.func323.trans (congrArg some (by kernel_rfl))
 f206 := Tryz.func448.trans (congrArg some (by kernel_rfl))
 t3 := Tryz.underlying3
 a3 := Tryz.isAgg3
 z3 := Tryz.sizeOf3
 v3 := Tryz.zeroValue3
 t4 := Tryz.underlying4
 a4 := Tryz.isAgg4
 z4 := Tryz.sizeOf4
 v4 := Tryz.zeroValue4
 t9 := Tryz.underlying9
 a9 := Tryz.isAgg9
 z9 := Tryz.sizeOf9
 v9 := Tryz.zeroValue9 }
open Go.RowKit Go.Lib in
theorem Tryz.strings_HasPrefix (s p : ByteArray) (w : World) :
  Calls Tryz.prog 323 #[.string s, .string p] w fun e w' => e = .returned (.bool (Lib.hasPrefix s.data.toList p.data.toList)) ∧ w' = w := Any.strings_HasPrefix Tryz.lays99 s p w
def Tryz.lays207_ren : Go.Shelf.Ren := ⟨fun | 207 => 317 | n => n, fun | 9 => 9 | 4 => 4 | 3 => 3 | n => n, fun | n => n⟩
theorem Tryz.lays207 : Go.Proofs.Lays.n207 Tryz.prog Tryz.lays207_ren := {
 mixed := by kernel_rfl
 f207 := Tryz.func317.trans (congrArg some (by kernel_rfl))
 t3 := Tryz.underlying3
 a3 := Tryz.isAgg3
 z3 := Tryz.sizeOf3
 v3 := Tryz.zeroValue3
 t4 := Tryz.underlying4
 a4 := Tryz.isAgg4
 z4 := Tryz.sizeOf4
 v4 := Tryz.zeroValue4
 t9 := Tryz.underlying9
 a9 := Tryz.isAgg9
 z9 := Tryz.sizeOf9
 v9 := Tryz.zeroValue9 }
open Go.RowKit Go.Lib in
theorem Tryz.stringslite_HasSuffix (s p : ByteArray) (w : World) (hs : s.size ≤ 9223372036854775807) :
  Calls Tryz.prog 317 #[.string s, .string p] w fun e w' => e = .returned (.bool (Lib.hasSuffix s.data.toList p.data.toList)) ∧ w' = w := Any.stringslite_HasSuffix Tryz.lays207 s p w hs
def Tryz.lays100_ren : Go.Shelf.Ren := ⟨fun | 100 => 326 | 207 => 317 | n => n, fun | 9 => 9 | 4 => 4 | 3 => 3 | n => n, fun | n => n⟩
theorem Tryz.lays100 : Go.Proofs.Lays.n100 Tryz.prog Tryz.lays100_ren := {
 mixed := by kernel_rfl
 f100 := Tryz.func326.trans (congrArg some (by kernel_rfl))
 f207 := Tryz.func317.trans (congrArg some (by kernel_rfl))
 t3 := Tryz.underlying3
 a3 := Tryz.isAgg3
 z3 := Tryz.sizeOf3
 v3 := Tryz.zeroValue3
 t4 := Tryz.underlying4
 a4 := Tryz.isAgg4
 z4 := Tryz.sizeOf4
 v4 := Tryz.zeroValue4
 t9 := Tryz.underlying9
 a9 := Tryz.isAgg9
 z9 := Tryz.sizeOf9
 v9 := Tryz.zeroValue9 }
open Go.RowKit Go.Lib in
theorem Tryz.strings_HasSuffix (s p : ByteArray) (w : World) (hs : s.size ≤ 9223372036854775807) :
  Calls Tryz.prog 326 #[.string s, .string p] w fun e w' => e = .returned (.bool (Lib.hasSuffix s.data.toList p.data.toList)) ∧ w' = w := Any.strings_HasSuffix Tryz.lays100 s p w hs
def Tryz.lays151_ren : Go.Shelf.Ren := ⟨fun | 151 => 447 | 152 => 517 | 137 => 74 | 119 => 561 | 224 => 513 | 225 => 512 | 217 => 166 | 266 => 316 | n => n, fun | 9 => 9 | 21 => 21 | 4 => 4 | 3 => 3 | 5 => 5 | 0 => 0 | 46 => 223 | n => n, fun | n => n⟩
theorem Tryz.lays151 : Go.Proofs.Lays.n151 Tryz.prog Tryz.lays151_ren := {
 mixed := by kernel_rfl
 f119 := Tryz.func561.trans (congrArg some (by kernel_rfl))
 f137 := Tryz.func74.trans (congrArg some (by kernel_rfl))
 f151 := Tryz.func447.trans (congrArg some (by kernel_rfl))
 f152 := Tryz.func517.trans (congrArg some (by kernel_rfl))
 f217 := Tryz.func166.trans (congrArg some (by kernel_rfl))
 f224 := Tryz.func513.trans (congrArg some (by kernel_rfl))
 f225 := Tryz.func512.trans (congrArg some (by kernel_rfl))
 f266 := Tryz.func316.trans (congrArg some (by kernel_rfl))
 t0 := Tryz.underlying0
 a0 := Tryz.isAgg0
 z0 := Tryz.sizeOf0
 v0 := Tryz.zeroValue0
 t3 := Tryz.underlying3
 a3 := Tryz.isAgg3
 z3 := Tryz.sizeOf3
 v3 := Tryz.zeroValue3
 t4 := Tryz.underlying4
 a4 := Tryz.isAgg4
 z4 := Tryz.sizeOf4
 v4 := Tryz.zeroValue4
 t5 := Tryz.underlying5
 a5 := Tryz.isAgg5
 z5 := Tryz.sizeOf5
 v5 := Tryz.zeroValue5
 t9 := Tryz.underlying9
 a9 := Tryz.isAgg9
 z9 := Tryz.sizeOf9
 v9 := Tryz.zeroValue9
 t21 := Tryz.underlying21
 a21 := Tryz.isAgg21
 z21 := Tryz.sizeOf21
 v21 := Tryz.zeroValue21
 t46 := Tryz.underlying223
 a46 := Tryz.isAgg223
 z46 := Tryz.sizeOf223
 v46 := Tryz.zeroValue223 }
open Go.RowKit Go.Lib in
theorem Tryz.strings_ContainsRune_ascii (s : ByteArray) (r : Int) (w : World) (h0 : 0 ≤ r) (h1 : r < 128) :
  Calls Tryz.prog 447 #[.string s, .int .i32 r] w fun e w' => e = .returned (.bool (decide (0 ≤ Lib.indexByte s.data.toList r.toNat.toUInt8))) ∧ w' = w := Any.strings_ContainsRune_ascii Tryz.lays151 s r w h0 h1
def Tryz.lays264_ren : Go.Shelf.Ren := ⟨fun | 264 => 530 | n => n, fun | 53 => 215 | 46 => 223 | n => n, fun | n => n⟩
theorem Tryz.lays264 : Go.Proofs.Lays.n264 Tryz.prog Tryz.lays264_ren := {
 mixed := by kernel_rfl
 f264 := Tryz.func530.trans (congrArg some (by kernel_rfl))
 t46 := Tryz.underlying223
 a46 := Tryz.isAgg223
 z46 := Tryz.sizeOf223
 v46 := Tryz.zeroValue223
 t53 := Tryz.underlying215
 a53 := Tryz.isAgg215
 z53 := Tryz.sizeOf215
 v53 := Tryz.zeroValue215 }
open Go.RowKit Go.Lib in
theorem Tryz.bits_Mul64 (x y : Nat) (hx : x < 18446744073709551616) (hy : y < 18446744073709551616) (w : World) :
  Calls Tryz.prog 530 #[.int .u64 x, .int .u64 y] w fun e w' => e = .returned (.tuple #[.int .u64 ((x * y / 18446744073709551616 : Nat) : Int), .int .u64 ((x * y % 18446744073709551616 : Nat) : Int)]) ∧ w' = w := Any.bits_Mul64 Tryz.lays264 x y hx hy w
end Go.Proofs
namespace Go.Proofs.YtceggplnggkdnaaGreatDoor
open Go.RowKit NatP
theorem u64_in (n : Nat) (h : n < 18446744073709551616) : IntKind.u64.wrap (n : Int) = (n : Int) := by rw [IntKind.wrap_u64]; omega
theorem and32 (x : Nat) (h : x < 18446744073709551616) : bits BinOp.and IntKind.u64 (x : Int) 4294967295 = ((x % 4294967296 : Nat) : Int) := by
 have h1 := bits_and_u64_nat x 4294967295 h (by omega)
 have h2 : x &&& 4294967295 = x % 4294967296 := Nat.and_two_pow_sub_one_eq_mod x 32
 rw [h2] at h1; exact h1
theorem or_join (x y i : Nat) (hx : x < 18446744073709551616) (hd : x % 2 ^ i = 0) (hy : y < 2 ^ i) (hy2 : y < 18446744073709551616) : bits BinOp.or IntKind.u64 (x : Int) (y : Int) = ((x + y : Nat) : Int) := by
 have h := bits_join .u64 64 (by decide) wraps_u64 i (x : Int) (y : Int) (by omega) (by exact_mod_cast hd) (by exact_mod_cast hx) (by omega) (by exact_mod_cast hy) (by exact_mod_cast hy2)
 rw [h]; rfl
def Div64Post (hi lo y : Nat) (w : World) (e : Ending) (w' : World) : Prop :=
 e = .returned (.tuple #[.int .u64 ((hi * BB + lo) / y : Nat), .int .u64 ((hi * BB + lo) % y : Nat)]) ∧ ∃ k, w' = w.drewN k
set_option maxRecDepth 100000 in
set_option maxHeartbeats 2000000 in
theorem div64_zero (lo y : Nat) (w : World) (hlo : lo < BB) (hy0 : 0 < y) (hy : y < BB) :
  Calls Tryz.prog 579 #[.int .u64 (0 : Nat), .int .u64 (lo : Nat), .int .u64 (y : Nat)] w (Div64Post 0 lo y w) := by
 have hBB : BB = 18446744073709551616 := rfl
 rw [hBB] at hlo hy
 have HQ : Hid ((0 * BB + lo) / y = lo / y ∧ (0 * BB + lo) % y = lo % y) := by rw [Nat.zero_mul, Nat.zero_add]; exact ⟨rfl, rfl⟩
 clear hBB
 have hyz : ((y : Int) == 0) = false := by simp; omega
 have hqb : lo / y < 18446744073709551616 := Nat.lt_of_le_of_lt (Nat.div_le_self _ _) hlo
 have hrb : lo % y < 18446744073709551616 := Nat.lt_trans (Nat.mod_lt _ hy0) hy
 have hqi : IntKind.u64.wrap ((lo : Int) / (y : Int)) = ((lo / y : Nat) : Int) := by
  have e : ((lo : Int) / (y : Int)) = ((lo / y : Nat) : Int) := rfl
  rw [e]; exact u64_in _ hqb
 have hri : (lo : Int) % (y : Int) = ((lo % y : Nat) : Int) := rfl
 clear hqb hrb
 go_enter Tryz.func579, Tryz.ntmps579
 go_wp2_with fail
 go_quiet (fail)
 go_wp2_with fail
 go_ret2
 exact ⟨by rw [HQ.out.1, HQ.out.2]; rfl, ⟨_, rfl⟩⟩
end Go.Proofs.YtceggplnggkdnaaGreatDoor
namespace Go.Proofs.YtceggplnggkdnaaGreatDoor
open Go.RowKit NatP
theorem digit_over {W u1 v1 v0 d rest b : Nat} (h : d * v1 + rest = W) (hW : W < v1 * b + v0) (hv0 : v0 < b) (hr : b ≤ rest) (hg : (W * b + u1) / (v1 * b + v0) ≤ d) : (W * b + u1) / (v1 * b + v0) = d := by
 have hd : d < b := by
  refine Nat.lt_of_not_le fun hd => ?_
  have h1 : b * v1 ≤ d * v1 := Nat.mul_le_mul_right _ hd
  rw [Nat.mul_comm b v1] at h1
  omega
 refine dg_exit h ?_ hg (by omega)
 have h1 : d * v0 ≤ b * b := Nat.mul_le_mul (by omega) (by omega)
 have h2 : b * b ≤ rest * b := Nat.mul_le_mul_right _ hr
 omega
def DigRel (v1 W Q : Nat) (d rr : Value) : Prop := ∃ dn rn : Nat, d = .int .u64 (dn : Nat) ∧ rr = .int .u64 (rn : Nat) ∧ Hid (dn * v1 + rn = W) ∧ Hid (Q ≤ dn) ∧ rn < 4294967296 ∧ dn ≤ 8589934592
theorem big_digit {W u1 v1 v0 d Q : Nat} (hQ : Q = (W * 4294967296 + u1) / (v1 * 4294967296 + v0)) (hd : 4294967296 ≤ d) (hW : W < v1 * 4294967296 + v0) (hu : u1 < 4294967296) : Q ≤ d - 1 := by
 have := dg_lt_base hW hu
 rw [← hQ] at this; omega
structure Down (v1 W Q dn rn d2 r2 : Nat) : Prop where
 f1 : IntKind.u64.wrap ((dn : Int) - 1) = (d2 : Int)
 f2 : IntKind.u64.wrap ((rn : Int) + (v1 : Int)) = (r2 : Int)
 lt : d2 < dn
 way : (decide ((4294967296 : Int) ≤ (r2 : Int)) = true ∧ Q = d2) ∨ (decide ((4294967296 : Int) ≤ (r2 : Int)) = false ∧ DigRel v1 W Q (.int .u64 (d2 : Nat)) (.int .u64 (r2 : Nat)))
structure Test (v0 u1 dn rn m k z : Nat) : Prop where
 f3 : IntKind.u64.wrap ((dn : Int) * (v0 : Int)) = (m : Int)
 f4 : IntKind.u64.wrap (4294967296 * (rn : Int)) = (k : Int)
 f5 : IntKind.u64.wrap ((k : Int) + (u1 : Int)) = (z : Int)
theorem dig_cases {W u1 v1 v0 Q y2 dn rn : Nat} (hQ : Q = (W * 4294967296 + u1) / (v1 * 4294967296 + v0)) (hV : v1 * 4294967296 + v0 = y2) (hW : W < y2) (hv0 : v0 < 4294967296) (hu : u1 < 4294967296) (hl : 2147483648 ≤ v1) (hh : v1 < 4294967296)
  (hi : dn * v1 + rn = W) (hg : Q ≤ dn) (hr : rn < 4294967296) (hd : dn ≤ 8589934592) :
  (decide ((4294967296 : Int) ≤ (dn : Int)) = true ∧ ∃ d2 r2, Down v1 W Q dn rn d2 r2) ∨
  (decide ((4294967296 : Int) ≤ (dn : Int)) = false ∧ ∃ m k z, Test v0 u1 dn rn m k z ∧ ((decide (z < m) = true ∧ ∃ d2 r2, Down v1 W Q dn rn d2 r2) ∨ (decide (z < m) = false ∧ Q = dn))) := by
 have down : 0 < dn → Q ≤ dn - 1 → ∃ d2 r2, Down v1 W Q dn rn d2 r2 := by
  intro h0 hq
  have hI : (dn - 1) * v1 + (rn + v1) = W := by
   obtain ⟨k, rfl⟩ : ∃ k, dn = k + 1 := ⟨dn - 1, by omega⟩
   rw [Nat.add_mul, Nat.one_mul] at hi
   rw [Nat.add_sub_cancel]; omega
  refine ⟨dn - 1, rn + v1, by rw [IntKind.wrap_u64]; omega, by rw [IntKind.wrap_u64]; omega, by omega, ?_⟩
  by_cases ho : 4294967296 ≤ rn + v1
  ·refine .inl ⟨by simp only [decide_eq_true_eq]; omega, ?_⟩
   rw [hQ]
   exact digit_over hI (by rw [hV]; exact hW) hv0 ho (by rw [← hQ]; exact hq)
  ·exact .inr ⟨by simp only [decide_eq_false_iff_not]; omega, dn - 1, rn + v1, rfl, rfl, hI, hq, by omega, by omega⟩
 by_cases hb : 4294967296 ≤ dn
 ·exact .inl ⟨by simp only [decide_eq_true_eq]; omega, down (by omega) (big_digit hQ hb (by rw [hV]; exact hW) hu)⟩
 ·obtain ⟨m, hm⟩ : ∃ m, m = dn * v0 := ⟨_, rfl⟩
  obtain ⟨k, hk⟩ : ∃ k, k = 4294967296 * rn := ⟨_, rfl⟩
  obtain ⟨z, hz⟩ : ∃ z, z = k + u1 := ⟨_, rfl⟩
  have hmb : m ≤ 18446744065119617025 := by
   have h1 : dn ≤ 4294967295 := by omega
   have h2 : v0 ≤ 4294967295 := by omega
   have h3 := Nat.mul_le_mul h1 h2
   rw [hm]; omega
  have e : ((dn : Int) * (v0 : Int)) = (m : Int) := by rw [hm, Int.natCast_mul]
  have g3 : IntKind.u64.wrap ((dn : Int) * (v0 : Int)) = (m : Int) := by rw [e]; exact u64_in _ (by omega)
  have g4 : IntKind.u64.wrap (4294967296 * (rn : Int)) = (k : Int) := by rw [IntKind.wrap_u64]; omega
  have g5 : IntKind.u64.wrap ((k : Int) + (u1 : Int)) = (z : Int) := by rw [IntKind.wrap_u64]; omega
  refine .inr ⟨by simp only [decide_eq_false_iff_not]; omega, m, k, z, ⟨g3, g4, g5⟩, ?_⟩
  ·have e2 : rn * 4294967296 + u1 = z := by rw [hz, hk, Nat.mul_comm]
   rw [hm]
   by_cases ht : z < dn * v0
   ·refine .inl ⟨by simp only [decide_eq_true_eq]; exact ht, down ?_ ?_⟩
    ·refine Nat.pos_of_ne_zero fun h => ?_
     rw [h, Nat.zero_mul] at ht; omega
    ·rw [hQ]; exact dg_step hi (by rw [e2]; exact ht) (by omega)
   ·refine .inr ⟨by simp only [decide_eq_false_iff_not]; exact ht, ?_⟩
    rw [hQ]; exact dg_exit hi (by rw [e2]; omega) (by rw [← hQ]; exact hg) (by omega)
structure Left (W u1 Q y2 A1 A2 A3 X : Nat) : Prop where
 g1 : IntKind.u64.wrap ((W : Int) * 4294967296) = (A1 : Int)
 g2 : IntKind.u64.wrap ((A1 : Int) + (u1 : Int)) = (A2 : Int)
 g3 : IntKind.u64.wrap ((Q : Int) * (y2 : Int)) = (A3 : Int)
 g4 : IntKind.u64.wrap ((A2 : Int) - (A3 : Int)) = (X : Int)
 gx : X = (W * 4294967296 + u1) % y2
theorem left_words {W u1 Q y2 : Nat} (hQ : Q = (W * 4294967296 + u1) / y2) (h0 : 0 < y2) (hy : y2 < 18446744073709551616) : ∃ A1 A2 A3 X, Left W u1 Q y2 A1 A2 A3 X := by
 obtain ⟨N, hN⟩ : ∃ N, N = W * 4294967296 + u1 := ⟨_, rfl⟩
 rw [← hN] at hQ
 have hdm := Nat.div_add_mod N y2
 rw [← hQ, Nat.mul_comm] at hdm
 have hlt := Nat.mod_lt N h0
 obtain ⟨P, hP⟩ : ∃ P, P = Q * y2 := ⟨_, rfl⟩
 rw [← hP] at hdm
 have e3 : ((Q : Int) * (y2 : Int)) = (P : Int) := by rw [hP, Int.natCast_mul]
 refine ⟨W * 4294967296 % 18446744073709551616, N % 18446744073709551616, P % 18446744073709551616, N % y2, ?_, ?_, ?_, ?_, by rw [hN]⟩
 ·rw [IntKind.wrap_u64]; omega
 ·clear hP hQ hlt hdm e3
  rw [IntKind.wrap_u64]; omega
 ·rw [e3, IntKind.wrap_u64]; omega
 ·clear hP hQ e3 hN
  generalize N % y2 = X at *
  rw [IntKind.wrap_u64]; omega
theorem div_fin {hi lo y s n W t u1 u0 Q Q2 X : Nat} (hP : 0 < 2 ^ n) (hS : 0 < 2 ^ s) (hT : 18446744073709551616 = 2 ^ n * 2 ^ s) (hW : W = hi * 2 ^ s + lo / 2 ^ n) (ht : t = lo * 2 ^ s % 18446744073709551616)
  (hu1 : u1 = t / 4294967296) (hu0 : u0 = t % 4294967296) (hQ : Q = (W * 4294967296 + u1) / (y * 2 ^ s)) (hX : X = (W * 4294967296 + u1) % (y * 2 ^ s)) (hQ2 : Q2 = (X * 4294967296 + u0) / (y * 2 ^ s)) (hy : 0 < y) :
  (hi * 18446744073709551616 + lo) / y = Q * 4294967296 + Q2 ∧ (hi * 18446744073709551616 + lo) % y = (X * 4294967296 + u0) % (y * 2 ^ s) / 2 ^ s := by
 have h1 := shift_words (hi := hi) (lo := lo) hS hT
 rw [← hW, ← ht] at h1
 have h2 : W * 18446744073709551616 + t = (W * 4294967296 + u1) * 4294967296 + u0 := by omega
 rw [h2] at h1
 obtain ⟨b1, b2⟩ := shift_back (N := hi * 18446744073709551616 + lo) (y := y) hS
 have hV : 0 < y * 2 ^ s := Nat.mul_pos hy hS
 obtain ⟨d1, d2⟩ := two_digits (by omega) hV h1
 rw [← hQ, ← hX, ← hQ2] at d1
 rw [← hX] at d2
 exact ⟨by rw [b1, d1], by rw [b2, d2]⟩
theorem shift_facts (y : Nat) (h0 : 0 < y) (h : y < 18446744073709551616) :
  ∃ n, Lib.bitLen y = n ∧ 1 ≤ n ∧ n ≤ 64 ∧ 9223372036854775808 ≤ y * 2 ^ (64 - n) ∧ y * 2 ^ (64 - n) < 18446744073709551616 := by
 obtain ⟨h1, h2, h3⟩ := Lib.bitLenAux_bounds 64 y h (by omega)
 have h4 := Lib.bitLen_le y 64 (Nat.le_refl _) h
 refine ⟨Lib.bitLenAux 64 y, rfl, h1, h4, ?_, ?_⟩
 ·have e : (9223372036854775808 : Nat) = 2 ^ (Lib.bitLenAux 64 y - 1) * 2 ^ (64 - Lib.bitLenAux 64 y) := by
   rw [← Nat.pow_add, show Lib.bitLenAux 64 y - 1 + (64 - Lib.bitLenAux 64 y) = 63 from by have : Lib.bitLenAux 64 y ≤ 64 := h4; omega]
  rw [e]; exact Nat.mul_le_mul_right _ h2
 ·have e : (18446744073709551616 : Nat) = 2 ^ (Lib.bitLenAux 64 y) * 2 ^ (64 - Lib.bitLenAux 64 y) := by
   rw [← Nat.pow_add, show Lib.bitLenAux 64 y + (64 - Lib.bitLenAux 64 y) = 64 from by have : Lib.bitLenAux 64 y ≤ 64 := h4; omega]
  rw [e]; exact Nat.mul_lt_mul_of_pos_right h3 (Nat.pow_pos (by omega))
def Div64Q (hi lo y : Nat) (w : World) (e : Ending) (w' : World) : Prop :=
 e = .returned (.tuple #[.int .u64 ((hi * BB + lo) / y : Nat), .int .u64 ((hi * BB + lo) % y : Nat)]) ∧ w = w'
set_option maxRecDepth 100000 in
set_option maxHeartbeats 2000000 in
theorem div64_some (hi lo y : Nat) (w : World) (hlo : lo < BB) (hhi : hi < y) (hh0 : 0 < hi) (hy : y < BB) :
  Calls Tryz.prog 579 #[.int .u64 (hi : Nat), .int .u64 (lo : Nat), .int .u64 (y : Nat)] w (Div64Q hi lo y w) := by
 have hBB : BB = 18446744073709551616 := rfl
 rw [hBB] at hlo hy
 clear hBB
 have hyz : ((y : Int) == 0) = false := by simp; omega
 have hhz : ((hi : Int) == 0) = false := by simp; omega
 obtain ⟨n, hn, hn1, hn2, hy2l, hy2h⟩ := shift_facts y (by omega) hy
 obtain ⟨s, hs⟩ : ∃ s, s = 64 - n := ⟨_, rfl⟩
 rw [← hs] at hy2l hy2h
 have hs63 : s ≤ 63 := by omega
 have E1 : IntKind.u64.wrap (64 - (n : Int)) = (s : Int) := by rw [IntKind.wrap_u64]; omega
 have E1b : IntKind.u64.wrap (64 - (s : Int)) = (n : Int) := by rw [IntKind.wrap_u64]; omega
 have E2 : min s 64 = s := by omega
 have E2b : min n 64 = n := by omega
 obtain ⟨y2, hy2⟩ : ∃ y2, y2 = y * 2 ^ s := ⟨_, rfl⟩
 have E3 : IntKind.u64.wrap ((y : Int) * 2 ^ s) = (y2 : Int) := by
  have e : ((y : Int) * 2 ^ s) = ((y * 2 ^ s : Nat) : Int) := by rw [Int.natCast_mul, Int.natCast_pow]; rfl
  rw [e, ← hy2]; exact u64_in _ (by rw [hy2]; exact hy2h)
 rw [← hy2] at hy2l hy2h
 obtain ⟨v1, hv1⟩ : ∃ v1, v1 = y2 / 4294967296 := ⟨_, rfl⟩
 have hv1b : 2147483648 ≤ v1 ∧ v1 < 4294967296 := by omega
 have E4 : (y2 : Int) / 4294967296 = (v1 : Int) := by omega
 have hv1z : ((v1 : Int) == 0) = false := by simp; omega
 have hpn : 0 < 2 ^ n := Nat.pow_pos (by omega)
 have hps : 0 < 2 ^ s := Nat.pow_pos (by omega)
 have hT : 18446744073709551616 = 2 ^ n * 2 ^ s := by rw [← Nat.pow_add, show n + s = 64 from by omega]
 have hsl := shift_lt (P := 2 ^ n) (S := 2 ^ s) hpn hT hhi hlo
 rw [← hy2] at hsl
 obtain ⟨a1, ha1⟩ : ∃ a1, a1 = hi * 2 ^ s := ⟨_, rfl⟩
 obtain ⟨b1, hb1⟩ : ∃ b1, b1 = lo / 2 ^ n := ⟨_, rfl⟩
 obtain ⟨W, hW⟩ : ∃ W, W = a1 + b1 := ⟨_, rfl⟩
 rw [← ha1, ← hb1, ← hW] at hsl
 have E5 : IntKind.u64.wrap ((hi : Int) * 2 ^ s) = (a1 : Int) := by
  have e : ((hi : Int) * 2 ^ s) = ((hi * 2 ^ s : Nat) : Int) := by rw [Int.natCast_mul, Int.natCast_pow]; rfl
  rw [e, ← ha1]; exact u64_in _ (by omega)
 have E6 : (lo : Int) / 2 ^ n = (b1 : Int) := by
  have e : (lo : Int) / 2 ^ n = ((lo / 2 ^ n : Nat) : Int) := by rw [Int.natCast_ediv, Int.natCast_pow]; rfl
  rw [e, ← hb1]
 have E7 : bits BinOp.or IntKind.u64 (a1 : Int) (b1 : Int) = (W : Int) := by
  rw [hW]
  refine or_join a1 b1 s (by omega) (by rw [ha1]; exact Nat.mul_mod_left _ _) ?_ (by omega)
  rw [hb1, Nat.div_lt_iff_lt_mul hpn, Nat.mul_comm, ← hT]; exact hlo
 obtain ⟨t, ht⟩ : ∃ t, t = lo * 2 ^ s % 18446744073709551616 := ⟨_, rfl⟩
 have htb : t < 18446744073709551616 := by omega
 have E8 : IntKind.u64.wrap ((lo : Int) * 2 ^ s) = (t : Int) := by
  have e : ((lo : Int) * 2 ^ s) = ((lo * 2 ^ s : Nat) : Int) := by rw [Int.natCast_mul, Int.natCast_pow]; rfl
  rw [e, IntKind.wrap_u64, ht]; rfl
 obtain ⟨u1, hu1⟩ : ∃ u1, u1 = t / 4294967296 := ⟨_, rfl⟩
 obtain ⟨u0, hu0⟩ : ∃ u0, u0 = t % 4294967296 := ⟨_, rfl⟩
 obtain ⟨v0, hv0⟩ : ∃ v0, v0 = y2 % 4294967296 := ⟨_, rfl⟩
 have E9 : (t : Int) / 4294967296 = (u1 : Int) := by omega
 have E10 : bits BinOp.and IntKind.u64 (t : Int) 4294967295 = (u0 : Int) := by rw [hu0]; exact and32 t htb
 have E11 : bits BinOp.and IntKind.u64 (y2 : Int) 4294967295 = (v0 : Int) := by rw [hv0]; exact and32 y2 hy2h
 obtain ⟨q, hq⟩ : ∃ q, q = W / v1 := ⟨_, rfl⟩
 obtain ⟨p, hp⟩ : ∃ p, p = q * v1 := ⟨_, rfl⟩
 obtain ⟨r, hr⟩ : ∃ r, r = W % v1 := ⟨_, rfl⟩
 have hdm : p + r = W := by
  have := Nat.div_add_mod W v1
  rw [← hq, ← hr, Nat.mul_comm, ← hp] at this; exact this
 have hqW : q ≤ W := by rw [hq]; exact Nat.div_le_self _ _
 have E12 : (W : Int) / (v1 : Int) = (q : Int) := by rw [hq]; rfl
 have E12b : IntKind.u64.wrap (q : Int) = (q : Int) := u64_in _ (by omega)
 have E13 : IntKind.u64.wrap ((q : Int) * (v1 : Int)) = (p : Int) := by
  have e : ((q : Int) * (v1 : Int)) = ((q * v1 : Nat) : Int) := by rw [Int.natCast_mul]
  rw [e, ← hp]; exact u64_in _ (by omega)
 have E14 : IntKind.u64.wrap ((W : Int) - (p : Int)) = (r : Int) := by rw [IntKind.wrap_u64]; omega
 have Hha1 := Lib.hid ha1
 have Hhb1 := Lib.hid hb1
 have HhW := Lib.hid hW
 have Hht := Lib.hid ht
 have Hhu1 := Lib.hid hu1
 have Hhu0 := Lib.hid hu0
 have Hhv0 := Lib.hid hv0
 have Hhq := Lib.hid hq
 have Hhp := Lib.hid hp
 have Hhr := Lib.hid hr
 have HhT := Lib.hid hT
 have Hhdm := Lib.hid hdm
 have Hhs := Lib.hid hs
 have Hhy2 := Lib.hid hy2
 have Hhv1 := Lib.hid hv1
 have Hhpn := Lib.hid hpn
 have Hhps := Lib.hid hps
 have Hhn := Lib.hid hn
 clear ha1 hb1 hW ht hu1 hu0 hv0 hq hp hr hT hdm hs hy2 hv1 hpn hps
 go_enter Tryz.func579, Tryz.ntmps579
 go_wp2_with fail
 refine (Tryz.bits_LeadingZeros64 (y : Int) _ (by omega) (by omega)).mono ?_
 rintro e w1 ⟨rfl, rfl⟩
 rw [Int.toNat_natCast, hn]
 obtain ⟨Q, hQ⟩ : ∃ Q, Q = (W * 4294967296 + u1) / (v1 * 4294967296 + v0) := ⟨_, rfl⟩
 have HQ := Lib.hid hQ
 clear hQ
 have hv0b : v0 < 4294967296 := by rw [Hhv0.out]; exact Nat.mod_lt _ (by omega)
 have hu1b : u1 < 4294967296 := by rw [Hhu1.out]; omega
 have HV : Hid (v1 * 4294967296 + v0 = y2) := by show _ = _; rw [Hhv0.out, Hhv1.out]; omega
 have hqb : q ≤ 8589934592 := by
  have h1 := Hhdm.out
  rw [Hhp.out] at h1
  refine Nat.le_of_not_lt fun h2 => ?_
  have h3 : 8589934593 * 2147483648 ≤ q * v1 := Nat.mul_le_mul h2 hv1b.1
  omega
 have hrb : r < 4294967296 := by rw [Hhr.out]; exact Nat.lt_trans (Nat.mod_lt _ (by omega)) hv1b.2
 have HST : Hid (DigRel v1 W Q (.int .u64 (q : Nat)) (.int .u64 (r : Nat))) := ⟨q, r, rfl, rfl, by show _ = _; rw [← Hhp.out]; exact Hhdm.out, by
  show _ ≤ _
  rw [HQ.out, Hhq.out]; exact dg_start hu1b (by omega), hrb, hqb⟩
 obtain ⟨hv1l, hv1h⟩ := hv1b
 go_upto_block 0 with fail
 go_cut [15, 16] (fun d _ wx => d = .int .u64 (Q : Nat) ∧ wx = w1)
 case first =>
  go_wp2_with fail
  have HV1L := Lib.hid hv1l
  have HV1H := Lib.hid hv1h
  have HV0B := Lib.hid hv0b
  have HU1B := Lib.hid hu1b
  have HSL := Lib.hid hsl
  have HQB := Lib.hid hqb
  have HRB := Lib.hid hrb
  have HTB := Lib.hid htb
  have HLO := Lib.hid hlo
  have HY := Lib.hid hy
  have HY2L := Lib.hid hy2l
  have HY2H := Lib.hid hy2h
  have HHI := Lib.hid hhi
  have HQW := Lib.hid hqW
  clear hv1l hv1h hv0b hu1b hsl hqb hrb htb hlo hy hy2l hy2h hhi hqW
  go_loopw [15, 16] (fun d rr wr => DigRel v1 W Q d rr ∧ wr = w1) (fun d _ _ => (intOf d).toNat)
  case atStart => exact ⟨HST.out, rfl⟩
  case round =>
   obtain ⟨⟨dn, rn, rfl, rfl, hi1, hg1, hrn, hdn⟩, rfl⟩ := hrel
   have HRN := Lib.hid hrn
   have HDN := Lib.hid hdn
   clear hrn hdn
   have HC := Lib.hid (dig_cases HQ.out HV.out HSL.out HV0B.out HU1B.out HV1L.out HV1H.out hi1.out hg1.out HRN.out HDN.out)
   rcases HC.out with ⟨t1, d2, r2, hdown⟩ | ⟨t1, m, k, z, htest, ⟨t3, d2, r2, hdown⟩ | ⟨t3, hq⟩⟩
   ·obtain ⟨f1, f2, hlt, ⟨t2, hq⟩ | ⟨t2, hrel⟩⟩ := hdown
    ·have HQ2 := Lib.hid hq
     clear hq hlt
     go_wp2_with fail
     go_meet
     exact ⟨by rw [HQ2.out], rfl⟩
    ·have HR2 := Lib.hid hrel
     clear hrel
     go_wp2_with fail
     have hfin := HR2.out
     first | exact ⟨hfin, by simp [intOf]; omega⟩ | exact ⟨⟨hfin, rfl⟩, by simp [intOf]; omega⟩ | exact ⟨by (repeat apply Exists.intro); first | exact ⟨hfin, rfl⟩ | exact ⟨⟨hfin, rfl⟩, rfl⟩ | exact ⟨hfin, trivial⟩ | exact ⟨⟨hfin, trivial⟩, rfl⟩, by simp [intOf]; omega⟩
   ·obtain ⟨f3, f4, f5⟩ := htest
    obtain ⟨f1, f2, hlt, ⟨t2, hq⟩ | ⟨t2, hrel⟩⟩ := hdown
    ·have HQ2 := Lib.hid hq
     clear hq hlt
     go_wp2_with fail
     go_meet
     exact ⟨by rw [HQ2.out], rfl⟩
    ·have HR2 := Lib.hid hrel
     clear hrel
     go_wp2_with fail
     have hfin := HR2.out
     first | exact ⟨hfin, by simp [intOf]; omega⟩ | exact ⟨⟨hfin, rfl⟩, by simp [intOf]; omega⟩ | exact ⟨by (repeat apply Exists.intro); first | exact ⟨hfin, rfl⟩ | exact ⟨⟨hfin, rfl⟩, rfl⟩ | exact ⟨hfin, trivial⟩ | exact ⟨⟨hfin, trivial⟩, rfl⟩, by simp [intOf]; omega⟩
   ·obtain ⟨f3, f4, f5⟩ := htest
    have HQ2 := Lib.hid hq
    clear hq
    go_wp2_with fail
    go_meet
    exact ⟨by rw [HQ2.out], rfl⟩
 case rest =>
  obtain ⟨rfl, hwc⟩ := hcut
  subst wc
  clear HST
  obtain ⟨A1, A2, A3, X, hL⟩ := left_words (W := W) (u1 := u1) (Q := Q) (y2 := y2) (by rw [HQ.out, HV.out]) (by omega) hy2h
  have HX := Lib.hid hL.gx
  have hXy : X < y2 := by rw [HX.out]; exact Nat.mod_lt _ (by omega)
  obtain ⟨L1, L2, L3, L4, -⟩ := hL
  obtain ⟨q2, hq2⟩ : ∃ q2, q2 = X / v1 := ⟨_, rfl⟩
  obtain ⟨p2, hp2⟩ : ∃ p2, p2 = q2 * v1 := ⟨_, rfl⟩
  obtain ⟨r2, hr2⟩ : ∃ r2, r2 = X % v1 := ⟨_, rfl⟩
  have hdm2 : p2 + r2 = X := by
   have := Nat.div_add_mod X v1
   rw [← hq2, ← hr2, Nat.mul_comm, ← hp2] at this; exact this
  have hqX : q2 ≤ X := by rw [hq2]; exact Nat.div_le_self _ _
  have M12 : (X : Int) / (v1 : Int) = (q2 : Int) := by rw [hq2]; rfl
  have M12b : IntKind.u64.wrap (q2 : Int) = (q2 : Int) := u64_in _ (by omega)
  have M13 : IntKind.u64.wrap ((q2 : Int) * (v1 : Int)) = (p2 : Int) := by
   have e : ((q2 : Int) * (v1 : Int)) = ((q2 * v1 : Nat) : Int) := by rw [Int.natCast_mul]
   rw [e, ← hp2]; exact u64_in _ (by omega)
  have M14 : IntKind.u64.wrap ((X : Int) - (p2 : Int)) = (r2 : Int) := by rw [IntKind.wrap_u64]; omega
  have Hhq2 := Lib.hid hq2
  have Hhp2 := Lib.hid hp2
  have Hhr2 := Lib.hid hr2
  have Hhdm2 := Lib.hid hdm2
  clear hq2 hp2 hr2 hdm2
  obtain ⟨Q2, hQ2⟩ : ∃ Q2, Q2 = (X * 4294967296 + u0) / (v1 * 4294967296 + v0) := ⟨_, rfl⟩
  have HQ2 := Lib.hid hQ2
  have hu0b : u0 < 4294967296 := by rw [Hhu0.out]; exact Nat.mod_lt _ (by omega)
  have hq2b : q2 ≤ 8589934592 := by
   have h1 := Hhdm2.out
   rw [Hhp2.out] at h1
   refine Nat.le_of_not_lt fun h2 => ?_
   have h3 : 8589934593 * 2147483648 ≤ q2 * v1 := Nat.mul_le_mul h2 hv1l
   omega
  have hr2b : r2 < 4294967296 := by rw [Hhr2.out]; exact Nat.lt_trans (Nat.mod_lt _ (by omega)) hv1h
  have HST2 : Hid (DigRel v1 X Q2 (.int .u64 (q2 : Nat)) (.int .u64 (r2 : Nat))) := ⟨q2, r2, rfl, rfl, by show _ = _; rw [← Hhp2.out]; exact Hhdm2.out, by
   show _ ≤ _
   rw [HQ2.out, Hhq2.out]; exact dg_start hu0b (by omega), hr2b, hq2b⟩
  clear hQ2
  go_upto_block 2 with fail
  go_cut [18, 16] (fun d _ wx => d = .int .u64 (Q2 : Nat) ∧ wx = w1)
  case first =>
   go_wp2_with fail
   have HV1L := Lib.hid hv1l
   have HV1H := Lib.hid hv1h
   have HV0B := Lib.hid hv0b
   have HU1B := Lib.hid hu1b
   have HU0B := Lib.hid hu0b
   have HXY := Lib.hid hXy
   clear hv1l hv1h hv0b hu1b hsl hqb hrb htb hlo hy hy2l hy2h hhi hqW hXy hu0b hq2b hr2b hqX
   go_loopw [18, 16] (fun d rr wr => DigRel v1 X Q2 d rr ∧ wr = w1) (fun d _ _ => (intOf d).toNat)
   case atStart => exact ⟨HST2.out, rfl⟩
   case round =>
    obtain ⟨⟨dn, rn, rfl, rfl, hi1, hg1, hrn, hdn⟩, rfl⟩ := hrel
    have HRN := Lib.hid hrn
    have HDN := Lib.hid hdn
    clear hrn hdn
    have HC := Lib.hid (dig_cases HQ2.out HV.out HXY.out HV0B.out HU0B.out HV1L.out HV1H.out hi1.out hg1.out HRN.out HDN.out)
    rcases HC.out with ⟨t1, d2, r2, hdown⟩ | ⟨t1, m, k, z, htest, ⟨t3, d2, r2, hdown⟩ | ⟨t3, hq⟩⟩
    ·obtain ⟨f1, f2, hlt, ⟨t2, hq⟩ | ⟨t2, hrel⟩⟩ := hdown
     ·have HQ3 := Lib.hid hq
      clear hq hlt
      go_wp2_with fail
      go_meet
      exact ⟨by rw [HQ3.out], rfl⟩
     ·have HR2 := Lib.hid hrel
      clear hrel
      go_wp2_with fail
      have hfin := HR2.out
      first | exact ⟨hfin, by simp [intOf]; omega⟩ | exact ⟨⟨hfin, rfl⟩, by simp [intOf]; omega⟩ | exact ⟨by (repeat apply Exists.intro); first | exact ⟨hfin, rfl⟩ | exact ⟨⟨hfin, rfl⟩, rfl⟩ | exact ⟨hfin, trivial⟩ | exact ⟨⟨hfin, trivial⟩, rfl⟩, by simp [intOf]; omega⟩
    ·obtain ⟨f3, f4, f5⟩ := htest
     obtain ⟨f1, f2, hlt, ⟨t2, hq⟩ | ⟨t2, hrel⟩⟩ := hdown
     ·have HQ3 := Lib.hid hq
      clear hq hlt
      go_wp2_with fail
      go_meet
      exact ⟨by rw [HQ3.out], rfl⟩
     ·have HR2 := Lib.hid hrel
      clear hrel
      go_wp2_with fail
      have hfin := HR2.out
      first | exact ⟨hfin, by simp [intOf]; omega⟩ | exact ⟨⟨hfin, rfl⟩, by simp [intOf]; omega⟩ | exact ⟨by (repeat apply Exists.intro); first | exact ⟨hfin, rfl⟩ | exact ⟨⟨hfin, rfl⟩, rfl⟩ | exact ⟨hfin, trivial⟩ | exact ⟨⟨hfin, trivial⟩, rfl⟩, by simp [intOf]; omega⟩
    ·obtain ⟨f3, f4, f5⟩ := htest
     have HQ3 := Lib.hid hq
     clear hq
     go_wp2_with fail
     go_meet
     exact ⟨by rw [HQ3.out], rfl⟩
  case rest =>
   obtain ⟨rfl, hwc⟩ := hcut
   subst wc
   clear HST2
   have hfin := div_fin (hi := hi) (lo := lo) (y := y) (s := s) (n := n) (W := W) (t := t) (u1 := u1) (u0 := u0) (Q := Q) (Q2 := Q2) (X := X) Hhpn.out Hhps.out HhT.out (by rw [HhW.out, Hha1.out, Hhb1.out]) Hht.out Hhu1.out Hhu0.out (by rw [HQ.out, HV.out, Hhy2.out]) (by rw [HX.out, Hhy2.out]) (by rw [HQ2.out, HV.out, Hhy2.out]) (by omega)
   have hZ : (hi * 18446744073709551616 + lo) / y < 18446744073709551616 := by
    rw [Nat.div_lt_iff_lt_mul (by omega)]
    have : (hi + 1) * 18446744073709551616 ≤ y * 18446744073709551616 := Nat.mul_le_mul_right _ hhi
    omega
   obtain ⟨Z, hZ1⟩ : ∃ Z, Z = (hi * 18446744073709551616 + lo) / y := ⟨_, rfl⟩
   rw [← hZ1] at hZ hfin
   obtain ⟨h1, h2⟩ := hfin
   obtain ⟨B1, hB1⟩ : ∃ B1, B1 = Q * 4294967296 := ⟨_, rfl⟩
   have N1 : IntKind.u64.wrap ((Q : Int) * 4294967296) = (B1 : Int) := by
    rw [IntKind.wrap_u64]; omega
   have N2 : IntKind.u64.wrap ((B1 : Int) + (Q2 : Int)) = (Z : Int) := by
    rw [IntKind.wrap_u64]; omega
   obtain ⟨C1, C2, C3, R, hL⟩ := left_words (W := X) (u1 := u0) (Q := Q2) (y2 := y2) (by rw [HQ2.out, HV.out]) (by omega) hy2h
   obtain ⟨O1, O2, O3, O4, hR⟩ := hL
   obtain ⟨rr, hrr⟩ : ∃ rr, rr = R / 2 ^ s := ⟨_, rfl⟩
   have N3 : (R : Int) / 2 ^ s = (rr : Int) := by
    have e : (R : Int) / 2 ^ s = ((R / 2 ^ s : Nat) : Int) := by rw [Int.natCast_ediv, Int.natCast_pow]; rfl
    rw [e, ← hrr]
   have HFin : Hid (Z = (hi * BB + lo) / y ∧ rr = (hi * BB + lo) % y) := by
    refine ⟨hZ1, ?_⟩
    show rr = (hi * 18446744073709551616 + lo) % y
    rw [h2, hrr, hR, Hhy2.out]
   clear hZ1 hB1 hR hrr h1 h2 hZ
   go_wp2_with fail
   go_ret2
   exact ⟨by rw [← HFin.out.1, ← HFin.out.2]; rfl, rfl⟩
theorem div64_q (hi lo y : Nat) (w : World) (hlo : lo < BB) (hhi : hi < y) (hy : y < BB) :
  Calls Tryz.prog 579 #[.int .u64 (hi : Nat), .int .u64 (lo : Nat), .int .u64 (y : Nat)] w (Div64Post hi lo y w) := by
 by_cases h0 : hi = 0
 ·subst h0; exact div64_zero lo y w hlo hhi hy
 ·exact (div64_some hi lo y w hlo hhi (by omega) hy).mono fun e w' ⟨h1, h2⟩ => by subst h2; exact ⟨h1, 0, rfl⟩
theorem div64_any (hi lo y : Nat) (w : World) (hlo : lo < BB) (hhi : hi < y) (hy : y < BB) :
  Calls Tryz.prog 579 #[.int .u64 (hi : Nat), .int .u64 (lo : Nat), .int .u64 (y : Nat)] w fun e w' => e = .returned (.tuple #[.int .u64 ((hi * BB + lo) / y : Nat), .int .u64 ((hi * BB + lo) % y : Nat)]) ∧ Below w.heap.size w w' :=
 (div64_q hi lo y w hlo hhi hy).mono fun e w' ⟨h1, k, h2⟩ => by subst h2; exact ⟨h1, ⟨rfl, rfl, rfl, Nat.le_refl _, fun _ _ => rfl⟩⟩
end Go.Proofs.YtceggplnggkdnaaGreatDoor
namespace Go.Proofs.YtceggplnggkdnaaGreatDoor
open Go.RowKit NatP
theorem make_words (n : Nat) (hn : n ≤ 1099511627776) : ∀ w : World, (Instr.makeSlice 111 (.int .i64 (n : Int)) (.int .i64 (n : Int))).run Tryz.prog w = .ok (.slice (some ⟨w.heap.size, 0, none⟩) n n) (w.alloc (.cells (madeCells #[.int .u64 0] n) 215)) := by
 obtain ⟨i0, hi, hz0, hz1, hz2⟩ := info_parts Tryz.infoW
 intro w
 have hb : (i0.bytes : Int) * (n : Int) ≤ 281474976710656 := by rw [hz2]; omega
 have hr := run_make (P := Tryz.prog) w 111 215 i0 (.int .u64 0) Tryz.underlying111 hi hz0 .i64 .i64 n n (by omega) (Int.le_refl _) hb (by omega)
 simp only [Int.toNat_natCast] at hr
 rw [hr, hz1, Nat.mul_one]
 rfl
theorem below_alloc (w : World) (o : Obj) : Below w.heap.size w (w.alloc o) := (Below.refl _ _).alloc (Nat.le_refl _) o
def OwnPost (xs : List Nat) (w : World) (e : Ending) (w' : World) : Prop := e = .returned (.slice (some ⟨w.heap.size, 0, none⟩) xs.length xs.length) ∧ Blk w' w.heap.size xs ∧ Below w.heap.size w w'
set_option maxRecDepth 100000 in
set_option maxHeartbeats 1000000 in
theorem own_blk (v : Value) (xs : List Nat) (w : World) (hr : Rd w v xs) (hl : xs.length ≤ 1099511627776) :
  Calls Tryz.prog 332 #[v] w (OwnPost (strip xs) w) := by
 have HR := Lib.hid hr
 obtain ⟨ao, cap, rfl, hnc, hcm, hok, hsh⟩ := hr.2
 have hsl := strip_le xs
 have HT := Lib.hid (strip_take xs).1
 have HOK := Lib.hid (ok_strip hok)
 have HSH := Lib.hid hsh
 have HMK := make_words (strip xs).length (by omega)
 clear hsh hcm hok
 go_enter Tryz.func332, Tryz.ntmps332
 go_wp2_with fail
 refine (size_any _ xs _ HR.out).mono ?_
 rintro e w' ⟨rfl, rfl⟩
 generalize hns : (strip xs).length = n at *
 have HN := Lib.hid hns
 clear hns
 have HB := Lib.hid (Blk.made w n).1
 have HBL := Lib.hid (below_alloc w (.cells (madeCells #[.int .u64 0] n) 215))
 have hcl : (ws (strip xs)).length = n := by rw [ws_length, HN.out]
 have HCL := Lib.hid hcl
 have hmin : Nat.min xs.length n = n := Nat.min_eq_right (by omega)
 have HMIN := Lib.hid hmin
 clear hcl hmin
 have HPOS : Hid (0 < (ws (strip xs)).length → ∃ ad, ao = some ad ∧ ∀ (j : Nat) (v : Value), (ws (strip xs))[j]? = some v → (w.alloc (.cells (madeCells #[.int .u64 0] n) 215)).cell? (ad.add j) = some v) := by
  intro h0
  rw [HCL.out] at h0
  obtain ⟨g, o, rfl, _⟩ := HSH.out 0 xs[0] (List.getElem?_eq_getElem (by omega))
  refine ⟨_, rfl, fun j u hu => ?_⟩
  simp only [ws, List.getElem?_map, Option.map_eq_some_iff] at hu
  obtain ⟨x, hx, rfl⟩ := hu
  rw [HT.out, List.getElem?_take] at hx
  split at hx
  ·obtain ⟨g', o', e, hc⟩ := HSH.out j x hx
   cases e
   have hlt := World.block_lt_of_cell? w _ hc
   have e2 : (⟨g, o, none⟩ : Addr).add j = ⟨g, o + j, none⟩ := by unfold Addr.add; split <;> simp_all
   rw [e2, HBL.out.cell (p := ⟨g, o + j, none⟩) hlt]; exact hc
  ·cases hx
 have HFIT : Hid (0 + (ws (strip xs)).length ≤ (ws (List.replicate n 0)).length) := by
  show _ ≤ _
  rw [HCL.out, ws_length, List.length_replicate]; omega
 go_wp2_with ((with_reducible refine wpList_copy_splice (o := ⟨some 11, _, _, _, _, _⟩) rfl (.tmp 9) (.tmp 10) 111 111 rfl 215 Tryz.underlying111 Tryz.infoW1 (some ⟨w.heap.size, 0, none⟩) ao n n xs.length cap rfl rfl w.heap.size 0 (ws (List.replicate n 0)) 215 HB.out (ws (strip xs)) (by rw [HCL.out, HMIN.out]) (fun h => ⟨rfl, HPOS.out h⟩) HFIT.out (ws_one _) w.heap.size w HBL.out (Nat.le_refl _) ?_); intro w2 hg2 hb2)
 have HF : Hid (Blk w2 w.heap.size (strip xs)) := by
  refine ⟨?_, HOK.out⟩
  have h1 := hg2.out
  rw [h1]
  congr 2
  simp only [splice, List.take_zero, List.nil_append, Nat.zero_add]
  rw [HCL.out, List.drop_eq_nil_of_le (by rw [ws_length, List.length_replicate]; omega), List.append_nil]
 have HB2 := Lib.hid hb2
 clear hg2 hb2
 go_wp2_with fail
 go_ret
 exact ⟨by rw [HN.out]; rfl, HF.out, HB2.out⟩
theorem new_of_own {xs : List Nat} {w : World} {e : Ending} {w' : World} (hl : xs.length ≤ 1099511627776) (h : OwnPost xs w e w') : NewPost xs w e w' := by
 obtain ⟨rfl, h2, h3⟩ := h
 refine ⟨_, rfl, ⟨?_, fun k hk => ?_⟩, h3⟩
 ·have := h2.rd (o := 0) (n := xs.length) (c := xs.length) (by omega) (Nat.le_refl _) (by unfold maxLen; omega)
  rw [List.drop_zero, List.take_of_length_le (Nat.le_refl _)] at this
  exact this
 ·cases hk; exact ⟨Nat.le_refl _, h2.lt⟩
theorem own_any (v : Value) (xs : List Nat) (w : World) (hr : Rd w v xs) (hl : xs.length ≤ 1099511627776) :
  Calls Tryz.prog 332 #[v] w (NewPost (strip xs) w) :=
 (own_blk v xs w hr hl).mono fun _ _ h => new_of_own (by have := strip_le xs; omega) h
set_option maxRecDepth 100000 in
set_option maxHeartbeats 1000000 in
theorem least_blk (v : Value) (xs : List Nat) (w : World) (hr : Rd w v xs) (hl : xs.length ≤ 1099511627776) :
  Calls Tryz.prog 183 #[v] w (OwnPost (strip xs) w) := by
 have HR := Lib.hid hr
 clear hr
 go_enter Tryz.func183, Tryz.ntmps183
 go_wp2_with fail
 refine (own_blk _ xs _ HR.out hl).mono ?_
 rintro e w' ⟨rfl, hf, hb⟩
 have HF := Lib.hid hf
 have HB := Lib.hid hb
 clear hf hb
 go_wp2_with fail
 go_ret
 exact ⟨rfl, HF.out, HB.out⟩
set_option maxRecDepth 100000 in
set_option maxHeartbeats 1000000 in
theorem least_any (v : Value) (xs : List Nat) (w : World) (hr : Rd w v xs) (hl : xs.length ≤ 1099511627776) :
  Calls Tryz.prog 183 #[v] w (NewPost (strip xs) w) := by
 have HR := Lib.hid hr
 clear hr
 go_enter Tryz.func183, Tryz.ntmps183
 go_wp2_with fail
 refine (own_any _ xs _ HR.out hl).mono ?_
 rintro e w' ⟨v', rfl, hf, hb⟩
 have HF := Lib.hid hf
 have HB := Lib.hid hb
 clear hf hb
 go_wp2_with fail
 go_ret
 exact ⟨_, rfl, HF.out, HB.out⟩
end Go.Proofs.YtceggplnggkdnaaGreatDoor
