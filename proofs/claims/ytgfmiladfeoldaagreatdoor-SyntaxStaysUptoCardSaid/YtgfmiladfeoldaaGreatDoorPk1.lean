/- Joined texts of this claim's proof: Shelf, LexPure, LexW1, LexMem, LexDec, LexW2, LexW3. -/
import Derived.Shelf.Strings.Builder1
import Derived.Shelf.Strings.Builder2
import Derived.Shelf.Strings.OnBuilder
import Derived.Shelf.Small.Utf8
import Derived.Shelf.Small.Bits
import Derived.Shelf.Small.Strs
import Derived.Shelf.Strings.BuilderF
import Derived.Shelf.Strings.BuilderK
import Derived.Shelf.Strings.Builder2Cap
import Derived.Shelf.Strconv.Itoa0
import Derived.Shelf.Strconv.Itoa1
import Derived.Shelf.LaysM
import Derived.Shelf.Strconv.Itoa2
import Derived.Shelf.Strconv.Itoa3
import Derived.Shelf.Strings.Search1
import Derived.Shelf.Strings.Search2
import Derived.Shelf.Strings.Search3
import Derived.Shelf.Strings.Shaped
import Derived.Shelf.Strings.Prefix
import Derived.Shelf.Strings.Runes
import Derived.Shelf.Bits.Mul64
import Derived.Shelf.Strings.BuilderCap
import Derived.Shelf.Slices.Equal
import Derived.Shelf.Slices.Empties2
import Derived.Test.YtgfmiladfeoldaaGreatDoorProg
import Derived.Lib.IndexMore
import Derived.WalkKit
import Derived.WalkSpells
import Derived.WalkLawsBesides
import Derived.Lib.Hide
import Derived.WalkSmall
import Derived.Lib.OthersKept
import Derived.BigQuiet
import Derived.Deep.QuietTactic
set_option linter.unusedSimpArgs false
set_option linter.unusedVariables false
namespace Go.Proofs
open Go.Shelf
def Tryz.lays156_ren : Go.Shelf.Ren := ⟨fun | 156 => 123 | 165 => 172 | 166 => 105 | 169 => 52 | 240 => 165 | 241 => 218 | 276 => 212 | 277 => 240 | n => n, fun | 31 => 105 | 9 => 9 | 3 => 3 | 4 => 4 | 0 => 0 | 20 => 20 | 72 => 90 | 76 => 141 | 70 => 87 | 37 => 88 | 75 => 139 | 127 => 145 | 164 => 210 | 5 => 5 | 80 => 94 | n => n, fun | n => n⟩
theorem Tryz.lays156 : Go.Proofs.Lays.n156 Tryz.prog Tryz.lays156_ren := {
 mixed := by kernel_rfl
 f156 := Tryz.func123.trans (congrArg some (by kernel_rfl))
 f165 := Tryz.func172.trans (congrArg some (by kernel_rfl))
 f166 := Tryz.func105.trans (congrArg some (by kernel_rfl))
 f169 := Tryz.func52.trans (congrArg some (by kernel_rfl))
 f240 := Tryz.func165.trans (congrArg some (by kernel_rfl))
 f241 := Tryz.func218.trans (congrArg some (by kernel_rfl))
 f276 := Tryz.func212.trans (congrArg some (by kernel_rfl))
 f277 := Tryz.func240.trans (congrArg some (by kernel_rfl))
 t0 := Tryz.underlying0
 a0 := Tryz.isAgg0
 z0 := Tryz.sizeOf0
 v0 := Tryz.zeroValue0
 t3 := Tryz.underlying3
 a3 := Tryz.isAgg3
 z3 := Tryz.sizeOf3
 v3 := Tryz.zeroValue3
 t4 := Tryz.underlying4
 a4 := Tryz.isAgg4
 z4 := Tryz.sizeOf4
 v4 := Tryz.zeroValue4
 t9 := Tryz.underlying9
 a9 := Tryz.isAgg9
 z9 := Tryz.sizeOf9
 v9 := Tryz.zeroValue9
 t20 := Tryz.underlying20
 a20 := Tryz.isAgg20
 z20 := Tryz.sizeOf20
 v20 := Tryz.zeroValue20
 t31 := Tryz.underlying105
 a31 := Tryz.isAgg105
 z31 := Tryz.sizeOf105
 v31 := Tryz.zeroValue105
 t37 := Tryz.underlying88
 a37 := Tryz.isAgg88
 z37 := Tryz.sizeOf88
 v37 := Tryz.zeroValue88
 t70 := Tryz.underlying87
 a70 := Tryz.isAgg87
 z70 := Tryz.sizeOf87
 v70 := Tryz.zeroValue87
 t72 := Tryz.underlying90
 a72 := Tryz.isAgg90
 z72 := Tryz.sizeOf90
 v72 := Tryz.zeroValue90
 t75 := Tryz.underlying139
 a75 := Tryz.isAgg139
 z75 := Tryz.sizeOf139
 v75 := Tryz.zeroValue139
 t76 := Tryz.underlying141
 a76 := Tryz.isAgg141
 z76 := Tryz.sizeOf141
 v76 := Tryz.zeroValue141
 t127 := Tryz.underlying145
 a127 := Tryz.isAgg145
 z127 := Tryz.sizeOf145
 v127 := Tryz.zeroValue145
 t164 := Tryz.underlying210
 a164 := Tryz.isAgg210
 z164 := Tryz.sizeOf210
 v164 := Tryz.zeroValue210 }
theorem Tryz.Builder_Extra_156 : Builder.Extra Tryz.prog Tryz.lays156_ren := {
 sizeBuilder := by kernel_rfl
 liesBuilder := by kernel_rfl
 t5 := Tryz.underlying5
 a5 := Tryz.isAgg5
 z5 := Tryz.sizeOf5
 v5 := Tryz.zeroValue5
 infoByte := by kernel_rfl
 cellsByte := by kernel_rfl
 sizeByte := by kernel_rfl
 neB5 := by decide }
open Go.RowKit in
theorem Tryz.strings_Join_none (a : Option Addr) (c : Nat) (sep : ByteArray) (w : World) :
  Calls Tryz.prog 123 #[.slice a 0 c, .string sep] w fun e w' => e = .returned (.string ⟨#[]⟩) ∧ w' = w := Any.strings_Join_none Tryz.lays156 Tryz.Builder_Extra_156 a c sep w
open Go.RowKit in
theorem Tryz.strings_Join (bk o c : Nat) (xs : List ByteArray) (sep : ByteArray) (w : World) (hcells : ∀ (j : Nat) x, xs[j]? = some x → w.cell? ⟨bk, o + j, none⟩ = some (.string x)) (hbk : bk < w.heap.size) (hN : xs.length ≤ 140737488355328) (hcap : xs.length ≤ c) (hlen : (Lib.join (xs.map (·.data.toList)) sep.data.toList).length ≤ 140737488355328) :
  Calls Tryz.prog 123 #[.slice (some ⟨bk, o, none⟩) xs.length c, .string sep] w fun e w' => e = .returned (.string ⟨(Lib.join (xs.map (·.data.toList)) sep.data.toList).toArray⟩) ∧ Below w.heap.size w w' := Any.strings_Join Tryz.lays156 Tryz.Builder_Extra_156 bk o c xs sep w hcells hbk hN hcap hlen
def Tryz.lays134_ren : Go.Shelf.Ren := ⟨fun | 134 => 278 | 129 => 116 | n => n, fun | 53 => 101 | 3 => 3 | 4 => 4 | 46 => 188 | 5 => 5 | 9 => 9 | n => n, fun | n => n⟩
theorem Tryz.lays134 : Go.Proofs.Lays.n134 Tryz.prog Tryz.lays134_ren := {
 mixed := by kernel_rfl
 f129 := Tryz.func116.trans (congrArg some (by kernel_rfl))
 f134 := Tryz.func278.trans (congrArg some (by kernel_rfl))
 t3 := Tryz.underlying3
 a3 := Tryz.isAgg3
 z3 := Tryz.sizeOf3
 v3 := Tryz.zeroValue3
 t4 := Tryz.underlying4
 a4 := Tryz.isAgg4
 z4 := Tryz.sizeOf4
 v4 := Tryz.zeroValue4
 t5 := Tryz.underlying5
 a5 := Tryz.isAgg5
 z5 := Tryz.sizeOf5
 v5 := Tryz.zeroValue5
 t9 := Tryz.underlying9
 a9 := Tryz.isAgg9
 z9 := Tryz.sizeOf9
 v9 := Tryz.zeroValue9
 t46 := Tryz.underlying188
 a46 := Tryz.isAgg188
 z46 := Tryz.sizeOf188
 v46 := Tryz.zeroValue188
 t53 := Tryz.underlying101
 a53 := Tryz.isAgg101
 z53 := Tryz.sizeOf101
 v53 := Tryz.zeroValue101 }
theorem Tryz.bits_LeadingZeros64 (x : Int) (w : World) (h0 : 0 ≤ x) (h1 : x ≤ 18446744073709551615) :
  Calls Tryz.prog 278 #[.int .u64 x] w fun e w' => e = .returned (.int .i64 (64 - (Lib.bitLen x.toNat : Int))) ∧ w' = w := Any.bits_LeadingZeros64 Tryz.lays134 x w h0 h1
def Tryz.lays129_ren : Go.Shelf.Ren := ⟨fun | 129 => 116 | n => n, fun | 53 => 101 | 3 => 3 | 4 => 4 | 46 => 188 | 5 => 5 | 9 => 9 | n => n, fun | n => n⟩
theorem Tryz.lays129 : Go.Proofs.Lays.n129 Tryz.prog Tryz.lays129_ren := {
 mixed := by kernel_rfl
 f129 := Tryz.func116.trans (congrArg some (by kernel_rfl))
 t3 := Tryz.underlying3
 a3 := Tryz.isAgg3
 z3 := Tryz.sizeOf3
 v3 := Tryz.zeroValue3
 t4 := Tryz.underlying4
 a4 := Tryz.isAgg4
 z4 := Tryz.sizeOf4
 v4 := Tryz.zeroValue4
 t5 := Tryz.underlying5
 a5 := Tryz.isAgg5
 z5 := Tryz.sizeOf5
 v5 := Tryz.zeroValue5
 t9 := Tryz.underlying9
 a9 := Tryz.isAgg9
 z9 := Tryz.sizeOf9
 v9 := Tryz.zeroValue9
 t46 := Tryz.underlying188
 a46 := Tryz.isAgg188
 z46 := Tryz.sizeOf188
 v46 := Tryz.zeroValue188
 t53 := Tryz.underlying101
 a53 := Tryz.isAgg101
 z53 := Tryz.sizeOf101
 v53 := Tryz.zeroValue101 }
theorem Tryz.bits_Len64 (x : Int) (w : World) (h0 : 0 ≤ x) (h1 : x ≤ 18446744073709551615) :
  Calls Tryz.prog 116 #[.int .u64 x] w fun e w' => e = .returned (.int .i64 (Lib.bitLen x.toNat)) ∧ w' = w := Any.bits_Len64 Tryz.lays129 x w h0 h1
def Tryz.lays219_ren : Go.Shelf.Ren := ⟨fun | 219 => 250 | 217 => 265 | 225 => 264 | 224 => 263 | 267 => 266 | 266 => 284 | 314 => 285 | n => n, fun | 9 => 9 | 3 => 3 | 4 => 4 | 5 => 5 | 46 => 188 | 146 => 263 | 51 => 222 | n => n, fun | 1 => 1 | n => n⟩
def Tryz.lays144_ren : Go.Shelf.Ren := ⟨fun | 144 => 205 | 143 => 234 | 219 => 250 | 217 => 265 | 225 => 264 | 224 => 263 | 267 => 266 | 266 => 284 | 314 => 285 | n => n, fun | 9 => 9 | 4 => 4 | 3 => 3 | 5 => 5 | 46 => 188 | 146 => 263 | 51 => 222 | n => n, fun | 1 => 1 | n => n⟩
theorem Tryz.lays144 : Go.Proofs.Lays.n144 Tryz.prog Tryz.lays144_ren := {
 mixed := by kernel_rfl
 f143 := Tryz.func234.trans (congrArg some (by kernel_rfl))
 f144 := Tryz.func205.trans (congrArg some (by kernel_rfl))
 f217 := Tryz.func265.trans (congrArg some (by kernel_rfl))
 f219 := Tryz.func250.trans (congrArg some (by kernel_rfl))
 f224 := Tryz.func263.trans (congrArg some (by kernel_rfl))
 f225 := Tryz.func264.trans (congrArg some (by kernel_rfl))
 f266 := Tryz.func284.trans (congrArg some (by kernel_rfl))
 f267 := Tryz.func266.trans (congrArg some (by kernel_rfl))
 f314 := Tryz.func285.trans (congrArg some (by kernel_rfl))
 t3 := Tryz.underlying3
 a3 := Tryz.isAgg3
 z3 := Tryz.sizeOf3
 v3 := Tryz.zeroValue3
 t4 := Tryz.underlying4
 a4 := Tryz.isAgg4
 z4 := Tryz.sizeOf4
 v4 := Tryz.zeroValue4
 t5 := Tryz.underlying5
 a5 := Tryz.isAgg5
 z5 := Tryz.sizeOf5
 v5 := Tryz.zeroValue5
 t9 := Tryz.underlying9
 a9 := Tryz.isAgg9
 z9 := Tryz.sizeOf9
 v9 := Tryz.zeroValue9
 t46 := Tryz.underlying188
 a46 := Tryz.isAgg188
 z46 := Tryz.sizeOf188
 v46 := Tryz.zeroValue188
 t51 := Tryz.underlying222
 a51 := Tryz.isAgg222
 z51 := Tryz.sizeOf222
 v51 := Tryz.zeroValue222
 t146 := Tryz.underlying263
 a146 := Tryz.isAgg263
 z146 := Tryz.sizeOf263
 v146 := Tryz.zeroValue263
 g1 := by kernel_rfl }
open Go.RowKit Go.Lib in
theorem Tryz.strings_Contains (s sub : ByteArray) (m : Int) (w : World) (hs : s.size < 4294967281) (hm : w.cell? ⟨1, 0, none⟩ = some (.int .i64 m)) :
  Calls Tryz.prog 205 #[.string s, .string sub] w fun e w' => e = .returned (.bool (Lib.contains s.data.toList sub.data.toList)) ∧ w' = w := Any.strings_Contains Tryz.lays144 s sub m w hs hm
def Tryz.lays206_ren : Go.Shelf.Ren := ⟨fun | 206 => 232 | n => n, fun | 9 => 9 | 4 => 4 | 3 => 3 | n => n, fun | n => n⟩
def Tryz.lays99_ren : Go.Shelf.Ren := ⟨fun | 99 => 201 | 206 => 232 | n => n, fun | 9 => 9 | 4 => 4 | 3 => 3 | n => n, fun | n => n⟩
theorem Tryz.lays99 : Go.Proofs.Lays.n99 Tryz.prog Tryz.lays99_ren := {
 mixed := by kernel_rfl
 f99 := Tryz.func201.trans (congrArg some (by kernel_rfl))
 f206 := Tryz.func232.trans (congrArg some (by kernel_rfl))
 t3 := Tryz.underlying3
 a3 := Tryz.isAgg3
 z3 := Tryz.sizeOf3
 v3 := Tryz.zeroValue3
 t4 := Tryz.underlying4
 a4 := Tryz.isAgg4
 z4 := Tryz.sizeOf4
 v4 := Tryz.zeroValue4
 t9 := Tryz.underlying9
 a9 := Tryz.isAgg9
 z9 := Tryz.sizeOf9
 v9 := Tryz.zeroValue9 }
open Go.RowKit Go.Lib in
theorem Tryz.strings_HasPrefix (s p : ByteArray) (w : World) :
  Calls Tryz.prog 201 #[.string s, .string p] w fun e w' => e = .returned (.bool (Lib.hasPrefix s.data.toList p.data.toList)) ∧ w' = w := Any.strings_HasPrefix Tryz.lays99 s p w
def Tryz.lays100_ren : Go.Shelf.Ren := ⟨fun | 100 => 204 | 207 => 233 | n => n, fun | 9 => 9 | 4 => 4 | 3 => 3 | n => n, fun | n => n⟩
theorem Tryz.lays100 : Go.Proofs.Lays.n100 Tryz.prog Tryz.lays100_ren := {
 mixed := by kernel_rfl
 f100 := Tryz.func204.trans (congrArg some (by kernel_rfl))
 f207 := Tryz.func233.trans (congrArg some (by kernel_rfl))
 t3 := Tryz.underlying3
 a3 := Tryz.isAgg3
 z3 := Tryz.sizeOf3
 v3 := Tryz.zeroValue3
 t4 := Tryz.underlying4
 a4 := Tryz.isAgg4
 z4 := Tryz.sizeOf4
 v4 := Tryz.zeroValue4
 t9 := Tryz.underlying9
 a9 := Tryz.isAgg9
 z9 := Tryz.sizeOf9
 v9 := Tryz.zeroValue9 }
open Go.RowKit Go.Lib in
theorem Tryz.strings_HasSuffix (s p : ByteArray) (w : World) (hs : s.size ≤ 9223372036854775807) :
  Calls Tryz.prog 204 #[.string s, .string p] w fun e w' => e = .returned (.bool (Lib.hasSuffix s.data.toList p.data.toList)) ∧ w' = w := Any.strings_HasSuffix Tryz.lays100 s p w hs
def Tryz.lays151_ren : Go.Shelf.Ren := ⟨fun | 151 => 231 | 152 => 249 | 137 => 261 | 119 => 262 | 224 => 263 | 225 => 264 | 217 => 265 | 266 => 284 | n => n, fun | 9 => 9 | 21 => 21 | 4 => 4 | 3 => 3 | 5 => 5 | 0 => 0 | 46 => 188 | n => n, fun | n => n⟩
theorem Tryz.lays151 : Go.Proofs.Lays.n151 Tryz.prog Tryz.lays151_ren := {
 mixed := by kernel_rfl
 f119 := Tryz.func262.trans (congrArg some (by kernel_rfl))
 f137 := Tryz.func261.trans (congrArg some (by kernel_rfl))
 f151 := Tryz.func231.trans (congrArg some (by kernel_rfl))
 f152 := Tryz.func249.trans (congrArg some (by kernel_rfl))
 f217 := Tryz.func265.trans (congrArg some (by kernel_rfl))
 f224 := Tryz.func263.trans (congrArg some (by kernel_rfl))
 f225 := Tryz.func264.trans (congrArg some (by kernel_rfl))
 f266 := Tryz.func284.trans (congrArg some (by kernel_rfl))
 t0 := Tryz.underlying0
 a0 := Tryz.isAgg0
 z0 := Tryz.sizeOf0
 v0 := Tryz.zeroValue0
 t3 := Tryz.underlying3
 a3 := Tryz.isAgg3
 z3 := Tryz.sizeOf3
 v3 := Tryz.zeroValue3
 t4 := Tryz.underlying4
 a4 := Tryz.isAgg4
 z4 := Tryz.sizeOf4
 v4 := Tryz.zeroValue4
 t5 := Tryz.underlying5
 a5 := Tryz.isAgg5
 z5 := Tryz.sizeOf5
 v5 := Tryz.zeroValue5
 t9 := Tryz.underlying9
 a9 := Tryz.isAgg9
 z9 := Tryz.sizeOf9
 v9 := Tryz.zeroValue9
 t21 := Tryz.underlying21
 a21 := Tryz.isAgg21
 z21 := Tryz.sizeOf21
 v21 := Tryz.zeroValue21
 t46 := Tryz.underlying188
 a46 := Tryz.isAgg188
 z46 := Tryz.sizeOf188
 v46 := Tryz.zeroValue188 }
open Go.RowKit Go.Lib in
theorem Tryz.strings_ContainsRune_ascii (s : ByteArray) (r : Int) (w : World) (h0 : 0 ≤ r) (h1 : r < 128) :
  Calls Tryz.prog 231 #[.string s, .int .i32 r] w fun e w' => e = .returned (.bool (decide (0 ≤ Lib.indexByte s.data.toList r.toNat.toUInt8))) ∧ w' = w := Any.strings_ContainsRune_ascii Tryz.lays151 s r w h0 h1
def Tryz.lays264_ren : Go.Shelf.Ren := ⟨fun | 264 => 287 | n => n, fun | 53 => 101 | 46 => 188 | n => n, fun | n => n⟩
theorem Tryz.lays264 : Go.Proofs.Lays.n264 Tryz.prog Tryz.lays264_ren := {
 mixed := by kernel_rfl
 f264 := Tryz.func287.trans (congrArg some (by kernel_rfl))
 t46 := Tryz.underlying188
 a46 := Tryz.isAgg188
 z46 := Tryz.sizeOf188
 v46 := Tryz.zeroValue188
 t53 := Tryz.underlying101
 a53 := Tryz.isAgg101
 z53 := Tryz.sizeOf101
 v53 := Tryz.zeroValue101 }
open Go.RowKit Go.Lib in
theorem Tryz.bits_Mul64 (x y : Nat) (hx : x < 18446744073709551616) (hy : y < 18446744073709551616) (w : World) :
  Calls Tryz.prog 287 #[.int .u64 x, .int .u64 y] w fun e w' => e = .returned (.tuple #[.int .u64 ((x * y / 18446744073709551616 : Nat) : Int), .int .u64 ((x * y % 18446744073709551616 : Nat) : Int)]) ∧ w' = w := Any.bits_Mul64 Tryz.lays264 x y hx hy w
def Tryz.lays111_ren : Go.Shelf.Ren := ⟨fun | 111 => 102 | n => n, fun | 28 => 41 | 3 => 3 | 4 => 4 | 0 => 0 | n => n, fun | n => n⟩
theorem Tryz.lays111 : Go.Proofs.Lays.n111 Tryz.prog Tryz.lays111_ren := {
 mixed := by kernel_rfl
 f111 := Tryz.func102.trans (congrArg some (by kernel_rfl))
 t0 := Tryz.underlying0
 a0 := Tryz.isAgg0
 z0 := Tryz.sizeOf0
 v0 := Tryz.zeroValue0
 t3 := Tryz.underlying3
 a3 := Tryz.isAgg3
 z3 := Tryz.sizeOf3
 v3 := Tryz.zeroValue3
 t4 := Tryz.underlying4
 a4 := Tryz.isAgg4
 z4 := Tryz.sizeOf4
 v4 := Tryz.zeroValue4
 t28 := Tryz.underlying41
 a28 := Tryz.isAgg41
 z28 := Tryz.sizeOf41
 v28 := Tryz.zeroValue41 }
open Go.RowKit Go.Lib in
theorem Tryz.slices_Equal_int (b1 o1 n c b2 o2 m d : Nat) (xs ys : List Int) (w : World) (hx : n ≤ xs.length) (hy : m ≤ ys.length) (hbig : n ≤ 9223372036854775807) (hbig2 : m ≤ 9223372036854775807) (hc1 : ∀ j, j < xs.length → w.cell? ⟨b1, o1 + j, none⟩ = some (.int .i64 (xs.getD j 0))) (hc2 : ∀ j, j < ys.length → w.cell? ⟨b2, o2 + j, none⟩ = some (.int .i64 (ys.getD j 0))) :
  Calls Tryz.prog 102 #[.slice (some ⟨b1, o1, none⟩) n c, .slice (some ⟨b2, o2, none⟩) m d] w fun e w' => e = .returned (.bool (xs.take n == ys.take m)) ∧ ∃ q, w' = w.drewN q := Any.slices_Equal_int Tryz.lays111 b1 o1 n c b2 o2 m d xs ys w hx hy hbig hbig2 hc1 hc2
open Go.RowKit Go.Lib in
theorem Tryz.slices_Equal_int_empty (a1 a2 : Option Addr) (c m d : Nat) (w : World) (hbig2 : m ≤ 9223372036854775807) :
  Calls Tryz.prog 102 #[.slice a1 0 c, .slice a2 m d] w fun e w' => e = .returned (.bool (decide (m = 0))) ∧ w' = w := Any.slices_Equal_int_empty Tryz.lays111 a1 a2 c m d w hbig2
end Go.Proofs
namespace LexP
abbrev Bytes := List UInt8
abbrev C := Option Nat × Bytes
abbrev Tok := Nat × Bytes × Nat
def okRune (v : Nat) : Bool := v < 0xD800 || (0xE000 ≤ v && v ≤ 0x10FFFF)
def isCont (b : UInt8) : Bool := b.toNat / 64 == 2
def dec : Bytes → Option (Nat × Nat)
 | [] => none
 | b :: t =>
  if b.toNat < 0x80 then some (b.toNat, 1)
  else if b.toNat / 32 = 6 then
   match t with
   | c :: _ => if isCont c && 0x80 ≤ (b.toNat % 32) * 64 + c.toNat % 64 then some ((b.toNat % 32) * 64 + c.toNat % 64, 2) else none
   | _ => none
  else if b.toNat / 16 = 14 then
   match t with
   | c :: d :: _ =>
    if isCont c && isCont d && 0x800 ≤ (b.toNat % 16) * 4096 + (c.toNat % 64) * 64 + d.toNat % 64 && okRune ((b.toNat % 16) * 4096 + (c.toNat % 64) * 64 + d.toNat % 64)
    then some ((b.toNat % 16) * 4096 + (c.toNat % 64) * 64 + d.toNat % 64, 3) else none
   | _ => none
  else if b.toNat / 8 = 30 then
   match t with
   | c :: d :: f :: _ =>
    if isCont c && isCont d && isCont f && 0x10000 ≤ (b.toNat % 8) * 262144 + (c.toNat % 64) * 4096 + (d.toNat % 64) * 64 + f.toNat % 64 && okRune ((b.toNat % 8) * 262144 + (c.toNat % 64) * 4096 + (d.toNat % 64) * 64 + f.toNat % 64)
    then some ((b.toNat % 8) * 262144 + (c.toNat % 64) * 4096 + (d.toNat % 64) * 64 + f.toNat % 64, 4) else none
   | _ => none
  else none
theorem dec_width {l : Bytes} {v n : Nat} (h : dec l = some (v, n)) : 1 ≤ n ∧ n ≤ l.length ∧ n ≤ 4 := by
 unfold dec at h
 split at h
 ·cases h
 ·rename_i b t
  split at h
  ·cases h; simp
  split at h
  ·split at h
   ·split at h <;> simp at h; obtain ⟨_, rfl⟩ := h; simp
   ·cases h
  split at h
  ·split at h
   ·split at h <;> simp at h; obtain ⟨_, rfl⟩ := h; simp
   ·cases h
  split at h
  ·split at h
   ·split at h <;> simp at h; obtain ⟨_, rfl⟩ := h; simp
   ·cases h
  ·cases h
theorem dec_le {l : Bytes} {v n : Nat} (h : dec l = some (v, n)) : v ≤ 0x10FFFF := by
 unfold dec at h
 split at h
 ·cases h
 ·rename_i b t
  split at h
  ·cases h; omega
  split at h
  ·split at h
   ·split at h <;> simp at h; omega
   ·cases h
  split at h
  ·split at h
   ·split at h <;> simp at h; omega
   ·cases h
  split at h
  ·split at h
   ·split at h
    ·rename_i hc
     simp only [Bool.and_eq_true, okRune, Bool.or_eq_true, decide_eq_true_eq] at hc
     simp at h; omega
    ·cases h
   ·cases h
  ·cases h
def chop : Nat → Bytes → List C
 | 0, _ => []
 | _, [] => []
 | n + 1, b :: t =>
  match dec (b :: t) with
  | some (v, k) => (some v, (b :: t).take k) :: chop n ((b :: t).drop k)
  | none => (none, [b]) :: chop n t
def chars (l : Bytes) : List C := chop l.length l
theorem chop_more : ∀ (n : Nat) (l : Bytes), l.length ≤ n → chop n l = chop l.length l := by
 intro n
 induction n using Nat.strongRecOn with
 | ind n ih =>
  intro l hl
  cases l with
  | nil => cases n <;> rfl
  | cons b t =>
   cases n with
   | zero => simp at hl
   | succ n =>
    simp only [List.length_cons, chop]
    simp only [List.length_cons] at hl
    cases hd : dec (b :: t) with
    | none =>
     simp only
     rw [ih n (by omega) t (by omega)]
    | some p =>
     obtain ⟨v, k⟩ := p
     simp only
     have hk := dec_width hd
     have hdl : ((b :: t).drop k).length = t.length + 1 - k := by simp
     rw [ih n (by omega) _ (by rw [hdl]; omega)]
     by_cases hnt : t.length = n
     ·rw [hnt, ih n (by omega) _ (by rw [hdl]; omega)]
     ·rw [ih t.length (by omega) _ (by rw [hdl]; omega)]
theorem chars_nil : chars [] = [] := rfl
theorem chars_some {l : Bytes} {v k : Nat} (h : dec l = some (v, k)) : chars l = (some v, l.take k) :: chars (l.drop k) := by
 cases l with
 | nil => cases h
 | cons b t =>
  have hk := dec_width h
  unfold chars
  simp only [List.length_cons, chop, h]
  rw [chop_more t.length _ (by simp; omega)]
theorem chars_none {b : UInt8} {t : Bytes} (h : dec (b :: t) = none) : chars (b :: t) = (none, [b]) :: chars t := by
 unfold chars
 simp only [List.length_cons, chop, h]
def wid (l : Bytes) : Nat := match dec l with | some (_, k) => k | none => 1
def val (l : Bytes) : Option Nat := (dec l).map (·.1)
theorem wid_pos (l : Bytes) : 1 ≤ wid l := by
 unfold wid
 cases h : dec l with
 | none => simp
 | some p => obtain ⟨v, k⟩ := p; have := dec_width h; simp; omega
theorem wid_le {l : Bytes} (hl : l ≠ []) : wid l ≤ l.length := by
 unfold wid
 cases h : dec l with
 | none => cases l with | nil => exact absurd rfl hl | cons b t => simp
 | some p => obtain ⟨v, k⟩ := p; have := dec_width h; simp; omega
theorem chars_cons {l : Bytes} (hl : l ≠ []) : chars l = (val l, l.take (wid l)) :: chars (l.drop (wid l)) := by
 cases h : dec l with
 | none =>
  cases l with
  | nil => exact absurd rfl hl
  | cons b t => rw [chars_none h]; simp [val, wid, h]
 | some p => obtain ⟨v, k⟩ := p; rw [chars_some h]; simp [val, wid, h]
theorem chars_ind {P : Bytes → Prop} (h0 : P []) (h1 : ∀ l, l ≠ [] → P (l.drop (wid l)) → P l) : ∀ l, P l := by
 intro l
 have : ∀ n (l : Bytes), l.length ≤ n → P l := by
  intro n
  induction n with
  | zero => intro l hl; cases l with | nil => exact h0 | cons _ _ => simp at hl
  | succ n ih =>
   intro l hl
   by_cases he : l = []
   ·rw [he]; exact h0
   ·refine h1 l he (ih _ ?_)
    have := wid_pos l
    have := wid_le he
    simp only [List.length_drop]; omega
 exact this _ l (Nat.le_refl _)
theorem chars_len : ∀ l : Bytes, (chars l).length ≤ l.length := by
 apply chars_ind
 ·simp [chars_nil]
 ·intro l hl ih
  rw [chars_cons hl]
  have := wid_pos l
  have := wid_le hl
  simp only [List.length_cons, List.length_drop] at ih ⊢
  omega
def bytesOf (cs : List C) : Bytes := cs.flatMap (·.2)
theorem bytesOf_chars : ∀ l : Bytes, bytesOf (chars l) = l := by
 apply chars_ind
 ·rfl
 ·intro l hl ih
  rw [chars_cons hl]
  simp only [bytesOf, List.flatMap_cons] at ih ⊢
  rw [ih, List.take_append_drop]
def kindOf (r : Nat) : Nat :=
 if r = 32 ∨ r = 9 ∨ r = 0xa0 then 1
 else if r = 35 then 2
 else if 48 ≤ r ∧ r ≤ 57 then 3
 else if (97 ≤ r ∧ r ≤ 122) ∨ (65 ≤ r ∧ r ≤ 90) ∨ r = 95 then 4
 else if r = 0x2212 ∨ r = 0xd7 then 5
 else if (0xc0 ≤ r ∧ r ≤ 0x2af ∧ r ≠ 0xf7) ∨ (0x370 ≤ r ∧ r ≤ 0x3ff) then 4
 else if r < 0x80 ∧ (r.toUInt8 ∈ ([43, 45, 42, 94, 39, 40, 41, 91, 93, 123, 125, 44, 59, 58, 61] : Bytes)) then 5
 else 6
def kd (c : C) : Nat := match c.1 with | some v => kindOf v | none => 0
def rn (c : C) : Nat := match c.1 with | some v => v | none => 0xFFFD
theorem kindOf_pos (r : Nat) : 1 ≤ kindOf r ∧ kindOf r ≤ 6 := by
 unfold kindOf; repeat' split
 all_goals omega
def isNum (c : C) : Bool := kd c == 3 || rn c == 95
def isAl (c : C) : Bool := kd c == 3 || kd c == 4
def notBad (c : C) : Bool := kd c != 0
def badNum (t : Bytes) : Bool := Go.Lib.hasSuffix t [95] || Go.Lib.contains t [95, 95]
def signOf (c : C) : Bytes := if rn c = 0x2212 then [45] else if rn c = 0xd7 then [42] else c.2
def runLen (p : C → Bool) (cs : List C) : Nat := (cs.takeWhile p).length
abbrev Res := Except (Nat × Nat) (List Tok)
def Res.after (a : List Tok) : Res → Res
 | .ok l => .ok (a ++ l)
 | .error e => .error e
def toks : Nat → Nat → List C → Res
 | 0, _, _ => .ok []
 | _, _, [] => .ok []
 | n + 1, col, c :: cs =>
  if kd c = 1 then toks n (col + 1) cs
  else if kd c = 2 then
   if runLen notBad (c :: cs) < (c :: cs).length then .error (col + runLen notBad (c :: cs), 12) else .ok []
  else if kd c = 0 then .error (col, 12)
  else if kd c = 3 then
   if badNum (bytesOf ((c :: cs).take (runLen isNum (c :: cs)))) then .error (col, 7)
   else (toks n (col + runLen isNum (c :: cs)) ((c :: cs).drop (runLen isNum (c :: cs)))).after [(1, bytesOf ((c :: cs).take (runLen isNum (c :: cs))), col)]
  else if kd c = 4 then
   if 32 < (bytesOf ((c :: cs).take (runLen isAl (c :: cs)))).length then .error (col, 17)
   else (toks n (col + runLen isAl (c :: cs)) ((c :: cs).drop (runLen isAl (c :: cs)))).after [(2, bytesOf ((c :: cs).take (runLen isAl (c :: cs))), col)]
  else if kd c = 5 then (toks n (col + 1) cs).after [(3, signOf c, col)]
  else .error (col, 13)
theorem Res.after_after (a b : List Tok) (r : Res) : (r.after b).after a = r.after (a ++ b) := by
 cases r <;> simp [Res.after]
theorem Res.after_nil (r : Res) : r.after [] = r := by cases r <;> simp [Res.after]
theorem runLen_le (p : C → Bool) (cs : List C) : runLen p cs ≤ cs.length := by
 unfold runLen
 induction cs with
 | nil => simp
 | cons c cs ih => simp only [List.takeWhile_cons]; split <;> simp; exact ih
theorem runLen_pos {p : C → Bool} {c : C} {cs : List C} (h : p c = true) : 1 ≤ runLen p (c :: cs) := by
 simp [runLen, h]
theorem toks_more : ∀ (n : Nat) (col : Nat) (cs : List C), cs.length ≤ n → toks n col cs = toks cs.length col cs := by
 intro n
 induction n using Nat.strongRecOn with
 | ind n ih =>
  intro col cs hl
  cases cs with
  | nil => cases n <;> rfl
  | cons c cs =>
   cases n with
   | zero => simp at hl
   | succ n =>
    simp only [List.length_cons] at hl
    have key : ∀ (m col : Nat) (r : List C), n ≤ m ∨ cs.length ≤ m → r.length ≤ cs.length → m ≤ n → toks m col r = toks r.length col r := by
     intro m col r hm hr hmn
     exact ih m (by omega) col r (by omega)
    have e : ∀ (col : Nat) (r : List C), r.length ≤ cs.length → toks n col r = toks cs.length col r := by
     intro col r hr
     rw [key n col r (.inl (Nat.le_refl _)) hr (Nat.le_refl _), key cs.length col r (.inr (Nat.le_refl _)) hr (by omega)]
    have d1 : kd c = 3 → ((c :: cs).drop (runLen isNum (c :: cs))).length ≤ cs.length := by
     intro hk
     have := runLen_pos (p := isNum) (c := c) (cs := cs) (by simp [isNum, hk])
     simp only [List.length_drop, List.length_cons]; omega
    have d2 : kd c = 4 → ((c :: cs).drop (runLen isAl (c :: cs))).length ≤ cs.length := by
     intro hk
     have := runLen_pos (p := isAl) (c := c) (cs := cs) (by simp [isAl, hk])
     simp only [List.length_drop, List.length_cons]; omega
    simp only [toks, List.length_cons]
    by_cases k1 : kd c = 1
    ·rw [if_pos k1, if_pos k1, e _ _ (Nat.le_refl _)]
    ·rw [if_neg k1, if_neg k1]
     by_cases k2 : kd c = 2
     ·rw [if_pos k2, if_pos k2]
     ·rw [if_neg k2, if_neg k2]
      by_cases k0 : kd c = 0
      ·rw [if_pos k0, if_pos k0]
      ·rw [if_neg k0, if_neg k0]
       by_cases k3 : kd c = 3
       ·rw [if_pos k3, if_pos k3, e _ _ (d1 k3)]
       ·rw [if_neg k3, if_neg k3]
        by_cases k4 : kd c = 4
        ·rw [if_pos k4, if_pos k4, e _ _ (d2 k4)]
        ·rw [if_neg k4, if_neg k4, e _ _ (Nat.le_refl _)]
def Toks (col : Nat) (cs : List C) : Res := toks cs.length col cs
theorem Toks_nil (col : Nat) : Toks col [] = .ok [] := rfl
theorem toks_Toks (n col : Nat) (cs : List C) (h : cs.length ≤ n) : toks n col cs = Toks col cs := toks_more n col cs h
theorem Toks_blank {c : C} {cs : List C} (col : Nat) (h : kd c = 1) : Toks col (c :: cs) = Toks (col + 1) cs := by
 simp only [Toks, List.length_cons, toks]; rw [if_pos h]
theorem Toks_hash {c : C} {cs : List C} (col : Nat) (h : kd c = 2) :
  Toks col (c :: cs) = if runLen notBad (c :: cs) < (c :: cs).length then .error (col + runLen notBad (c :: cs), 12) else .ok [] := by
 simp only [Toks, List.length_cons, toks, h]; simp
theorem Toks_bad {c : C} {cs : List C} (col : Nat) (h : kd c = 0) : Toks col (c :: cs) = .error (col, 12) := by
 simp only [Toks, List.length_cons, toks, h]; simp
theorem Toks_num {c : C} {cs : List C} (col : Nat) (h : kd c = 3) :
  Toks col (c :: cs) = if badNum (bytesOf ((c :: cs).take (runLen isNum (c :: cs)))) then .error (col, 7)
   else (Toks (col + runLen isNum (c :: cs)) ((c :: cs).drop (runLen isNum (c :: cs)))).after [(1, bytesOf ((c :: cs).take (runLen isNum (c :: cs))), col)] := by
 have hp := runLen_pos (p := isNum) (c := c) (cs := cs) (by simp [isNum, h])
 rw [← toks_Toks cs.length _ ((c :: cs).drop _) (by simp only [List.length_drop, List.length_cons]; omega)]
 simp only [Toks, List.length_cons, toks, h]; simp
theorem Toks_name {c : C} {cs : List C} (col : Nat) (h : kd c = 4) :
  Toks col (c :: cs) = if 32 < (bytesOf ((c :: cs).take (runLen isAl (c :: cs)))).length then .error (col, 17)
   else (Toks (col + runLen isAl (c :: cs)) ((c :: cs).drop (runLen isAl (c :: cs)))).after [(2, bytesOf ((c :: cs).take (runLen isAl (c :: cs))), col)] := by
 have hp := runLen_pos (p := isAl) (c := c) (cs := cs) (by simp [isAl, h])
 rw [← toks_Toks cs.length _ ((c :: cs).drop _) (by simp only [List.length_drop, List.length_cons]; omega)]
 simp only [Toks, List.length_cons, toks, h]; simp
theorem Toks_mark {c : C} {cs : List C} (col : Nat) (h : kd c = 5) : Toks col (c :: cs) = (Toks (col + 1) cs).after [(3, signOf c, col)] := by
 simp only [Toks, List.length_cons, toks, h]; simp
theorem Toks_other {c : C} {cs : List C} (col : Nat) (h : kd c = 6) : Toks col (c :: cs) = .error (col, 13) := by
 simp only [Toks, List.length_cons, toks, h]; simp
theorem kd_le (c : C) : kd c ≤ 6 := by
 unfold kd; split
 ·exact (kindOf_pos _).2
 ·omega
theorem runLen_eq (p : C → Bool) : ∀ (l : List C) (m : Nat), m ≤ l.length → (∀ c ∈ l.take m, p c = true) → (∀ c, l[m]? = some c → p c = false) → runLen p l = m := by
 intro l
 induction l with
 | nil => intro m hm _ _; simp at hm; subst hm; rfl
 | cons d l ih =>
  intro m hm h1 h2
  cases m with
  | zero => simp [runLen, h2 d (by simp)]
  | succ m =>
   have hd : p d = true := h1 d (by simp)
   have := ih m (by simpa using hm) (fun c hc => h1 c (by simp [hc])) (fun c hc => h2 c (by simpa using hc))
   simp only [runLen] at this
   simp [runLen, hd, this]
theorem bytes_mid (l : Bytes) (i j : Nat) (h : i ≤ j) :
  (l.drop (bytesOf ((chars l).take i)).length).take ((bytesOf ((chars l).take j)).length - (bytesOf ((chars l).take i)).length) = bytesOf (((chars l).drop i).take (j - i)) := by
 have e1 : bytesOf ((chars l).take i) ++ bytesOf ((chars l).drop i) = l := by
  have := bytesOf_chars l
  simp only [bytesOf] at *
  rw [← List.flatMap_append, List.take_append_drop, this]
 have e2 : (chars l).take j = (chars l).take i ++ ((chars l).drop i).take (j - i) := by
  have := List.take_add (l := chars l) (i := i) (j := j - i)
  rw [show i + (j - i) = j from by omega] at this
  exact this
 have e3 : bytesOf ((chars l).drop i) = bytesOf (((chars l).drop i).take (j - i)) ++ bytesOf (((chars l).drop i).drop (j - i)) := by
  simp only [bytesOf]; rw [← List.flatMap_append, List.take_append_drop]
 have e4 : l.drop (bytesOf ((chars l).take i)).length = bytesOf ((chars l).drop i) := by
  have h2 := List.drop_left (l₁ := bytesOf ((chars l).take i)) (l₂ := bytesOf ((chars l).drop i))
  rw [e1] at h2; exact h2
 rw [e4, e3, e2]
 have e5 : (bytesOf ((chars l).take i ++ ((chars l).drop i).take (j - i))).length - (bytesOf ((chars l).take i)).length = (bytesOf (((chars l).drop i).take (j - i))).length := by
  simp only [bytesOf, List.flatMap_append, List.length_append]; omega
 rw [e5, List.take_left]
theorem bytes_len (cs : List C) (i : Nat) : (bytesOf (cs.take i)).length ≤ (bytesOf cs).length := by
 have : bytesOf (cs.take i) ++ bytesOf (cs.drop i) = bytesOf cs := by simp only [bytesOf]; rw [← List.flatMap_append, List.take_append_drop]
 rw [← this, List.length_append]; omega
end LexP
namespace Go.Proofs.YtgfmiladfeoldaaGreatDoor
open Go.RowKit LexP
theorem ret_i64 {a b : Int} (h : a = b) : Ending.returned (.int .i64 a) = .returned (.int .i64 b) := by rw [h]
theorem marks_any (r : Nat) (h : r < 128) :
  decide (0 ≤ Lib.indexByte [43, 45, 42, 94, 39, 40, 41, 91, 93, 123, 125, 44, 59, 58, 61] (r : Int).toNat.toUInt8) = decide (r.toUInt8 ∈ ([43, 45, 42, 94, 39, 40, 41, 91, 93, 123, 125, 44, 59, 58, 61] : Bytes)) := by
 have : ∀ r : Fin 128, decide (0 ≤ Lib.indexByte [43, 45, 42, 94, 39, 40, 41, 91, 93, 123, 125, 44, 59, 58, 61] ((r.val : Nat) : Int).toNat.toUInt8) = decide (r.val.toUInt8 ∈ ([43, 45, 42, 94, 39, 40, 41, 91, 93, 123, 125, 44, 59, 58, 61] : Bytes)) := by decide +kernel
 exact this ⟨r, h⟩
set_option maxRecDepth 100000 in
set_option maxHeartbeats 2000000 in
theorem kind_any (r : Nat) (w : World) (hr : r ≤ 0x10FFFF) :
  Calls Tryz.prog 200 #[.int .i32 (r : Int)] w fun e w' => e = .returned (.int .i64 (kindOf r : Nat)) ∧ w = w' := by
 by_cases h1 : r = 32 ∨ r = 9 ∨ r = 0xa0
 ·have hk : kindOf r = 1 := by unfold kindOf; rw [if_pos h1]
  rw [hk]; clear hk
  rcases h1 with rfl | rfl | rfl
  all_goals
   go_enter Tryz.func200, Tryz.ntmps200
   go_wp2
   go_ret
   exact ⟨rfl, rfl⟩
 by_cases h2 : r = 35
 ·subst h2
  go_enter Tryz.func200, Tryz.ntmps200
  go_wp2
  go_ret
  exact ⟨rfl, rfl⟩
 have n1 : ((r : Int) == 32) = false := by simp; omega
 have n2 : ((r : Int) == 9) = false := by simp; omega
 have n3 : ((r : Int) == 160) = false := by simp; omega
 have n4 : ((r : Int) == 35) = false := by simp; omega
 by_cases h3 : 48 ≤ r ∧ r ≤ 57
 ·have hk : kindOf r = 3 := by unfold kindOf; rw [if_neg h1, if_neg h2, if_pos h3]
  rw [hk]; clear hk
  go_enter Tryz.func200, Tryz.ntmps200
  go_wp2
  go_ret
  exact ⟨rfl, rfl⟩
 by_cases e95 : r = 95
 ·subst e95
  go_enter Tryz.func200, Tryz.ntmps200
  go_wp2
  go_ret
  exact ⟨rfl, rfl⟩
 by_cases e8722 : r = 0x2212
 ·subst e8722
  go_enter Tryz.func200, Tryz.ntmps200
  go_wp2
  go_ret
  exact ⟨rfl, rfl⟩
 by_cases e215 : r = 0xd7
 ·subst e215
  go_enter Tryz.func200, Tryz.ntmps200
  go_wp2
  go_ret
  exact ⟨rfl, rfl⟩
 by_cases e247 : r = 0xf7
 ·subst e247
  go_enter Tryz.func200, Tryz.ntmps200
  go_wp2
  go_ret
  exact ⟨rfl, rfl⟩
 have n6 : ((r : Int) == 95) = false := by simp; omega
 have n7 : ((r : Int) == 8722) = false := by simp; omega
 have n8 : ((r : Int) == 215) = false := by simp; omega
 have n9 : ((r : Int) != 247) = true := by simp; omega
 have K : kindOf r = if (97 ≤ r ∧ r ≤ 122) ∨ (65 ≤ r ∧ r ≤ 90) then 4 else if (0xc0 ≤ r ∧ r ≤ 0x2af) ∨ (0x370 ≤ r ∧ r ≤ 0x3ff) then 4
   else if r < 0x80 ∧ (r.toUInt8 ∈ ([43, 45, 42, 94, 39, 40, 41, 91, 93, 123, 125, 44, 59, 58, 61] : Bytes)) then 5 else 6 := by
  unfold kindOf
  rw [if_neg h1, if_neg h2, if_neg h3]
  simp only [e95, e8722, e215, e247, or_false, if_false, ne_eq, not_false_eq_true, and_true]
 have G : (r < 48 ∨ 58 ≤ r ∧ r < 65 ∨ 91 ≤ r ∧ r < 97 ∨ 123 ≤ r ∧ r < 128) ∨ (65 ≤ r ∧ r ≤ 90 ∨ 97 ≤ r ∧ r ≤ 122) ∨ (128 ≤ r ∧ r < 0xc0 ∨ 0x2af < r ∧ r < 0x370 ∨ 0x3ff < r) ∨ (0xc0 ≤ r ∧ r ≤ 0x2af ∨ 0x370 ≤ r ∧ r ≤ 0x3ff) := by omega
 rcases G with G | G | G | G
 ·have h6 : r < 128 := by omega
  have K5 : (decide (r.toUInt8 ∈ ([43, 45, 42, 94, 39, 40, 41, 91, 93, 123, 125, 44, 59, 58, 61] : Bytes))) = (decide (kindOf r = 5)) := by
   rw [K, if_neg (by omega), if_neg (by omega)]
   by_cases hm : r.toUInt8 ∈ ([43, 45, 42, 94, 39, 40, 41, 91, 93, 123, 125, 44, 59, 58, 61] : Bytes)
   ·rw [if_pos ⟨by omega, hm⟩]; simp [hm]
   ·rw [if_neg (by simp [hm])]; simp [hm]
  have K6 : kindOf r = 5 ∨ kindOf r = 6 := by
   rw [K, if_neg (by omega), if_neg (by omega)]; split <;> simp
  have M := Lib.hid (marks_any r h6)
  rw [K5] at M
  clear K K5
  generalize kindOf r = k at *
  rcases K6 with rfl | rfl
  all_goals
   rcases G with G | G | G | G
   all_goals
    clear h1 h2 h3 e95 e8722 e215 e247
    go_enter Tryz.func200, Tryz.ntmps200
    go_wp2_with (go_at_call 231; refine (Tryz.strings_ContainsRune_ascii _ _ _ (by omega) (by omega)).mono ?_; rintro e w' ⟨rfl, rfl⟩; rw [M.out])
    go_ret
    exact ⟨rfl, rfl⟩
 ·rw [K, if_pos (by omega)]
  clear K
  rcases G with G | G
  all_goals
   clear h1 h2 h3 e95 e8722 e215 e247
   go_enter Tryz.func200, Tryz.ntmps200
   go_wp2
   go_ret
   exact ⟨rfl, rfl⟩
 ·rw [K, if_neg (by omega), if_neg (by omega), if_neg (by omega)]
  clear K
  rcases G with G | G | G
  all_goals
   clear h1 h2 h3 e95 e8722 e215 e247
   go_enter Tryz.func200, Tryz.ntmps200
   go_wp2
   go_ret
   exact ⟨rfl, rfl⟩
 ·rw [K, if_neg (by omega), if_pos (by omega)]
  clear K
  rcases G with G | G
  all_goals
   clear h1 h2 h3 e95 e8722 e215 e247
   go_enter Tryz.func200, Tryz.ntmps200
   go_wp2
   go_ret
   exact ⟨rfl, rfl⟩
end Go.Proofs.YtgfmiladfeoldaaGreatDoor
namespace LexP
open Go Go.RowKit
def chCells : Nat → List C → List Value
 | _, [] => []
 | p, c :: cs => .int .i64 (kd c : Nat) :: .int .i32 (rn c : Nat) :: .int .i64 (p : Nat) :: chCells (p + c.2.length) cs
theorem chCells_append : ∀ (a b : List C) (p : Nat), chCells p (a ++ b) = chCells p a ++ chCells (p + (bytesOf a).length) b := by
 intro a
 induction a with
 | nil => intro b p; simp [chCells, bytesOf]
 | cons c cs ih => intro b p; simp [chCells, bytesOf, ih, Nat.add_assoc]
theorem chCells_one (p : Nat) (c : C) : chCells p [c] = [.int .i64 (kd c : Nat), .int .i32 (rn c : Nat), .int .i64 (p : Nat)] := rfl
theorem chCells_at : ∀ (a : List C) (p k : Nat) (c : C), a[k]? = some c →
  (chCells p a)[k * 3]? = some (.int .i64 (kd c : Nat)) ∧ (chCells p a)[k * 3 + 1]? = some (.int .i32 (rn c : Nat)) ∧
  (chCells p a)[k * 3 + 2]? = some (.int .i64 (p + (bytesOf (a.take k)).length : Nat)) := by
 intro a
 induction a with
 | nil => intro p k c h; simp at h
 | cons d cs ih =>
  intro p k c h
  cases k with
  | zero => simp at h; subst h; simp [chCells, bytesOf]
  | succ k =>
   simp only [List.getElem?_cons_succ] at h
   obtain ⟨h1, h2, h3⟩ := ih (p + d.2.length) k c h
   have e0 : (k + 1) * 3 = k * 3 + 1 + 1 + 1 := by omega
   have e1 : (k + 1) * 3 + 1 = k * 3 + 1 + 1 + 1 + 1 := by omega
   have e2 : (k + 1) * 3 + 2 = k * 3 + 2 + 1 + 1 + 1 := by omega
   refine ⟨?_, ?_, ?_⟩
   ·rw [e0]; simp only [chCells, List.getElem?_cons_succ]; exact h1
   ·rw [e1]; simp only [chCells, List.getElem?_cons_succ]; exact h2
   ·rw [e2]; simp only [chCells, List.getElem?_cons_succ, List.take_succ_cons, bytesOf, List.flatMap_cons, List.length_append]; rw [h3]; simp only [bytesOf, Nat.add_assoc]
def tkCells (l : List Tok) : List Value := l.flatMap fun t => [.int .i64 (t.1 : Nat), .string ⟨t.2.1.toArray⟩, .int .i64 (t.2.2 : Nat)]
theorem tkCells_append (a b : List Tok) : tkCells (a ++ b) = tkCells a ++ tkCells b := by simp [tkCells]
theorem tkCells_at : ∀ (a : List Tok) (k : Nat) (t : Tok), a[k]? = some t →
  (tkCells a)[k * 3]? = some (.int .i64 (t.1 : Nat)) ∧ (tkCells a)[k * 3 + 1]? = some (.string ⟨t.2.1.toArray⟩) ∧ (tkCells a)[k * 3 + 2]? = some (.int .i64 (t.2.2 : Nat)) := by
 intro a
 induction a with
 | nil => intro k t h; simp at h
 | cons d cs ih =>
  intro k t h
  cases k with
  | zero => simp at h; subst h; simp [tkCells]
  | succ k =>
   simp only [List.getElem?_cons_succ] at h
   obtain ⟨h1, h2, h3⟩ := ih k t h
   have e0 : (k + 1) * 3 = k * 3 + 1 + 1 + 1 := by omega
   have e1 : (k + 1) * 3 + 1 = k * 3 + 1 + 1 + 1 + 1 := by omega
   have e2 : (k + 1) * 3 + 2 = k * 3 + 2 + 1 + 1 + 1 := by omega
   have ec : tkCells (d :: cs) = .int .i64 (d.1 : Nat) :: .string ⟨d.2.1.toArray⟩ :: .int .i64 (d.2.2 : Nat) :: tkCells cs := rfl
   refine ⟨?_, ?_, ?_⟩
   ·rw [e0, ec]; simp only [List.getElem?_cons_succ]; exact h1
   ·rw [e1, ec]; simp only [List.getElem?_cons_succ]; exact h2
   ·rw [e2, ec]; simp only [List.getElem?_cons_succ]; exact h3
theorem ownsRow_mono {w : World} {b b' : Nat} {e : TypeId} {size : Nat} {v : Value} {n : Nat} {xs : List Value} (h : w.ownsRow b e size v n xs) (hb : b' ≤ b) : w.ownsRow b' e size v n xs := by
 refine ⟨h.1, ?_⟩
 rcases h.2 with h2 | ⟨g, cap, cur, hv, hg, r⟩
 ·exact .inl h2
 ·exact .inr ⟨g, cap, cur, hv, Nat.le_trans hb hg, r⟩
theorem ownsRow_below {w w' : World} {b B : Nat} {e : TypeId} {size : Nat} {v : Value} {n : Nat} {xs : List Value} (h : w.ownsRow b e size v n xs) (hb : Below B w w') (hB : w.heap.size ≤ B) : w'.ownsRow b e size v n xs := by
 refine ⟨h.1, ?_⟩
 rcases h.2 with h2 | ⟨g, cap, cur, hv, hg, hh, r⟩
 ·exact .inl h2
 ·have hlt : g < w.heap.size := (Array.getElem?_eq_some_iff.1 hh).1
  exact .inr ⟨g, cap, cur, hv, hg, by rw [hb.block g (by omega)]; exact hh, r⟩
theorem ownsRow_open {w : World} {b : Nat} {e : TypeId} {size : Nat} {v : Value} {n : Nat} {xs : List Value} (h : w.ownsRow b e size v n xs) :
  (v = .slice none 0 0 ∧ n = 0 ∧ xs = []) ∨ ∃ g cap, v = .slice (some ⟨g, 0, none⟩) n cap ∧ b ≤ g ∧ g < w.heap.size ∧ n ≤ cap ∧ cap ≤ maxLen ∧ ∀ j, j < n * size → w.cell? ⟨g, j, none⟩ = xs[j]? := by
 rcases h.2 with ⟨rfl, rfl⟩ | ⟨g, cap, cur, rfl, hg, hh, hn, hc, _⟩
 ·exact .inl ⟨rfl, rfl, List.eq_nil_of_length_eq_zero (by simpa using h.1)⟩
 ·exact .inr ⟨g, cap, rfl, hg, (Array.getElem?_eq_some_iff.1 hh).1, hn, hc, fun j hj => h.cellAt j hj⟩
theorem cells_new (w : World) (cs : List Value) (t : TypeId) (n : Nat) (hn : n = w.heap.size) : ∀ j u, cs[j]? = some u → (w.alloc (.cells cs.toArray t)).cell? ((⟨n, 0, none⟩ : Addr).add j) = some u := by
 intro j u h
 subst hn
 rw [Addr.add_lit, World.cell?_alloc_at _ _ _ _ rfl]
 simpa using h
theorem ownsRow_shape {w : World} {b : Nat} {e : TypeId} {size : Nat} {v : Value} {n : Nat} {xs : List Value} (h : w.ownsRow b e size v n xs) :
  ∃ ao cap, v = .slice ao n cap ∧ n ≤ cap ∧ cap ≤ maxLen ∧ (0 < n → ∃ g, ao = some ⟨g, 0, none⟩ ∧ b ≤ g ∧ g < w.heap.size ∧ ∀ j, j < n * size → w.cell? ⟨g, j, none⟩ = xs[j]?) := by
 rcases h.2 with ⟨rfl, rfl⟩ | ⟨g, cap, cur, rfl, hg, hh, hn, hc, _⟩
 ·exact ⟨none, 0, rfl, Nat.le_refl _, Nat.zero_le _, fun h0 => absurd h0 (Nat.lt_irrefl _)⟩
 ·exact ⟨_, cap, rfl, hn, hc, fun _ => ⟨g, rfl, hg, (Array.getElem?_eq_some_iff.1 hh).1, fun j hj => h.cellAt j hj⟩⟩
end LexP
namespace LexP
open Go
theorem get_list (s : ByteArray) (i : Nat) : s.get! i = (s.data.toList[i]?).getD default := by
 obtain ⟨⟨l⟩⟩ := s
 simp [ByteArray.get!]
theorem decode_eq (s : ByteArray) (i : Nat) (hi : i < s.size) :
  Utf8.decode s i = match dec (s.data.toList.drop i) with | some (v, n) => (v, n) | none => (0xFFFD, 1) := by
 have hsz : s.size = s.data.toList.length := Lib.size_eq s
 have hg : ∀ k, s.get! (i + k) = ((s.data.toList.drop i)[k]?).getD default := by
  intro k; rw [get_list, List.getElem?_drop]
 have hc : ∀ k, i + k < s.size ↔ k < (s.data.toList.drop i).length := by intro k; rw [hsz, List.length_drop]; omega
 have hne : 0 < (s.data.toList.drop i).length := by rw [List.length_drop]; omega
 generalize s.data.toList.drop i = l at *
 simp only [Utf8.decode, hg, hc]
 match l, hne with
 | b :: t, _ =>
  simp only [List.getElem?_cons_zero, Option.getD_some, List.getElem?_cons_succ, List.length_cons]
  by_cases h0 : b.toNat < 0x80
  ·simp [dec, h0]
  simp only [h0, if_false]
  by_cases h1 : b.toNat / 32 = 6
  ·have h2 : ¬ b.toNat / 16 = 14 := by omega
   have h3 : ¬ b.toNat / 8 = 30 := by omega
   match t with
   | [] => simp [dec, h0, h1, Utf8.runeError]
   | c :: t =>
    by_cases k1 : c.toNat / 64 = 2
    ·by_cases k2 : 128 ≤ b.toNat % 32 * 64 + c.toNat % 64
     ·simp [dec, h0, h1, k1, isCont, k2]
     ·simp [dec, h0, h1, k1, isCont, k2, Utf8.runeError]
    ·simp [dec, h0, h1, k1, isCont, h2, h3, Utf8.runeError]
  by_cases h2 : b.toNat / 16 = 14
  ·have h3 : ¬ b.toNat / 8 = 30 := by omega
   match t with
   | [] => simp [dec, h0, h1, h2, Utf8.runeError]
   | [c] => simp [dec, h0, h1, h2, Utf8.runeError]
   | c :: d :: t =>
    have hv : ∀ v : Nat, Utf8.valid (v : Int) = okRune v := by
     intro v; simp only [Utf8.valid, okRune]; rw [Bool.eq_iff_iff]; simp; omega
    by_cases k1 : c.toNat / 64 = 2
    ·by_cases k2 : d.toNat / 64 = 2
     ·simp only [dec, h0, h1, h2, k1, k2, isCont, if_true, if_false, beq_self_eq_true, Bool.true_and, Bool.and_true, hv, List.length_cons, List.getElem?_cons_zero, Option.getD_some]
      by_cases k3 : 2048 ≤ b.toNat % 16 * 4096 + c.toNat % 64 * 64 + d.toNat % 64 ∧ okRune (b.toNat % 16 * 4096 + c.toNat % 64 * 64 + d.toNat % 64) = true
      ·simp [k2, h1, k3]
      ·simp [Utf8.runeError, k2, h1, k3]
     ·simp [dec, h0, h1, h2, k1, k2, isCont, h3, Utf8.runeError]
    ·simp [dec, h0, h1, h2, k1, isCont, h3, Utf8.runeError]
  by_cases h3 : b.toNat / 8 = 30
  ·match t with
   | [] => simp [dec, h0, h1, h2, h3, Utf8.runeError]
   | [c] => simp [dec, h0, h1, h2, h3, Utf8.runeError]
   | [c, d] => simp [dec, h0, h1, h2, h3, Utf8.runeError]
   | c :: d :: f :: t =>
    have hv : ∀ v : Nat, Utf8.valid (v : Int) = okRune v := by
     intro v; simp only [Utf8.valid, okRune]; rw [Bool.eq_iff_iff]; simp; omega
    by_cases k1 : c.toNat / 64 = 2
    ·by_cases k2 : d.toNat / 64 = 2
     ·by_cases k4 : f.toNat / 64 = 2
      ·simp only [dec, h0, h1, h2, h3, k1, k2, k4, isCont, if_true, if_false, beq_self_eq_true, Bool.true_and, Bool.and_true, hv, List.length_cons, List.getElem?_cons_zero, Option.getD_some]
       by_cases k3 : 65536 ≤ b.toNat % 8 * 262144 + c.toNat % 64 * 4096 + d.toNat % 64 * 64 + f.toNat % 64 ∧ okRune (b.toNat % 8 * 262144 + c.toNat % 64 * 4096 + d.toNat % 64 * 64 + f.toNat % 64) = true
       ·simp [k2, k4, h1, h2, k3]
       ·simp [Utf8.runeError, k2, k4, h1, h2, k3]
      ·simp [dec, h0, h1, h2, h3, k1, k2, k4, isCont, Utf8.runeError]
     ·simp [dec, h0, h1, h2, h3, k1, k2, isCont, Utf8.runeError]
    ·simp [dec, h0, h1, h2, h3, k1, isCont, Utf8.runeError]
  ·simp [dec, h0, h1, h2, h3, Utf8.runeError]
theorem decode_fst (s : ByteArray) (i : Nat) (hi : i < s.size) : (Utf8.decode s i).1 = (val (s.data.toList.drop i)).getD 0xFFFD := by
 rw [decode_eq s i hi]; unfold val
 cases dec (s.data.toList.drop i) <;> rfl
theorem decode_snd (s : ByteArray) (i : Nat) (hi : i < s.size) : (Utf8.decode s i).2 = wid (s.data.toList.drop i) := by
 rw [decode_eq s i hi]; unfold wid
 cases dec (s.data.toList.drop i) <;> rfl
theorem val_le {l : Bytes} {v : Nat} (h : val l = some v) : v ≤ 0x10FFFF := by
 unfold val at h
 cases hd : dec l with
 | none => simp [hd] at h
 | some p => obtain ⟨a, b⟩ := p; simp [hd] at h; subst h; exact dec_le hd
theorem val_fffd (l : Bytes) : (val l).getD 0xFFFD = 0xFFFD → (Lib.hasPrefix l [239, 191, 189] = (val l).isSome) := by
 intro h
 cases hv : val l with
 | none =>
  cases hp : Lib.hasPrefix l [239, 191, 189] with
  | false => rfl
  | true =>
   exfalso
   obtain ⟨t, rfl⟩ := List.isPrefixOf_iff_prefix.1 hp
   simp [val, dec, isCont, okRune] at hv
 | some v =>
  have h' : v = 0xFFFD := by simpa [hv] using h
  subst h'
  simp only [Option.isSome_some]
  unfold val at hv
  unfold dec at hv
  split at hv
  ·simp at hv
  ·rename_i b t
   split at hv
   ·simp at hv; omega
   split at hv
   ·split at hv
    ·split at hv
     ·simp at hv; omega
     ·simp at hv
    ·simp at hv
   split at hv
   ·split at hv
    ·rename_i c d r
     split at hv
     ·rename_i k
      simp only [Bool.and_eq_true, isCont, beq_iff_eq] at k
      simp at hv
      have hb : b.toNat = 239 := by have := b.toNat_lt; omega
      have hc : c.toNat = 191 := by have := c.toNat_lt; omega
      have hd : d.toNat = 189 := by have := d.toNat_lt; omega
      have eb : b = 239 := UInt8.toNat_inj.1 hb
      have ec : c = 191 := UInt8.toNat_inj.1 hc
      have ed : d = 189 := UInt8.toNat_inj.1 hd
      subst eb ec ed
      simp [Lib.hasPrefix]
     ·simp at hv
    ·simp at hv
   split at hv
   ·split at hv
    ·split at hv
     ·rename_i k
      simp only [Bool.and_eq_true, decide_eq_true_eq] at k
      simp at hv; omega
     ·simp at hv
    ·simp at hv
   ·simp at hv
end LexP
namespace Go.Proofs.YtgfmiladfeoldaaGreatDoor
open Go.RowKit LexP
theorem Tryz.infoChar : (Tryz.prog.info? 182).map (fun i => (i.zero, i.size, i.bytes)) = some (some (.agg #[.int .i64 0, .int .i32 0, .int .i64 0]), 3, 24) := by kernel_rfl
def CharsPost (l : Bytes) (w : World) (e : Ending) (w' : World) : Prop :=
 ∃ v, e = .returned v ∧ w'.ownsRow w.heap.size 182 3 v (chars l).length (chCells 0 (chars l)) ∧ Below w.heap.size w w'
def ChRel (s : ByteArray) (w : World) (v : Value) (wr : World) : Prop :=
 ∃ pos dn, pos ≤ s.size ∧ wr.heap[w.heap.size]? = some (.stringIter s pos) ∧ Below w.heap.size w wr ∧
  chars s.data.toList = dn ++ chars (s.data.toList.drop pos) ∧ (bytesOf dn).length = pos ∧ wr.ownsRow (w.heap.size + 1) 182 3 v dn.length (chCells 0 dn)
theorem iter_heap_at (w : World) (s : ByteArray) : (w.iter s 0).heap[w.heap.size]? = some (.stringIter s 0) := World.iter_heap w s 0
set_option maxRecDepth 100000 in
set_option maxHeartbeats 1000000 in
theorem chars_any (s : ByteArray) (w : World) (hs : s.size ≤ 67108864) :
  Calls Tryz.prog 155 #[.string s] w (CharsPost s.data.toList w) := by
 obtain ⟨i0, hi, hz0, hz1, hz2⟩ := info_parts Tryz.infoChar
 go_enter Tryz.func155, Tryz.ntmps155
 go_wp2
 go_loopw [3] (fun v wr => ChRel s w v wr) (fun _ wr => s.size - wr.iterPos w.heap.size)
 case atStart =>
  exact ⟨0, [], Nat.zero_le _, iter_heap_at w s, (Below.refl _ _).alloc (Nat.le_refl _) _, by simp, rfl, World.ownsRow_nil _ _ _ _⟩
 case round =>
  obtain ⟨pos, dn, hpos, hit, hbel, hch, hlen, hown⟩ := hrel
  have hsz : w.heap.size < wr.heap.size := (Array.getElem?_eq_some_iff.1 hit).1
  by_cases hlt : pos < s.size
  ·have hn := fun ty => Lib.run_next_any_at (P := Tryz.prog) wr w.heap.size s pos ty hit hlt
   have hLe : s.data.toList.drop pos ≠ [] := by rw [Ne, List.drop_eq_nil_iff, ← Lib.size_eq]; omega
   have hcons := Lib.hid (chars_cons hLe)
   have hk1 := wid_pos (s.data.toList.drop pos)
   have hk2 : pos + wid (s.data.toList.drop pos) ≤ s.size := by have := wid_le hLe; rw [List.length_drop, ← Lib.size_eq] at this; omega
   have hdd : Hid (List.drop (wid (s.data.toList.drop pos)) (s.data.toList.drop pos) = s.data.toList.drop (pos + wid (s.data.toList.drop pos))) := by show _ = _; rw [List.drop_drop]
   have hbl : Hid ((bytesOf (dn ++ [(val (s.data.toList.drop pos), List.take (wid (s.data.toList.drop pos)) (s.data.toList.drop pos))])).length = pos + wid (s.data.toList.drop pos)) := by
    show _ = _
    simp only [bytesOf, List.flatMap_append, List.length_append] at hlen ⊢
    rw [hlen]
    have := wid_le hLe
    simp; simp at this; omega
   have hfp := Lib.hid (val_fffd (s.data.toList.drop pos))
   have hvl : ∀ v, val (s.data.toList.drop pos) = some v → v ≤ 0x10FFFF := fun v h => val_le h
   rw [decode_fst s pos hlt, decode_snd s pos hlt] at hn
   have HCH := Lib.hid hch
   have HLEN := Lib.hid hlen
   have hxd : Hid ((s.extract pos s.size).data.toList = s.data.toList.drop pos) := by
    show _ = _
    rw [Lib.extract_data, List.take_of_length_le (by rw [List.length_drop, ← Lib.size_eq]; exact Nat.le_refl _)]
   have hdn : dn.length ≤ 67108864 := by
    have h1 := chars_len s.data.toList
    rw [hch, List.length_append, ← Lib.size_eq] at h1; omega
   clear hch hlen hLe
   have fin : ∀ (c : C) (v' : Value) (w2 : World), c = (val (s.data.toList.drop pos), List.take (wid (s.data.toList.drop pos)) (s.data.toList.drop pos)) →
     w2.ownsRow (w.heap.size + 1) 182 3 v' (dn.length + 1) (chCells 0 dn ++ chCells pos [c]) → Below w.heap.size w w2 → w2.heap[w.heap.size]? = some (.stringIter s (pos + wid (s.data.toList.drop pos))) →
     ChRel s w v' w2 ∧ s.size - w2.iterPos w.heap.size < s.size - wr.iterPos w.heap.size := by
    intro c v' w2 hc ho hb hi2
    refine ⟨⟨pos + wid (s.data.toList.drop pos), dn ++ [c], hk2, hi2, hb, ?_, ?_, ?_⟩, ?_⟩
    ·rw [HCH.out, hcons.out, hc, hdd.out]; simp
    ·rw [hc]; exact hbl.out
    ·rw [chCells_append, HLEN.out, Nat.zero_add]; simpa using ho
    ·rw [iterPos_of hi2, iterPos_of hit]; omega
   have FIN := Lib.hid fin
   clear fin hdd hbl HCH HLEN hcons hk2
   generalize wid (s.data.toList.drop pos) = k at *
   have hW : ∃ wi : World, wi = wr.iterAt w.heap.size s (pos + k) := ⟨_, rfl⟩
   obtain ⟨wi, hwi⟩ := hW
   have q1 : wi.ownsRow (w.heap.size + 1) 182 3 u3 dn.length (chCells 0 dn) := by rw [hwi]; exact ownsRow_iterAt hown (Nat.lt_succ_self _) _ _
   have q2 : Below w.heap.size w wi := by rw [hwi]; exact Lib.below_iterAt hbel (Nat.le_refl _) _ _
   have q3 : wi.heap[w.heap.size]? = some (.stringIter s (pos + k)) := by rw [hwi]; exact Lib.iterAt_heap _ _ _ _ _ hit
   have q4 : w.heap.size < wi.heap.size := (Array.getElem?_eq_some_iff.1 q3).1
   rw [← hwi] at hn
   clear hwi
   have Q3 := Lib.hid q3
   clear q3
   cases hv : val (s.data.toList.drop pos) with
   | some r =>
    have hrle := hvl r hv
    rw [hv] at hn hfp FIN
    clear hvl hv
    simp only [Option.getD_some] at hn hfp
    by_cases hr : r = 0xFFFD
    ·subst hr
     have HP : Hid (Lib.hasPrefix (s.data.toList.drop pos) [239, 191, 189] = true) := hfp.out (by first | trivial | rfl)
     clear hfp
     go_wp2_with (first | (go_at_call 200; refine (kind_any 0xFFFD _ (by omega)).mono ?_; rintro e w' ⟨rfl, rfl⟩) | (go_at_call 201; refine (Tryz.strings_HasPrefix _ _ _).mono ?_; rintro e w' ⟨rfl, rfl⟩; simp only [hxd.out, HP.out]) | (at_builtin; refine wpList_append_own _ rfl _ _ 179 rfl (w.heap.size + 1) 182 i0 (.agg #[.int .i64 0, .int .i32 0, .int .i64 0]) 3 24 Tryz.underlying179 hi hz0 hz1 hz2 rfl (by decide) _ _ _ rfl ((q1.alloc _).alloc _) ⟨wi.heap.size + 1, 0, none⟩ 1 1 (chCells pos [(some 0xFFFD, List.take k (s.data.toList.drop pos))]) rfl rfl ?c1 ?c2 ?c3 ?c4 ?c5 ?_))
     case c1 => exact cells_new _ _ _ _ (by simp)
     case c2 => intro u hu; simp [chCells_one] at hu; rcases hu with rfl | rfl | rfl <;> rfl
     case c3 => unfold maxLen; omega
     case c4 => omega
     case c5 => simp; omega
     intro v' w2 hown2 hgrow2 _
     have hfin := FIN.out (some 0xFFFD, List.take k (s.data.toList.drop pos)) v' w2 rfl hown2
      (Below.grown (((q2.alloc (Nat.le_of_lt q4) _).alloc (by simp; omega) _)) hgrow2 (by simp; omega) (fun k hk => Nat.le_of_succ_le (q1.lt k hk).1))
      ((hgrow2.block w.heap.size (by simp; omega) (fun e => by have := (q1.lt _ e.symm).1; omega)).trans
         ((Below.heap_alloc _ _ _ (by simp; omega)).trans ((Below.heap_alloc _ _ _ q4).trans Q3.out)))
     clear hown2 hgrow2
     have HF := Lib.hid hfin
     clear hfin
     go_wp2
     first | exact HF.out | exact ⟨by (repeat apply Exists.intro); exact ⟨HF.out.1, rfl⟩, HF.out.2⟩
    ·have hr1 : ((r : Int) == 65533) = false := by simp; omega
     clear hfp hxd
     go_wp2_with (first | (go_at_call 200; refine (kind_any r _ hrle).mono ?_; rintro e w' ⟨rfl, rfl⟩) | (at_builtin; refine wpList_append_own _ rfl _ _ 179 rfl (w.heap.size + 1) 182 i0 (.agg #[.int .i64 0, .int .i32 0, .int .i64 0]) 3 24 Tryz.underlying179 hi hz0 hz1 hz2 rfl (by decide) _ _ _ rfl ((q1.alloc _).alloc _) ⟨wi.heap.size + 1, 0, none⟩ 1 1 (chCells pos [(some r, List.take k (s.data.toList.drop pos))]) rfl rfl ?c1 ?c2 ?c3 ?c4 ?c5 ?_))
     case c1 => exact cells_new _ _ _ _ (by simp)
     case c2 => intro u hu; simp [chCells_one] at hu; rcases hu with rfl | rfl | rfl <;> rfl
     case c3 => unfold maxLen; omega
     case c4 => omega
     case c5 => simp; omega
     intro v' w2 hown2 hgrow2 _
     have hfin := FIN.out (some r, List.take k (s.data.toList.drop pos)) v' w2 rfl hown2
      (Below.grown (((q2.alloc (Nat.le_of_lt q4) _).alloc (by simp; omega) _)) hgrow2 (by simp; omega) (fun k hk => Nat.le_of_succ_le (q1.lt k hk).1))
      ((hgrow2.block w.heap.size (by simp; omega) (fun e => by have := (q1.lt _ e.symm).1; omega)).trans
         ((Below.heap_alloc _ _ _ (by simp; omega)).trans ((Below.heap_alloc _ _ _ q4).trans Q3.out)))
     clear hown2 hgrow2
     have HF := Lib.hid hfin
     clear hfin
     go_wp2
     first | exact HF.out | exact ⟨by (repeat apply Exists.intro); exact ⟨HF.out.1, rfl⟩, HF.out.2⟩
   | none =>
    rw [hv] at hn hfp FIN
    clear hvl hv
    simp only [Option.getD_none] at hn hfp
    have HP : Hid (Lib.hasPrefix (s.data.toList.drop pos) [239, 191, 189] = false) := hfp.out (by first | trivial | rfl)
    clear hfp
    go_wp2_with (first | (go_at_call 200; refine (kind_any 0xFFFD _ (by omega)).mono ?_; rintro e w' ⟨rfl, rfl⟩) | (go_at_call 201; refine (Tryz.strings_HasPrefix _ _ _).mono ?_; rintro e w' ⟨rfl, rfl⟩; simp only [hxd.out, HP.out]) | (at_builtin; refine wpList_append_own _ rfl _ _ 179 rfl (w.heap.size + 1) 182 i0 (.agg #[.int .i64 0, .int .i32 0, .int .i64 0]) 3 24 Tryz.underlying179 hi hz0 hz1 hz2 rfl (by decide) _ _ _ rfl ((q1.alloc _).alloc _) ⟨wi.heap.size + 1, 0, none⟩ 1 1 (chCells pos [(none, List.take k (s.data.toList.drop pos))]) rfl rfl ?c1 ?c2 ?c3 ?c4 ?c5 ?_))
    case c1 => exact cells_new _ _ _ _ (by simp)
    case c2 => intro u hu; simp [chCells_one] at hu; rcases hu with rfl | rfl | rfl <;> rfl
    case c3 => unfold maxLen; omega
    case c4 => omega
    case c5 => simp; omega
    intro v' w2 hown2 hgrow2 _
    have hfin := FIN.out (none, List.take k (s.data.toList.drop pos)) v' w2 rfl hown2
     (Below.grown (((q2.alloc (Nat.le_of_lt q4) _).alloc (by simp; omega) _)) hgrow2 (by simp; omega) (fun k hk => Nat.le_of_succ_le (q1.lt k hk).1))
     ((hgrow2.block w.heap.size (by simp; omega) (fun e => by have := (q1.lt _ e.symm).1; omega)).trans
        ((Below.heap_alloc _ _ _ (by simp; omega)).trans ((Below.heap_alloc _ _ _ q4).trans Q3.out)))
    clear hown2 hgrow2
    have HF := Lib.hid hfin
    clear hfin
    go_wp2
    first | exact HF.out | exact ⟨by (repeat apply Exists.intro); exact ⟨HF.out.1, rfl⟩, HF.out.2⟩
  ·have hn := fun ty => Lib.run_next_end_at (P := Tryz.prog) wr w.heap.size s pos ty hit hlt
   go_wp2
   go_ret
   have : pos = s.size := by omega
   rw [List.drop_of_length_le (by rw [← Lib.size_eq]; omega), chars_nil, List.append_nil] at hch
   rw [← hch] at hown
   exact ⟨_, rfl, ownsRow_mono hown (by omega), hbel⟩
end Go.Proofs.YtgfmiladfeoldaaGreatDoor
namespace Go.Proofs.YtgfmiladfeoldaaGreatDoor
open Go.RowKit LexP
def colRes (l : Bytes) : Nat × Nat := if (chars l).all notBad then ((chars l).length, 0) else (0, 12)
def ColPost (l : Bytes) (w : World) (e : Ending) (w' : World) : Prop :=
 e = .returned (.tuple #[.int .i64 (colRes l).1, .int .i64 (colRes l).2]) ∧ Below w.heap.size w w'
set_option maxRecDepth 100000 in
set_option maxHeartbeats 1000000 in
theorem columns_big (s : ByteArray) (w : World) (hs : s.size ≤ 67108864) :
  Calls Tryz.prog 91 #[.string s] w (ColPost s.data.toList w) := by
 go_enter Tryz.func91, Tryz.ntmps91
 go_wp2_with fail
 refine (chars_any s _ hs).mono ?_
 rintro e w1 ⟨v, rfl, hown, hbel⟩
 have hN : (chars s.data.toList).length ≤ 67108864 := by have := chars_len s.data.toList; rw [← Lib.size_eq] at this; omega
 have HR : ∀ (a : Nat × Nat), a = colRes s.data.toList → ColPost s.data.toList w (.returned (.tuple #[.int .i64 (a.1 : Nat), .int .i64 (a.2 : Nat)])) w1 := fun a ha => ⟨by rw [ha], hbel⟩
 have HC : colRes s.data.toList = if (chars s.data.toList).all notBad then ((chars s.data.toList).length, 0) else (0, 12) := rfl
 generalize chars s.data.toList = cs at *
 have HR := Lib.hid HR
 have HC := Lib.hid HC
 obtain ⟨ao, cap, rfl, hnc, hcm, hsh⟩ := ownsRow_shape hown
 go_wp2_with fail
 have HSH := Lib.hid hsh
 have HB := Lib.hid hbel
 clear hown hsh hbel
 go_loopw [4, 10] (fun n i wr => ∃ k : Nat, k ≤ cs.length ∧ n = .int .i64 k ∧ i = .int .i64 k ∧ Below w1.heap.size w1 wr ∧ (cs.take k).all notBad = true) (fun _ i _ => cs.length - (intOf i).toNat)
 case atStart => exact ⟨0, Nat.zero_le _, rfl, rfl, Below.refl _ _, rfl⟩
 case round =>
  obtain ⟨k, hk, rfl, rfl, hbk, hall⟩ := hrel
  have HALL := Lib.hid hall
  clear hall
  by_cases hlt : k < cs.length
  ·obtain ⟨c, hc⟩ : ∃ c, cs[k]? = some c := ⟨cs[k], List.getElem?_eq_getElem hlt⟩
   obtain ⟨g, rfl, hbg, hgs, hcell⟩ := HSH.out (by omega)
   obtain ⟨c1, c2, c3⟩ := chCells_at cs 0 k c hc
   have e1 : wr.cell? ⟨g, k * 3, none⟩ = some (.int .i64 (kd c : Nat)) := by rw [hbk.cell (p := ⟨g, _, none⟩) hgs, hcell _ (by omega)]; exact c1
   have e2 : wr.cell? ⟨g, k * 3 + 1, none⟩ = some (.int .i32 (rn c : Nat)) := by rw [hbk.cell (p := ⟨g, _, none⟩) hgs, hcell _ (by omega)]; exact c2
   have e3 : wr.cell? ⟨g, k * 3 + 2, none⟩ = some (.int .i64 (0 + (bytesOf (cs.take k)).length : Nat)) := by rw [hbk.cell (p := ⟨g, _, none⟩) hgs, hcell _ (by omega)]; exact c3
   have hz := hbk.size
   clear c1 c2 c3 hcell HSH
   have HCK := Lib.hid hc
   clear hc
   by_cases hb : kd c = 0
   ·have hb1 : ((kd c : Int) == 0) = true := by simp [hb]
    have HBD := Lib.hid hb
    clear hb
    go_wp2
    go_ret2
    have : cs.all notBad = false := by
     rw [List.all_eq_false]
     exact ⟨c, List.mem_of_getElem? HCK.out, by simp [notBad, HBD.out]⟩
    obtain ⟨h1, h2⟩ := HR.out (0, 12) (by rw [HC.out, this]; rfl)
    exact ⟨h1, h2.trans ((hbk.mono HB.out.size).alloc (by have := HB.out.size; omega) _)⟩
   ·have hb1 : ((kd c : Int) == 0) = false := by simp [hb]
    go_wp2
    exact ⟨⟨k + 1, by omega, by go_num, by go_num, hbk.alloc hz _, by rw [List.take_add_one, HCK.out]; simp [HALL.out, notBad, hb]⟩, by simp [intOf]; omega⟩
  ·go_wp2
   go_ret2
   have hk' : k = cs.length := by omega
   have h1 := HALL.out
   rw [hk', List.take_length] at h1
   obtain ⟨h1, h2⟩ := HR.out (cs.length, 0) (by rw [HC.out, h1]; rfl)
   rw [hk']
   exact ⟨h1, h2.trans (hbk.mono HB.out.size)⟩
end Go.Proofs.YtgfmiladfeoldaaGreatDoor
