/- Joined texts of this claim's proof: Shelf, LexPure. -/
import Derived.Shelf.Strings.Builder1
import Derived.Shelf.Strings.Builder2
import Derived.Shelf.Strings.OnBuilder
import Derived.Shelf.Small.Utf8
import Derived.Shelf.Small.Bits
import Derived.Shelf.Small.Strs
import Derived.Shelf.Strings.BuilderF
import Derived.Shelf.Strings.BuilderK
import Derived.Shelf.Strings.Builder2Cap
import Derived.Shelf.Strconv.Itoa0
import Derived.Shelf.Strconv.Itoa1
import Derived.Shelf.LaysM
import Derived.Shelf.Strconv.Itoa2
import Derived.Shelf.Strconv.Itoa3
import Derived.Shelf.Strings.Search1
import Derived.Shelf.Strings.Search2
import Derived.Shelf.Strings.Search3
import Derived.Shelf.Strings.Shaped
import Derived.Shelf.Strings.Prefix
import Derived.Shelf.Strings.Runes
import Derived.Shelf.Bits.Mul64
import Derived.Shelf.Strings.BuilderCap
import Derived.Shelf.Slices.Equal
import Derived.Shelf.Slices.Empties2
import Derived.Test.YtgfmiladfeoldaaGreatDoorProg
import Derived.Lib.IndexMore
set_option linter.unusedSimpArgs false
set_option linter.unusedVariables false
namespace Go.Proofs
open Go.Shelf
def Tryz.lays156_ren : Go.Shelf.Ren := ⟨fun | 156 => 123 | 165 => 172 | 166 => 105 | 169 => 52 | 240 => 165 | 241 => 218 | 276 => 212 | 277 => 240 | n => n, fun | 31 => 105 | 9 => 9 | 3 => 3 | 4 => 4 | 0 => 0 | 20 => 20 | 72 => 90 | 76 => 141 | 70 => 87 | 37 => 88 | 75 => 139 | 127 => 145 | 164 => 210 | 5 => 5 | 80 => 94 | n => n, fun | n => n⟩
theorem Tryz.lays156 : Go.Proofs.Lays.n156 Tryz.prog Tryz.lays156_ren := {
 mixed := by kernel_rfl
 f156 := Tryz.func123.trans (congrArg some (by kernel_rfl))
 f165 := Tryz.func172.trans (congrArg some (by kernel_rfl))
 f166 := Tryz.func105.trans (congrArg some (by kernel_rfl))
 f169 := Tryz.func52.trans (congrArg some (by kernel_rfl))
 f240 := Tryz.func165.trans (congrArg some (by kernel_rfl))
 f241 := Tryz.func218.trans (congrArg some (by kernel_rfl))
 f276 := Tryz.func212.trans (congrArg some (by kernel_rfl))
 f277 := Tryz.func240.trans (congrArg some (by kernel_rfl))
 t0 := Tryz.underlying0
 a0 := Tryz.isAgg0
 z0 := Tryz.sizeOf0
 v0 := Tryz.zeroValue0
 t3 := Tryz.underlying3
 a3 := Tryz.isAgg3
 z3 := Tryz.sizeOf3
 v3 := Tryz.zeroValue3
 t4 := Tryz.underlying4
 a4 := Tryz.isAgg4
 z4 := Tryz.sizeOf4
 v4 := Tryz.zeroValue4
 t9 := Tryz.underlying9
 a9 := Tryz.isAgg9
 z9 := Tryz.sizeOf9
 v9 := Tryz.zeroValue9
 t20 := Tryz.underlying20
 a20 := Tryz.isAgg20
 z20 := Tryz.sizeOf20
 v20 := Tryz.zeroValue20
 t31 := Tryz.underlying105
 a31 := Tryz.isAgg105
 z31 := Tryz.sizeOf105
 v31 := Tryz.zeroValue105
 t37 := Tryz.underlying88
 a37 := Tryz.isAgg88
 z37 := Tryz.sizeOf88
 v37 := Tryz.zeroValue88
 t70 := Tryz.underlying87
 a70 := Tryz.isAgg87
 z70 := Tryz.sizeOf87
 v70 := Tryz.zeroValue87
 t72 := Tryz.underlying90
 a72 := Tryz.isAgg90
 z72 := Tryz.sizeOf90
 v72 := Tryz.zeroValue90
 t75 := Tryz.underlying139
 a75 := Tryz.isAgg139
 z75 := Tryz.sizeOf139
 v75 := Tryz.zeroValue139
 t76 := Tryz.underlying141
 a76 := Tryz.isAgg141
 z76 := Tryz.sizeOf141
 v76 := Tryz.zeroValue141
 t127 := Tryz.underlying145
 a127 := Tryz.isAgg145
 z127 := Tryz.sizeOf145
 v127 := Tryz.zeroValue145
 t164 := Tryz.underlying210
 a164 := Tryz.isAgg210
 z164 := Tryz.sizeOf210
 v164 := Tryz.zeroValue210 }
theorem Tryz.Builder_Extra_156 : Builder.Extra Tryz.prog Tryz.lays156_ren := {
 sizeBuilder := by kernel_rfl
 liesBuilder := by kernel_rfl
 t5 := Tryz.underlying5
 a5 := Tryz.isAgg5
 z5 := Tryz.sizeOf5
 v5 := Tryz.zeroValue5
 infoByte := by kernel_rfl
 cellsByte := by kernel_rfl
 sizeByte := by kernel_rfl
 neB5 := by decide }
open Go.RowKit in
theorem Tryz.strings_Join_none (a : Option Addr) (c : Nat) (sep : ByteArray) (w : World) :
  Calls Tryz.prog 123 #[.slice a 0 c, .string sep] w fun e w' => e = .returned (.string ⟨#[]⟩) ∧ w' = w := Any.strings_Join_none Tryz.lays156 Tryz.Builder_Extra_156 a c sep w
open Go.RowKit in
theorem Tryz.strings_Join (bk o c : Nat) (xs : List ByteArray) (sep : ByteArray) (w : World) (hcells : ∀ (j : Nat) x, xs[j]? = some x → w.cell? ⟨bk, o + j, none⟩ = some (.string x)) (hbk : bk < w.heap.size) (hN : xs.length ≤ 140737488355328) (hcap : xs.length ≤ c) (hlen : (Lib.join (xs.map (·.data.toList)) sep.data.toList).length ≤ 140737488355328) :
  Calls Tryz.prog 123 #[.slice (some ⟨bk, o, none⟩) xs.length c, .string sep] w fun e w' => e = .returned (.string ⟨(Lib.join (xs.map (·.data.toList)) sep.data.toList).toArray⟩) ∧ Below w.heap.size w w' := Any.strings_Join Tryz.lays156 Tryz.Builder_Extra_156 bk o c xs sep w hcells hbk hN hcap hlen
def Tryz.lays134_ren : Go.Shelf.Ren := ⟨fun | 134 => 278 | 129 => 116 | n => n, fun | 53 => 101 | 3 => 3 | 4 => 4 | 46 => 188 | 5 => 5 | 9 => 9 | n => n, fun | n => n⟩
theorem Tryz.lays134 : Go.Proofs.Lays.n134 Tryz.prog Tryz.lays134_ren := {
 mixed := by kernel_rfl
 f129 := Tryz.func116.trans (congrArg some (by kernel_rfl))
 f134 := Tryz.func278.trans (congrArg some (by kernel_rfl))
 t3 := Tryz.underlying3
 a3 := Tryz.isAgg3
 z3 := Tryz.sizeOf3
 v3 := Tryz.zeroValue3
 t4 := Tryz.underlying4
 a4 := Tryz.isAgg4
 z4 := Tryz.sizeOf4
 v4 := Tryz.zeroValue4
 t5 := Tryz.underlying5
 a5 := Tryz.isAgg5
 z5 := Tryz.sizeOf5
 v5 := Tryz.zeroValue5
 t9 := Tryz.underlying9
 a9 := Tryz.isAgg9
 z9 := Tryz.sizeOf9
 v9 := Tryz.zeroValue9
 t46 := Tryz.underlying188
 a46 := Tryz.isAgg188
 z46 := Tryz.sizeOf188
 v46 := Tryz.zeroValue188
 t53 := Tryz.underlying101
 a53 := Tryz.isAgg101
 z53 := Tryz.sizeOf101
 v53 := Tryz.zeroValue101 }
theorem Tryz.bits_LeadingZeros64 (x : Int) (w : World) (h0 : 0 ≤ x) (h1 : x ≤ 18446744073709551615) :
  Calls Tryz.prog 278 #[.int .u64 x] w fun e w' => e = .returned (.int .i64 (64 - (Lib.bitLen x.toNat : Int))) ∧ w' = w := Any.bits_LeadingZeros64 Tryz.lays134 x w h0 h1
def Tryz.lays129_ren : Go.Shelf.Ren := ⟨fun | 129 => 116 | n => n, fun | 53 => 101 | 3 => 3 | 4 => 4 | 46 => 188 | 5 => 5 | 9 => 9 | n => n, fun | n => n⟩
theorem Tryz.lays129 : Go.Proofs.Lays.n129 Tryz.prog Tryz.lays129_ren := {
 mixed := by kernel_rfl
 f129 := Tryz.func116.trans (congrArg some (by kernel_rfl))
 t3 := Tryz.underlying3
 a3 := Tryz.isAgg3
 z3 := Tryz.sizeOf3
 v3 := Tryz.zeroValue3
 t4 := Tryz.underlying4
 a4 := Tryz.isAgg4
 z4 := Tryz.sizeOf4
 v4 := Tryz.zeroValue4
 t5 := Tryz.underlying5
 a5 := Tryz.isAgg5
 z5 := Tryz.sizeOf5
 v5 := Tryz.zeroValue5
 t9 := Tryz.underlying9
 a9 := Tryz.isAgg9
 z9 := Tryz.sizeOf9
 v9 := Tryz.zeroValue9
 t46 := Tryz.underlying188
 a46 := Tryz.isAgg188
 z46 := Tryz.sizeOf188
 v46 := Tryz.zeroValue188
 t53 := Tryz.underlying101
 a53 := Tryz.isAgg101
 z53 := Tryz.sizeOf101
 v53 := Tryz.zeroValue101 }
theorem Tryz.bits_Len64 (x : Int) (w : World) (h0 : 0 ≤ x) (h1 : x ≤ 18446744073709551615) :
  Calls Tryz.prog 116 #[.int .u64 x] w fun e w' => e = .returned (.int .i64 (Lib.bitLen x.toNat)) ∧ w' = w := Any.bits_Len64 Tryz.lays129 x w h0 h1
def Tryz.laysM246_ren : Go.Shelf.Ren := ⟨fun | 246 => 142 | 283 => 183 | 284 => 184 | 285 => 185 | 286 => 186 | 129 => 116 | 317 => 221 | 318 => 222 | 319 => 223 | 320 => 224 | 337 => 242 | 338 => 243 | n => n, fun | 2 => 2 | 3 => 3 | 9 => 9 | 4 => 4 | 171 => 197 | 0 => 0 | 53 => 101 | 37 => 88 | 5 => 5 | 173 => 199 | 212 => 221 | 51 => 222 | 20 => 20 | 213 => 223 | 46 => 188 | 232 => 245 | 233 => 246 | n => n, fun | 17 => 0 | 18 => 2 | 19 => 3 | n => n⟩
def Tryz.laysM243_ren : Go.Shelf.Ren := ⟨fun | 243 => 79 | 246 => 142 | 283 => 183 | 284 => 184 | 285 => 185 | 286 => 186 | 129 => 116 | 317 => 221 | 318 => 222 | 319 => 223 | 320 => 224 | 337 => 242 | 338 => 243 | n => n, fun | 3 => 3 | 9 => 9 | 2 => 2 | 4 => 4 | 171 => 197 | 0 => 0 | 53 => 101 | 37 => 88 | 5 => 5 | 173 => 199 | 212 => 221 | 51 => 222 | 20 => 20 | 213 => 223 | 46 => 188 | 232 => 245 | 233 => 246 | n => n, fun | 17 => 0 | 18 => 2 | 19 => 3 | n => n⟩
def Tryz.laysM171_ren : Go.Shelf.Ren := ⟨fun | 171 => 41 | 243 => 79 | 246 => 142 | 283 => 183 | 284 => 184 | 285 => 185 | 286 => 186 | 129 => 116 | 317 => 221 | 318 => 222 | 319 => 223 | 320 => 224 | 337 => 242 | 338 => 243 | n => n, fun | 3 => 3 | 9 => 9 | 2 => 2 | 4 => 4 | 171 => 197 | 0 => 0 | 53 => 101 | 37 => 88 | 5 => 5 | 173 => 199 | 212 => 221 | 51 => 222 | 20 => 20 | 213 => 223 | 46 => 188 | 232 => 245 | 233 => 246 | n => n, fun | 17 => 0 | 18 => 2 | 19 => 3 | n => n⟩
def Tryz.lays171_ren : Go.Shelf.Ren := ⟨fun | 171 => 41 | 243 => 79 | 246 => 142 | 283 => 183 | 284 => 184 | 285 => 185 | 286 => 186 | 129 => 116 | 317 => 221 | 318 => 222 | 319 => 223 | 320 => 224 | 337 => 242 | 338 => 243 | n => n, fun | 3 => 3 | 9 => 9 | 2 => 2 | 4 => 4 | 171 => 197 | 0 => 0 | 53 => 101 | 37 => 88 | 5 => 5 | 173 => 199 | 212 => 221 | 51 => 222 | 20 => 20 | 213 => 223 | 46 => 188 | 232 => 245 | 233 => 246 | n => n, fun | 17 => 0 | 18 => 2 | 19 => 3 | n => n⟩
theorem Tryz.lays171 : Go.Proofs.Lays.n171 Tryz.prog Tryz.lays171_ren := {
 mixed := by kernel_rfl
 f129 := Tryz.func116.trans (congrArg some (by kernel_rfl))
 f171 := Tryz.func41.trans (congrArg some (by kernel_rfl))
 f243 := Tryz.func79.trans (congrArg some (by kernel_rfl))
 f246 := Tryz.func142.trans (congrArg some (by kernel_rfl))
 f283 := Tryz.func183.trans (congrArg some (by kernel_rfl))
 f284 := Tryz.func184.trans (congrArg some (by kernel_rfl))
 f285 := Tryz.func185.trans (congrArg some (by kernel_rfl))
 f286 := Tryz.func186.trans (congrArg some (by kernel_rfl))
 f317 := Tryz.func221.trans (congrArg some (by kernel_rfl))
 f318 := Tryz.func222.trans (congrArg some (by kernel_rfl))
 f319 := Tryz.func223.trans (congrArg some (by kernel_rfl))
 f320 := Tryz.func224.trans (congrArg some (by kernel_rfl))
 f337 := Tryz.func242.trans (congrArg some (by kernel_rfl))
 f338 := Tryz.func243.trans (congrArg some (by kernel_rfl))
 t0 := Tryz.underlying0
 a0 := Tryz.isAgg0
 z0 := Tryz.sizeOf0
 v0 := Tryz.zeroValue0
 t2 := Tryz.underlying2
 a2 := Tryz.isAgg2
 z2 := Tryz.sizeOf2
 v2 := Tryz.zeroValue2
 t3 := Tryz.underlying3
 a3 := Tryz.isAgg3
 z3 := Tryz.sizeOf3
 v3 := Tryz.zeroValue3
 t4 := Tryz.underlying4
 a4 := Tryz.isAgg4
 z4 := Tryz.sizeOf4
 v4 := Tryz.zeroValue4
 t5 := Tryz.underlying5
 a5 := Tryz.isAgg5
 z5 := Tryz.sizeOf5
 v5 := Tryz.zeroValue5
 t9 := Tryz.underlying9
 a9 := Tryz.isAgg9
 z9 := Tryz.sizeOf9
 v9 := Tryz.zeroValue9
 t20 := Tryz.underlying20
 a20 := Tryz.isAgg20
 z20 := Tryz.sizeOf20
 v20 := Tryz.zeroValue20
 t37 := Tryz.underlying88
 a37 := Tryz.isAgg88
 z37 := Tryz.sizeOf88
 v37 := Tryz.zeroValue88
 t46 := Tryz.underlying188
 a46 := Tryz.isAgg188
 z46 := Tryz.sizeOf188
 v46 := Tryz.zeroValue188
 t51 := Tryz.underlying222
 a51 := Tryz.isAgg222
 z51 := Tryz.sizeOf222
 v51 := Tryz.zeroValue222
 t53 := Tryz.underlying101
 a53 := Tryz.isAgg101
 z53 := Tryz.sizeOf101
 v53 := Tryz.zeroValue101
 t171 := Tryz.underlying197
 a171 := Tryz.isAgg197
 z171 := Tryz.sizeOf197
 v171 := Tryz.zeroValue197
 t173 := Tryz.underlying199
 a173 := Tryz.isAgg199
 z173 := Tryz.sizeOf199
 v173 := Tryz.zeroValue199
 t212 := Tryz.underlying221
 a212 := Tryz.isAgg221
 z212 := Tryz.sizeOf221
 v212 := Tryz.zeroValue221
 t213 := Tryz.underlying223
 a213 := Tryz.isAgg223
 z213 := Tryz.sizeOf223
 t232 := Tryz.underlying245
 a232 := Tryz.isAgg245
 z232 := Tryz.sizeOf245
 v232 := Tryz.zeroValue245
 t233 := Tryz.underlying246
 a233 := Tryz.isAgg246
 z233 := Tryz.sizeOf246
 v233 := Tryz.zeroValue246
 g17 := by kernel_rfl
 g18 := by kernel_rfl
 g19 := by kernel_rfl }
open Go.RowKit Go.Sort Go.Lib in
theorem Tryz.strconv_Itoa_small (i : Nat) (hi : i < 100) (w : World) :
  Calls Tryz.prog 41 #[.int .i64 i] w fun e w' => e = .returned (.string ⟨(Lib.decDigits i).toArray⟩) ∧ w' = w := Any.strconv_Itoa_small Tryz.lays171 i hi w
def Tryz.lays219_ren : Go.Shelf.Ren := ⟨fun | 219 => 250 | 217 => 265 | 225 => 264 | 224 => 263 | 267 => 266 | 266 => 284 | 314 => 285 | n => n, fun | 9 => 9 | 3 => 3 | 4 => 4 | 5 => 5 | 46 => 188 | 146 => 263 | 51 => 222 | n => n, fun | 1 => 1 | n => n⟩
def Tryz.lays144_ren : Go.Shelf.Ren := ⟨fun | 144 => 205 | 143 => 234 | 219 => 250 | 217 => 265 | 225 => 264 | 224 => 263 | 267 => 266 | 266 => 284 | 314 => 285 | n => n, fun | 9 => 9 | 4 => 4 | 3 => 3 | 5 => 5 | 46 => 188 | 146 => 263 | 51 => 222 | n => n, fun | 1 => 1 | n => n⟩
theorem Tryz.lays144 : Go.Proofs.Lays.n144 Tryz.prog Tryz.lays144_ren := {
 mixed := by kernel_rfl
 f143 := Tryz.func234.trans (congrArg some (by kernel_rfl))
 f144 := Tryz.func205.trans (congrArg some (by kernel_rfl))
 f217 := Tryz.func265.trans (congrArg some (by kernel_rfl))
 f219 := Tryz.func250.trans (congrArg some (by kernel_rfl))
 f224 := Tryz.func263.trans (congrArg some (by kernel_rfl))
 f225 := Tryz.func264.trans (congrArg some (by kernel_rfl))
 f266 := Tryz.func284.trans (congrArg some (by kernel_rfl))
 f267 := Tryz.func266.trans (congrArg some (by kernel_rfl))
 f314 := Tryz.func285.trans (congrArg some (by kernel_rfl))
 t3 := Tryz.underlying3
 a3 := Tryz.isAgg3
 z3 := Tryz.sizeOf3
 v3 := Tryz.zeroValue3
 t4 := Tryz.underlying4
 a4 := Tryz.isAgg4
 z4 := Tryz.sizeOf4
 v4 := Tryz.zeroValue4
 t5 := Tryz.underlying5
 a5 := Tryz.isAgg5
 z5 := Tryz.sizeOf5
 v5 := Tryz.zeroValue5
 t9 := Tryz.underlying9
 a9 := Tryz.isAgg9
 z9 := Tryz.sizeOf9
 v9 := Tryz.zeroValue9
 t46 := Tryz.underlying188
 a46 := Tryz.isAgg188
 z46 := Tryz.sizeOf188
 v46 := Tryz.zeroValue188
 t51 := Tryz.underlying222
 a51 := Tryz.isAgg222
 z51 := Tryz.sizeOf222
 v51 := Tryz.zeroValue222
 t146 := Tryz.underlying263
 a146 := Tryz.isAgg263
 z146 := Tryz.sizeOf263
 v146 := Tryz.zeroValue263
 g1 := by kernel_rfl }
open Go.RowKit Go.Lib in
theorem Tryz.strings_Contains (s sub : ByteArray) (m : Int) (w : World) (hs : s.size < 4294967281) (hm : w.cell? ⟨1, 0, none⟩ = some (.int .i64 m)) :
  Calls Tryz.prog 205 #[.string s, .string sub] w fun e w' => e = .returned (.bool (Lib.contains s.data.toList sub.data.toList)) ∧ w' = w := Any.strings_Contains Tryz.lays144 s sub m w hs hm
def Tryz.lays206_ren : Go.Shelf.Ren := ⟨fun | 206 => 232 | n => n, fun | 9 => 9 | 4 => 4 | 3 => 3 | n => n, fun | n => n⟩
def Tryz.lays99_ren : Go.Shelf.Ren := ⟨fun | 99 => 201 | 206 => 232 | n => n, fun | 9 => 9 | 4 => 4 | 3 => 3 | n => n, fun | n => n⟩
theorem Tryz.lays99 : Go.Proofs.Lays.n99 Tryz.prog Tryz.lays99_ren := {
 mixed := by kernel_rfl
 f99 := Tryz.func201.trans (congrArg some (by kernel_rfl))
 f206 := Tryz.func232.trans (congrArg some (by kernel_rfl))
 t3 := Tryz.underlying3
 a3 := Tryz.isAgg3
 z3 := Tryz.sizeOf3
 v3 := Tryz.zeroValue3
 t4 := Tryz.underlying4
 a4 := Tryz.isAgg4
 z4 := Tryz.sizeOf4
 v4 := Tryz.zeroValue4
 t9 := Tryz.underlying9
 a9 := Tryz.isAgg9
 z9 := Tryz.sizeOf9
 v9 := Tryz.zeroValue9 }
open Go.RowKit Go.Lib in
theorem Tryz.strings_HasPrefix (s p : ByteArray) (w : World) :
  Calls Tryz.prog 201 #[.string s, .string p] w fun e w' => e = .returned (.bool (Lib.hasPrefix s.data.toList p.data.toList)) ∧ w' = w := Any.strings_HasPrefix Tryz.lays99 s p w
def Tryz.lays100_ren : Go.Shelf.Ren := ⟨fun | 100 => 204 | 207 => 233 | n => n, fun | 9 => 9 | 4 => 4 | 3 => 3 | n => n, fun | n => n⟩
theorem Tryz.lays100 : Go.Proofs.Lays.n100 Tryz.prog Tryz.lays100_ren := {
 mixed := by kernel_rfl
 f100 := Tryz.func204.trans (congrArg some (by kernel_rfl))
 f207 := Tryz.func233.trans (congrArg some (by kernel_rfl))
 t3 := Tryz.underlying3
 a3 := Tryz.isAgg3
 z3 := Tryz.sizeOf3
 v3 := Tryz.zeroValue3
 t4 := Tryz.underlying4
 a4 := Tryz.isAgg4
 z4 := Tryz.sizeOf4
 v4 := Tryz.zeroValue4
 t9 := Tryz.underlying9
 a9 := Tryz.isAgg9
 z9 := Tryz.sizeOf9
 v9 := Tryz.zeroValue9 }
open Go.RowKit Go.Lib in
theorem Tryz.strings_HasSuffix (s p : ByteArray) (w : World) (hs : s.size ≤ 9223372036854775807) :
  Calls Tryz.prog 204 #[.string s, .string p] w fun e w' => e = .returned (.bool (Lib.hasSuffix s.data.toList p.data.toList)) ∧ w' = w := Any.strings_HasSuffix Tryz.lays100 s p w hs
def Tryz.lays151_ren : Go.Shelf.Ren := ⟨fun | 151 => 231 | 152 => 249 | 137 => 261 | 119 => 262 | 224 => 263 | 225 => 264 | 217 => 265 | 266 => 284 | n => n, fun | 9 => 9 | 21 => 21 | 4 => 4 | 3 => 3 | 5 => 5 | 0 => 0 | 46 => 188 | n => n, fun | n => n⟩
theorem Tryz.lays151 : Go.Proofs.Lays.n151 Tryz.prog Tryz.lays151_ren := {
 mixed := by kernel_rfl
 f119 := Tryz.func262.trans (congrArg some (by kernel_rfl))
 f137 := Tryz.func261.trans (congrArg some (by kernel_rfl))
 f151 := Tryz.func231.trans (congrArg some (by kernel_rfl))
 f152 := Tryz.func249.trans (congrArg some (by kernel_rfl))
 f217 := Tryz.func265.trans (congrArg some (by kernel_rfl))
 f224 := Tryz.func263.trans (congrArg some (by kernel_rfl))
 f225 := Tryz.func264.trans (congrArg some (by kernel_rfl))
 f266 := Tryz.func284.trans (congrArg some (by kernel_rfl))
 t0 := Tryz.underlying0
 a0 := Tryz.isAgg0
 z0 := Tryz.sizeOf0
 v0 := Tryz.zeroValue0
 t3 := Tryz.underlying3
 a3 := Tryz.isAgg3
 z3 := Tryz.sizeOf3
 v3 := Tryz.zeroValue3
 t4 := Tryz.underlying4
 a4 := Tryz.isAgg4
 z4 := Tryz.sizeOf4
 v4 := Tryz.zeroValue4
 t5 := Tryz.underlying5
 a5 := Tryz.isAgg5
 z5 := Tryz.sizeOf5
 v5 := Tryz.zeroValue5
 t9 := Tryz.underlying9
 a9 := Tryz.isAgg9
 z9 := Tryz.sizeOf9
 v9 := Tryz.zeroValue9
 t21 := Tryz.underlying21
 a21 := Tryz.isAgg21
 z21 := Tryz.sizeOf21
 v21 := Tryz.zeroValue21
 t46 := Tryz.underlying188
 a46 := Tryz.isAgg188
 z46 := Tryz.sizeOf188
 v46 := Tryz.zeroValue188 }
open Go.RowKit Go.Lib in
theorem Tryz.strings_ContainsRune_ascii (s : ByteArray) (r : Int) (w : World) (h0 : 0 ≤ r) (h1 : r < 128) :
  Calls Tryz.prog 231 #[.string s, .int .i32 r] w fun e w' => e = .returned (.bool (decide (0 ≤ Lib.indexByte s.data.toList r.toNat.toUInt8))) ∧ w' = w := Any.strings_ContainsRune_ascii Tryz.lays151 s r w h0 h1
def Tryz.lays264_ren : Go.Shelf.Ren := ⟨fun | 264 => 287 | n => n, fun | 53 => 101 | 46 => 188 | n => n, fun | n => n⟩
theorem Tryz.lays264 : Go.Proofs.Lays.n264 Tryz.prog Tryz.lays264_ren := {
 mixed := by kernel_rfl
 f264 := Tryz.func287.trans (congrArg some (by kernel_rfl))
 t46 := Tryz.underlying188
 a46 := Tryz.isAgg188
 z46 := Tryz.sizeOf188
 v46 := Tryz.zeroValue188
 t53 := Tryz.underlying101
 a53 := Tryz.isAgg101
 z53 := Tryz.sizeOf101
 v53 := Tryz.zeroValue101 }
open Go.RowKit Go.Lib in
theorem Tryz.bits_Mul64 (x y : Nat) (hx : x < 18446744073709551616) (hy : y < 18446744073709551616) (w : World) :
  Calls Tryz.prog 287 #[.int .u64 x, .int .u64 y] w fun e w' => e = .returned (.tuple #[.int .u64 ((x * y / 18446744073709551616 : Nat) : Int), .int .u64 ((x * y % 18446744073709551616 : Nat) : Int)]) ∧ w' = w := Any.bits_Mul64 Tryz.lays264 x y hx hy w
def Tryz.lays111_ren : Go.Shelf.Ren := ⟨fun | 111 => 102 | n => n, fun | 28 => 41 | 3 => 3 | 4 => 4 | 0 => 0 | n => n, fun | n => n⟩
theorem Tryz.lays111 : Go.Proofs.Lays.n111 Tryz.prog Tryz.lays111_ren := {
 mixed := by kernel_rfl
 f111 := Tryz.func102.trans (congrArg some (by kernel_rfl))
 t0 := Tryz.underlying0
 a0 := Tryz.isAgg0
 z0 := Tryz.sizeOf0
 v0 := Tryz.zeroValue0
 t3 := Tryz.underlying3
 a3 := Tryz.isAgg3
 z3 := Tryz.sizeOf3
 v3 := Tryz.zeroValue3
 t4 := Tryz.underlying4
 a4 := Tryz.isAgg4
 z4 := Tryz.sizeOf4
 v4 := Tryz.zeroValue4
 t28 := Tryz.underlying41
 a28 := Tryz.isAgg41
 z28 := Tryz.sizeOf41
 v28 := Tryz.zeroValue41 }
open Go.RowKit Go.Lib in
theorem Tryz.slices_Equal_int (b1 o1 n c b2 o2 m d : Nat) (xs ys : List Int) (w : World) (hx : n ≤ xs.length) (hy : m ≤ ys.length) (hbig : n ≤ 9223372036854775807) (hbig2 : m ≤ 9223372036854775807) (hc1 : ∀ j, j < xs.length → w.cell? ⟨b1, o1 + j, none⟩ = some (.int .i64 (xs.getD j 0))) (hc2 : ∀ j, j < ys.length → w.cell? ⟨b2, o2 + j, none⟩ = some (.int .i64 (ys.getD j 0))) :
  Calls Tryz.prog 102 #[.slice (some ⟨b1, o1, none⟩) n c, .slice (some ⟨b2, o2, none⟩) m d] w fun e w' => e = .returned (.bool (xs.take n == ys.take m)) ∧ ∃ q, w' = w.drewN q := Any.slices_Equal_int Tryz.lays111 b1 o1 n c b2 o2 m d xs ys w hx hy hbig hbig2 hc1 hc2
open Go.RowKit Go.Lib in
theorem Tryz.slices_Equal_int_empty (a1 a2 : Option Addr) (c m d : Nat) (w : World) (hbig2 : m ≤ 9223372036854775807) :
  Calls Tryz.prog 102 #[.slice a1 0 c, .slice a2 m d] w fun e w' => e = .returned (.bool (decide (m = 0))) ∧ w' = w := Any.slices_Equal_int_empty Tryz.lays111 a1 a2 c m d w hbig2
end Go.Proofs
namespace LexP
abbrev Bytes := List UInt8
abbrev C := Option Nat × Bytes
abbrev Tok := Nat × Bytes × Nat
def okRune (v : Nat) : Bool := v < 0xD800 || (0xE000 ≤ v && v ≤ 0x10FFFF)
def isCont (b : UInt8) : Bool := b.toNat / 64 == 2
def dec : Bytes → Option (Nat × Nat)
 | [] => none
 | b :: t =>
  if b.toNat < 0x80 then some (b.toNat, 1)
  else if b.toNat / 32 = 6 then
   match t with
   | c :: _ => if isCont c && 0x80 ≤ (b.toNat % 32) * 64 + c.toNat % 64 then some ((b.toNat % 32) * 64 + c.toNat % 64, 2) else none
   | _ => none
  else if b.toNat / 16 = 14 then
   match t with
   | c :: d :: _ =>
    if isCont c && isCont d && 0x800 ≤ (b.toNat % 16) * 4096 + (c.toNat % 64) * 64 + d.toNat % 64 && okRune ((b.toNat % 16) * 4096 + (c.toNat % 64) * 64 + d.toNat % 64)
    then some ((b.toNat % 16) * 4096 + (c.toNat % 64) * 64 + d.toNat % 64, 3) else none
   | _ => none
  else if b.toNat / 8 = 30 then
   match t with
   | c :: d :: f :: _ =>
    if isCont c && isCont d && isCont f && 0x10000 ≤ (b.toNat % 8) * 262144 + (c.toNat % 64) * 4096 + (d.toNat % 64) * 64 + f.toNat % 64 && okRune ((b.toNat % 8) * 262144 + (c.toNat % 64) * 4096 + (d.toNat % 64) * 64 + f.toNat % 64)
    then some ((b.toNat % 8) * 262144 + (c.toNat % 64) * 4096 + (d.toNat % 64) * 64 + f.toNat % 64, 4) else none
   | _ => none
  else none
theorem dec_width {l : Bytes} {v n : Nat} (h : dec l = some (v, n)) : 1 ≤ n ∧ n ≤ l.length ∧ n ≤ 4 := by
 unfold dec at h
 split at h
 ·cases h
 ·rename_i b t
  split at h
  ·cases h; simp
  split at h
  ·split at h
   ·split at h <;> simp at h; obtain ⟨_, rfl⟩ := h; simp
   ·cases h
  split at h
  ·split at h
   ·split at h <;> simp at h; obtain ⟨_, rfl⟩ := h; simp
   ·cases h
  split at h
  ·split at h
   ·split at h <;> simp at h; obtain ⟨_, rfl⟩ := h; simp
   ·cases h
  ·cases h
theorem dec_le {l : Bytes} {v n : Nat} (h : dec l = some (v, n)) : v ≤ 0x10FFFF := by
 unfold dec at h
 split at h
 ·cases h
 ·rename_i b t
  split at h
  ·cases h; omega
  split at h
  ·split at h
   ·split at h <;> simp at h; omega
   ·cases h
  split at h
  ·split at h
   ·split at h <;> simp at h; omega
   ·cases h
  split at h
  ·split at h
   ·split at h
    ·rename_i hc
     simp only [Bool.and_eq_true, okRune, Bool.or_eq_true, decide_eq_true_eq] at hc
     simp at h; omega
    ·cases h
   ·cases h
  ·cases h
theorem dec_append {l : Bytes} {v n : Nat} (h : dec l = some (v, n)) (t : Bytes) : dec (l ++ t) = some (v, n) := by
 unfold dec at h
 split at h
 ·cases h
 ·rename_i b r
  simp only [List.cons_append]
  unfold dec
  split at h
  ·rename_i h0; simp only [h0, if_true]; exact h
  rename_i h0
  split at h
  ·rename_i h1
   split at h
   ·simp only [h0, h1, if_true, if_false, List.cons_append]; exact h
   ·cases h
  rename_i h1
  split at h
  ·rename_i h2
   split at h
   ·simp only [h0, h1, h2, if_true, if_false, List.cons_append]; exact h
   ·cases h
  rename_i h2
  split at h
  ·rename_i h3
   split at h
   ·simp only [h0, h1, h2, h3, if_true, if_false, List.cons_append]; exact h
   ·cases h
  ·cases h
def chop : Nat → Bytes → List C
 | 0, _ => []
 | _, [] => []
 | n + 1, b :: t =>
  match dec (b :: t) with
  | some (v, k) => (some v, (b :: t).take k) :: chop n ((b :: t).drop k)
  | none => (none, [b]) :: chop n t
def chars (l : Bytes) : List C := chop l.length l
theorem chop_more : ∀ (n : Nat) (l : Bytes), l.length ≤ n → chop n l = chop l.length l := by
 intro n
 induction n using Nat.strongRecOn with
 | ind n ih =>
  intro l hl
  cases l with
  | nil => cases n <;> rfl
  | cons b t =>
   cases n with
   | zero => simp at hl
   | succ n =>
    simp only [List.length_cons, chop]
    simp only [List.length_cons] at hl
    cases hd : dec (b :: t) with
    | none =>
     simp only
     rw [ih n (by omega) t (by omega)]
    | some p =>
     obtain ⟨v, k⟩ := p
     simp only
     have hk := dec_width hd
     have hdl : ((b :: t).drop k).length = t.length + 1 - k := by simp
     rw [ih n (by omega) _ (by rw [hdl]; omega)]
     by_cases hnt : t.length = n
     ·rw [hnt, ih n (by omega) _ (by rw [hdl]; omega)]
     ·rw [ih t.length (by omega) _ (by rw [hdl]; omega)]
theorem chars_nil : chars [] = [] := rfl
theorem chars_some {l : Bytes} {v k : Nat} (h : dec l = some (v, k)) : chars l = (some v, l.take k) :: chars (l.drop k) := by
 cases l with
 | nil => cases h
 | cons b t =>
  have hk := dec_width h
  unfold chars
  simp only [List.length_cons, chop, h]
  rw [chop_more t.length _ (by simp; omega)]
theorem chars_none {b : UInt8} {t : Bytes} (h : dec (b :: t) = none) : chars (b :: t) = (none, [b]) :: chars t := by
 unfold chars
 simp only [List.length_cons, chop, h]
def wid (l : Bytes) : Nat := match dec l with | some (_, k) => k | none => 1
def val (l : Bytes) : Option Nat := (dec l).map (·.1)
theorem wid_pos (l : Bytes) : 1 ≤ wid l := by
 unfold wid
 cases h : dec l with
 | none => simp
 | some p => obtain ⟨v, k⟩ := p; have := dec_width h; simp; omega
theorem wid_le {l : Bytes} (hl : l ≠ []) : wid l ≤ l.length := by
 unfold wid
 cases h : dec l with
 | none => cases l with | nil => exact absurd rfl hl | cons b t => simp
 | some p => obtain ⟨v, k⟩ := p; have := dec_width h; simp; omega
theorem chars_cons {l : Bytes} (hl : l ≠ []) : chars l = (val l, l.take (wid l)) :: chars (l.drop (wid l)) := by
 cases h : dec l with
 | none =>
  cases l with
  | nil => exact absurd rfl hl
  | cons b t => rw [chars_none h]; simp [val, wid, h]
 | some p => obtain ⟨v, k⟩ := p; rw [chars_some h]; simp [val, wid, h]
theorem chars_ind {P : Bytes → Prop} (h0 : P []) (h1 : ∀ l, l ≠ [] → P (l.drop (wid l)) → P l) : ∀ l, P l := by
 intro l
 have : ∀ n (l : Bytes), l.length ≤ n → P l := by
  intro n
  induction n with
  | zero => intro l hl; cases l with | nil => exact h0 | cons _ _ => simp at hl
  | succ n ih =>
   intro l hl
   by_cases he : l = []
   ·rw [he]; exact h0
   ·refine h1 l he (ih _ ?_)
    have := wid_pos l
    have := wid_le he
    simp only [List.length_drop]; omega
 exact this _ l (Nat.le_refl _)
theorem chars_len : ∀ l : Bytes, (chars l).length ≤ l.length := by
 apply chars_ind
 ·simp [chars_nil]
 ·intro l hl ih
  rw [chars_cons hl]
  have := wid_pos l
  have := wid_le hl
  simp only [List.length_cons, List.length_drop] at ih ⊢
  omega
def bytesOf (cs : List C) : Bytes := cs.flatMap (·.2)
theorem bytesOf_chars : ∀ l : Bytes, bytesOf (chars l) = l := by
 apply chars_ind
 ·rfl
 ·intro l hl ih
  rw [chars_cons hl]
  simp only [bytesOf, List.flatMap_cons] at ih ⊢
  rw [ih, List.take_append_drop]
theorem chars_drop : ∀ (k : Nat) (l : Bytes), (chars l).drop k = chars (l.drop (bytesOf ((chars l).take k)).length) := by
 intro k
 induction k with
 | zero => intro l; simp [bytesOf]
 | succ k ih =>
  intro l
  by_cases hl : l = []
  ·subst hl; simp [chars_nil, bytesOf]
  ·have hc := chars_cons hl
   rw [hc]
   simp only [List.drop_succ_cons, List.take_succ_cons, bytesOf, List.flatMap_cons, List.length_append]
   have hw : (l.take (wid l)).length = wid l := by have := wid_le hl; simp; omega
   rw [hw, ih, List.drop_drop]
   simp only [bytesOf]
def kindOf (r : Nat) : Nat :=
 if r = 32 ∨ r = 9 ∨ r = 0xa0 then 1
 else if r = 35 then 2
 else if 48 ≤ r ∧ r ≤ 57 then 3
 else if (97 ≤ r ∧ r ≤ 122) ∨ (65 ≤ r ∧ r ≤ 90) ∨ r = 95 then 4
 else if r = 0x2212 ∨ r = 0xd7 then 5
 else if (0xc0 ≤ r ∧ r ≤ 0x2af ∧ r ≠ 0xf7) ∨ (0x370 ≤ r ∧ r ≤ 0x3ff) then 4
 else if r < 0x80 ∧ (r.toUInt8 ∈ ([43, 45, 42, 94, 39, 40, 41, 91, 93, 123, 125, 44, 59, 58, 61] : Bytes)) then 5
 else 6
def kd (c : C) : Nat := match c.1 with | some v => kindOf v | none => 0
def rn (c : C) : Nat := match c.1 with | some v => v | none => 0xFFFD
theorem kindOf_pos (r : Nat) : 1 ≤ kindOf r ∧ kindOf r ≤ 6 := by
 unfold kindOf; repeat' split
 all_goals omega
def isNum (c : C) : Bool := kd c == 3 || rn c == 95
def isAl (c : C) : Bool := kd c == 3 || kd c == 4
def notBad (c : C) : Bool := kd c != 0
def badNum (t : Bytes) : Bool := Go.Lib.hasSuffix t [95] || Go.Lib.contains t [95, 95]
def signOf (c : C) : Bytes := if rn c = 0x2212 then [45] else if rn c = 0xd7 then [42] else c.2
def runLen (p : C → Bool) (cs : List C) : Nat := (cs.takeWhile p).length
abbrev Res := Except (Nat × Nat) (List Tok)
def Res.after (a : List Tok) : Res → Res
 | .ok l => .ok (a ++ l)
 | .error e => .error e
def toks : Nat → Nat → List C → Res
 | 0, _, _ => .ok []
 | _, _, [] => .ok []
 | n + 1, col, c :: cs =>
  if kd c = 1 then toks n (col + 1) cs
  else if kd c = 2 then
   if runLen notBad (c :: cs) < (c :: cs).length then .error (col + runLen notBad (c :: cs), 12) else .ok []
  else if kd c = 0 then .error (col, 12)
  else if kd c = 3 then
   if badNum (bytesOf ((c :: cs).take (runLen isNum (c :: cs)))) then .error (col, 7)
   else (toks n (col + runLen isNum (c :: cs)) ((c :: cs).drop (runLen isNum (c :: cs)))).after [(1, bytesOf ((c :: cs).take (runLen isNum (c :: cs))), col)]
  else if kd c = 4 then
   if 32 < (bytesOf ((c :: cs).take (runLen isAl (c :: cs)))).length then .error (col, 17)
   else (toks n (col + runLen isAl (c :: cs)) ((c :: cs).drop (runLen isAl (c :: cs)))).after [(2, bytesOf ((c :: cs).take (runLen isAl (c :: cs))), col)]
  else if kd c = 5 then (toks n (col + 1) cs).after [(3, signOf c, col)]
  else .error (col, 13)
theorem Res.after_after (a b : List Tok) (r : Res) : (r.after b).after a = r.after (a ++ b) := by
 cases r <;> simp [Res.after]
theorem Res.after_nil (r : Res) : r.after [] = r := by cases r <;> simp [Res.after]
theorem runLen_le (p : C → Bool) (cs : List C) : runLen p cs ≤ cs.length := by
 unfold runLen
 induction cs with
 | nil => simp
 | cons c cs ih => simp only [List.takeWhile_cons]; split <;> simp; exact ih
theorem runLen_pos {p : C → Bool} {c : C} {cs : List C} (h : p c = true) : 1 ≤ runLen p (c :: cs) := by
 simp [runLen, h]
theorem toks_more : ∀ (n : Nat) (col : Nat) (cs : List C), cs.length ≤ n → toks n col cs = toks cs.length col cs := by
 intro n
 induction n using Nat.strongRecOn with
 | ind n ih =>
  intro col cs hl
  cases cs with
  | nil => cases n <;> rfl
  | cons c cs =>
   cases n with
   | zero => simp at hl
   | succ n =>
    simp only [List.length_cons] at hl
    have key : ∀ (m col : Nat) (r : List C), n ≤ m ∨ cs.length ≤ m → r.length ≤ cs.length → m ≤ n → toks m col r = toks r.length col r := by
     intro m col r hm hr hmn
     exact ih m (by omega) col r (by omega)
    have e : ∀ (col : Nat) (r : List C), r.length ≤ cs.length → toks n col r = toks cs.length col r := by
     intro col r hr
     rw [key n col r (.inl (Nat.le_refl _)) hr (Nat.le_refl _), key cs.length col r (.inr (Nat.le_refl _)) hr (by omega)]
    have d1 : kd c = 3 → ((c :: cs).drop (runLen isNum (c :: cs))).length ≤ cs.length := by
     intro hk
     have := runLen_pos (p := isNum) (c := c) (cs := cs) (by simp [isNum, hk])
     simp only [List.length_drop, List.length_cons]; omega
    have d2 : kd c = 4 → ((c :: cs).drop (runLen isAl (c :: cs))).length ≤ cs.length := by
     intro hk
     have := runLen_pos (p := isAl) (c := c) (cs := cs) (by simp [isAl, hk])
     simp only [List.length_drop, List.length_cons]; omega
    simp only [toks, List.length_cons]
    by_cases k1 : kd c = 1
    ·rw [if_pos k1, if_pos k1, e _ _ (Nat.le_refl _)]
    ·rw [if_neg k1, if_neg k1]
     by_cases k2 : kd c = 2
     ·rw [if_pos k2, if_pos k2]
     ·rw [if_neg k2, if_neg k2]
      by_cases k0 : kd c = 0
      ·rw [if_pos k0, if_pos k0]
      ·rw [if_neg k0, if_neg k0]
       by_cases k3 : kd c = 3
       ·rw [if_pos k3, if_pos k3, e _ _ (d1 k3)]
       ·rw [if_neg k3, if_neg k3]
        by_cases k4 : kd c = 4
        ·rw [if_pos k4, if_pos k4, e _ _ (d2 k4)]
        ·rw [if_neg k4, if_neg k4, e _ _ (Nat.le_refl _)]
def Toks (col : Nat) (cs : List C) : Res := toks cs.length col cs
theorem Toks_nil (col : Nat) : Toks col [] = .ok [] := rfl
theorem toks_Toks (n col : Nat) (cs : List C) (h : cs.length ≤ n) : toks n col cs = Toks col cs := toks_more n col cs h
theorem Toks_blank {c : C} {cs : List C} (col : Nat) (h : kd c = 1) : Toks col (c :: cs) = Toks (col + 1) cs := by
 simp only [Toks, List.length_cons, toks]; rw [if_pos h]
theorem Toks_hash {c : C} {cs : List C} (col : Nat) (h : kd c = 2) :
  Toks col (c :: cs) = if runLen notBad (c :: cs) < (c :: cs).length then .error (col + runLen notBad (c :: cs), 12) else .ok [] := by
 simp only [Toks, List.length_cons, toks, h]; simp
theorem Toks_bad {c : C} {cs : List C} (col : Nat) (h : kd c = 0) : Toks col (c :: cs) = .error (col, 12) := by
 simp only [Toks, List.length_cons, toks, h]; simp
theorem Toks_num {c : C} {cs : List C} (col : Nat) (h : kd c = 3) :
  Toks col (c :: cs) = if badNum (bytesOf ((c :: cs).take (runLen isNum (c :: cs)))) then .error (col, 7)
   else (Toks (col + runLen isNum (c :: cs)) ((c :: cs).drop (runLen isNum (c :: cs)))).after [(1, bytesOf ((c :: cs).take (runLen isNum (c :: cs))), col)] := by
 have hp := runLen_pos (p := isNum) (c := c) (cs := cs) (by simp [isNum, h])
 rw [← toks_Toks cs.length _ ((c :: cs).drop _) (by simp only [List.length_drop, List.length_cons]; omega)]
 simp only [Toks, List.length_cons, toks, h]; simp
theorem Toks_name {c : C} {cs : List C} (col : Nat) (h : kd c = 4) :
  Toks col (c :: cs) = if 32 < (bytesOf ((c :: cs).take (runLen isAl (c :: cs)))).length then .error (col, 17)
   else (Toks (col + runLen isAl (c :: cs)) ((c :: cs).drop (runLen isAl (c :: cs)))).after [(2, bytesOf ((c :: cs).take (runLen isAl (c :: cs))), col)] := by
 have hp := runLen_pos (p := isAl) (c := c) (cs := cs) (by simp [isAl, h])
 rw [← toks_Toks cs.length _ ((c :: cs).drop _) (by simp only [List.length_drop, List.length_cons]; omega)]
 simp only [Toks, List.length_cons, toks, h]; simp
theorem Toks_mark {c : C} {cs : List C} (col : Nat) (h : kd c = 5) : Toks col (c :: cs) = (Toks (col + 1) cs).after [(3, signOf c, col)] := by
 simp only [Toks, List.length_cons, toks, h]; simp
theorem Toks_other {c : C} {cs : List C} (col : Nat) (h : kd c = 6) : Toks col (c :: cs) = .error (col, 13) := by
 simp only [Toks, List.length_cons, toks, h]; simp
theorem kd_le (c : C) : kd c ≤ 6 := by
 unfold kd; split
 ·exact (kindOf_pos _).2
 ·omega
theorem runLen_eq (p : C → Bool) : ∀ (l : List C) (m : Nat), m ≤ l.length → (∀ c ∈ l.take m, p c = true) → (∀ c, l[m]? = some c → p c = false) → runLen p l = m := by
 intro l
 induction l with
 | nil => intro m hm _ _; simp at hm; subst hm; rfl
 | cons d l ih =>
  intro m hm h1 h2
  cases m with
  | zero => simp [runLen, h2 d (by simp)]
  | succ m =>
   have hd : p d = true := h1 d (by simp)
   have := ih m (by simpa using hm) (fun c hc => h1 c (by simp [hc])) (fun c hc => h2 c (by simpa using hc))
   simp only [runLen] at this
   simp [runLen, hd, this]
theorem bytes_mid (l : Bytes) (i j : Nat) (h : i ≤ j) :
  (l.drop (bytesOf ((chars l).take i)).length).take ((bytesOf ((chars l).take j)).length - (bytesOf ((chars l).take i)).length) = bytesOf (((chars l).drop i).take (j - i)) := by
 have e1 : bytesOf ((chars l).take i) ++ bytesOf ((chars l).drop i) = l := by
  have := bytesOf_chars l
  simp only [bytesOf] at *
  rw [← List.flatMap_append, List.take_append_drop, this]
 have e2 : (chars l).take j = (chars l).take i ++ ((chars l).drop i).take (j - i) := by
  have := List.take_add (l := chars l) (i := i) (j := j - i)
  rw [show i + (j - i) = j from by omega] at this
  exact this
 have e3 : bytesOf ((chars l).drop i) = bytesOf (((chars l).drop i).take (j - i)) ++ bytesOf (((chars l).drop i).drop (j - i)) := by
  simp only [bytesOf]; rw [← List.flatMap_append, List.take_append_drop]
 have e4 : l.drop (bytesOf ((chars l).take i)).length = bytesOf ((chars l).drop i) := by
  have h2 := List.drop_left (l₁ := bytesOf ((chars l).take i)) (l₂ := bytesOf ((chars l).drop i))
  rw [e1] at h2; exact h2
 rw [e4, e3, e2]
 have e5 : (bytesOf ((chars l).take i ++ ((chars l).drop i).take (j - i))).length - (bytesOf ((chars l).take i)).length = (bytesOf (((chars l).drop i).take (j - i))).length := by
  simp only [bytesOf, List.flatMap_append, List.length_append]; omega
 rw [e5, List.take_left]
theorem bytes_len (cs : List C) (i : Nat) : (bytesOf (cs.take i)).length ≤ (bytesOf cs).length := by
 have : bytesOf (cs.take i) ++ bytesOf (cs.drop i) = bytesOf cs := by simp only [bytesOf]; rw [← List.flatMap_append, List.take_append_drop]
 rw [← this, List.length_append]; omega
end LexP
