/-
 The library's contracts that this seat uses, laid by the kit's tools.
 Layer 6: what the library's functions do: their contracts in the words of the walks.
 The laws of a region that draws its order and cuts bytes or turns them into a string. No program is named here.
 Layer 6: the program's reader: texts.
 Layer 6: the walk of the program's reader of texts.
 A cheap look at a region's order: the look that the kit's quiet walk asks for, out of a list of numbers. No program is named here.
 Layer 6 in plain words: numbers, and the library's Itoa and Atoi. No program is named here.
-/
import Derived.Shelf.Small.Strs
import Derived.Shelf.Utf8.AppendRunePlain
import Derived.Shelf.Strconv.Atoi
import Derived.Shelf.Strconv.Itoa0
import Derived.Shelf.Strconv.Itoa1
import Derived.Shelf.LaysM
import Derived.Shelf.Strconv.Itoa2
import Derived.Shelf.Strconv.Itoa3
import Derived.Shelf.Strconv.AtoiErrFast
import Derived.Shelf.Strconv.ParseIntEmpty
import Derived.Shelf.Strconv.AtoiFail
import Derived.Shelf.Strconv.Clone
import Derived.Shelf.Strconv.SyntaxError
import Derived.Shelf.LaysC
import Derived.Shelf.Strconv.ToError
import Derived.Shelf.Strconv.Lower
import Derived.Shelf.Strconv.ParseUint10
import Derived.Shelf.Strconv.ParseUint10Empty
import Derived.Shelf.Strconv.ParseUint10Any
import Derived.Shelf.Strconv.ParseInt10
import Derived.Shelf.Strconv.AtoiLong
import Derived.Shelf.Strconv.AtoiInnerAll
import Derived.Shelf.Strconv.RangeError
import Derived.Shelf.Strconv.ToErrorRange
import Derived.Shelf.Strconv.AtoiAll
import Derived.Shelf.Strconv.ErrVarAll
import Derived.Shelf.Strings.Search1
import Derived.Shelf.Strings.Search2
import Derived.Shelf.Strings.Cut
import Derived.Shelf.Strings.Shaped
import Derived.Shelf.Strconv.AppendUint10
import Derived.Shelf.Strconv.AppendInt10
import Derived.Shelf.Strconv.AppendIntPublic10
import Derived.Shelf.Spec.DecodeRune
import Derived.Shelf.Unicode.ValidAny
import Derived.Test.YtlhicfpmlncomaaGreatDoorProg
import Derived.Test.YtlhicfpmlncomaaGreatDoorF03
import Derived.Test.YtlhicfpmlncomaaGreatDoorF02
import Derived.Deep.Quiet
import Derived.BigQuiet
import Derived.Test.YtlhicfpmlncomaaGreatDoorF01
import Derived.Lib.ItoaNum
import Derived.Lib.AtoiAll
import Derived.Test.YtlhicfpmlncomaaGreatDoorF00
set_option linter.unusedSimpArgs false
set_option linter.unusedVariables false
namespace Go.Proofs
open Go.Shelf
def Tryz.lays137_ren : Go.Shelf.Ren := ⟨fun | 137 => 126 | 217 => 140 | 266 => 153 | n => n, fun | 9 => 9 | 5 => 5 | 3 => 3 | n => n, fun | n => n⟩
theorem Tryz.lays137 : Go.Proofs.Lays.n137 Tryz.prog Tryz.lays137_ren := {
 mixed := by kernel_rfl
 f137 := Tryz.func126.trans (congrArg some (by kernel_rfl))
 f217 := Tryz.func140.trans (congrArg some (by kernel_rfl))
 f266 := Tryz.func153.trans (congrArg some (by kernel_rfl))
 t3 := Tryz.underlying3
 a3 := Tryz.isAgg3
 z3 := Tryz.sizeOf3
 v3 := Tryz.zeroValue3
 t5 := Tryz.underlying5
 a5 := Tryz.isAgg5
 z5 := Tryz.sizeOf5
 v5 := Tryz.zeroValue5
 t9 := Tryz.underlying9
 a9 := Tryz.isAgg9
 z9 := Tryz.sizeOf9
 v9 := Tryz.zeroValue9 }
open Go.RowKit in
theorem Tryz.strings_IndexByte (s : ByteArray) (c : Int) (w : World) :
  Calls Tryz.prog 126 #[.string s, .int .u8 c] w fun e w' => e = .returned (.int .i64 (Lib.indexByte s.data.toList c.toNat.toUInt8)) ∧ w' = w := Any.strings_IndexByte Tryz.lays137 s c w
def Tryz.lays242_ren : Go.Shelf.Ren := ⟨fun | 242 => 133 | 278 => 148 | n => n, fun | 37 => 22 | 21 => 21 | 51 => 233 | 4 => 4 | 5 => 5 | 46 => 60 | n => n, fun | n => n⟩
theorem Tryz.lays242 : Go.Proofs.Lays.n242 Tryz.prog Tryz.lays242_ren := {
 mixed := by kernel_rfl
 f242 := Tryz.func133.trans (congrArg some (by kernel_rfl))
 f278 := Tryz.func148.trans (congrArg some (by kernel_rfl))
 t4 := Tryz.underlying4
 a4 := Tryz.isAgg4
 z4 := Tryz.sizeOf4
 v4 := Tryz.zeroValue4
 t5 := Tryz.underlying5
 a5 := Tryz.isAgg5
 z5 := Tryz.sizeOf5
 v5 := Tryz.zeroValue5
 t21 := Tryz.underlying21
 a21 := Tryz.isAgg21
 z21 := Tryz.sizeOf21
 v21 := Tryz.zeroValue21
 t37 := Tryz.underlying22
 a37 := Tryz.isAgg22
 z37 := Tryz.sizeOf22
 v37 := Tryz.zeroValue22
 t46 := Tryz.underlying60
 a46 := Tryz.isAgg60
 z46 := Tryz.sizeOf60
 v46 := Tryz.zeroValue60
 t51 := Tryz.underlying233
 a51 := Tryz.isAgg233
 z51 := Tryz.sizeOf233
 v51 := Tryz.zeroValue233 }
open Go.RowKit in
theorem Tryz.utf8_AppendRune_plain (B : Nat) (v : Value) (n : Nat) (xs : List Value) (r : Int) (hr0 : -2147483648 ≤ r) (hr1 : r ≤ 2147483647) (w : World) (hown : w.ownsRow B 5 1 v n xs) (hlen : n + 4 ≤ 140737488355328) (hBw : B ≤ w.heap.size) :
  Calls Tryz.prog 133 #[v, .int .i32 r] w fun e w' => ∃ v', e = .returned v' ∧ w'.ownsRow B 5 1 v' (n + (Lib.runeCells r).length) (xs ++ Lib.runeCells r) ∧ ∃ o, (w.alloc o).grownBy w' v.ownBlock := Any.utf8_AppendRune_plain Tryz.lays242 (by kernel_rfl) B v n xs r hr0 hr1 w hown hlen hBw
def Tryz.laysM171_ren : Go.Shelf.Ren := ⟨fun | 171 => 118 | 243 => 131 | 246 => 147 | 283 => 154 | 284 => 155 | 285 => 156 | 286 => 157 | 129 => 163 | 317 => 162 | 318 => 164 | 319 => 165 | 320 => 166 | 337 => 169 | 338 => 170 | n => n, fun | 3 => 3 | 9 => 9 | 2 => 2 | 4 => 4 | 171 => 235 | 0 => 0 | 53 => 224 | 37 => 22 | 5 => 5 | 173 => 238 | 212 => 249 | 51 => 233 | 20 => 20 | 213 => 250 | 46 => 60 | 232 => 24 | 233 => 258 | n => n, fun | 17 => 6 | 18 => 7 | 19 => 8 | n => n⟩
theorem Tryz.laysM171 : Go.Proofs.LaysM.n171 Tryz.prog Tryz.laysM171_ren := {
 mixed := by kernel_rfl
 f129 := Tryz.func163.trans (congrArg some (by kernel_rfl))
 f171 := Tryz.func118.trans (congrArg some (by kernel_rfl))
 f243 := Tryz.func131.trans (congrArg some (by kernel_rfl))
 f246 := Tryz.func147.trans (congrArg some (by kernel_rfl))
 f283 := Tryz.func154.trans (congrArg some (by kernel_rfl))
 f284 := Tryz.func155.trans (congrArg some (by kernel_rfl))
 f285 := Tryz.func156.trans (congrArg some (by kernel_rfl))
 f286 := Tryz.func157.trans (congrArg some (by kernel_rfl))
 f317 := Tryz.func162.trans (congrArg some (by kernel_rfl))
 f318 := Tryz.func164.trans (congrArg some (by kernel_rfl))
 f319 := Tryz.func165.trans (congrArg some (by kernel_rfl))
 f320 := Tryz.func166.trans (congrArg some (by kernel_rfl))
 f337 := Tryz.func169.trans (congrArg some (by kernel_rfl))
 f338 := Tryz.func170.trans (congrArg some (by kernel_rfl))
 t0 := Tryz.underlying0
 a0 := Tryz.isAgg0
 z0 := Tryz.sizeOf0
 v0 := Tryz.zeroValue0
 t2 := Tryz.underlying2
 a2 := Tryz.isAgg2
 z2 := Tryz.sizeOf2
 v2 := Tryz.zeroValue2
 t3 := Tryz.underlying3
 a3 := Tryz.isAgg3
 z3 := Tryz.sizeOf3
 v3 := Tryz.zeroValue3
 t4 := Tryz.underlying4
 a4 := Tryz.isAgg4
 z4 := Tryz.sizeOf4
 v4 := Tryz.zeroValue4
 t5 := Tryz.underlying5
 a5 := Tryz.isAgg5
 z5 := Tryz.sizeOf5
 v5 := Tryz.zeroValue5
 t9 := Tryz.underlying9
 a9 := Tryz.isAgg9
 z9 := Tryz.sizeOf9
 v9 := Tryz.zeroValue9
 t20 := Tryz.underlying20
 a20 := Tryz.isAgg20
 z20 := Tryz.sizeOf20
 v20 := Tryz.zeroValue20
 t37 := Tryz.underlying22
 a37 := Tryz.isAgg22
 z37 := Tryz.sizeOf22
 v37 := Tryz.zeroValue22
 t46 := Tryz.underlying60
 a46 := Tryz.isAgg60
 z46 := Tryz.sizeOf60
 v46 := Tryz.zeroValue60
 t51 := Tryz.underlying233
 a51 := Tryz.isAgg233
 z51 := Tryz.sizeOf233
 v51 := Tryz.zeroValue233
 t53 := Tryz.underlying224
 a53 := Tryz.isAgg224
 z53 := Tryz.sizeOf224
 v53 := Tryz.zeroValue224
 t171 := Tryz.underlying235
 a171 := Tryz.isAgg235
 z171 := Tryz.sizeOf235
 v171 := Tryz.zeroValue235
 t173 := Tryz.underlying238
 a173 := Tryz.isAgg238
 z173 := Tryz.sizeOf238
 v173 := Tryz.zeroValue238
 t212 := Tryz.underlying249
 a212 := Tryz.isAgg249
 z212 := Tryz.sizeOf249
 v212 := Tryz.zeroValue249
 t213 := Tryz.underlying250
 a213 := Tryz.isAgg250
 z213 := Tryz.sizeOf250
 t232 := Tryz.underlying24
 a232 := Tryz.isAgg24
 z232 := Tryz.sizeOf24
 v232 := Tryz.zeroValue24
 t233 := Tryz.underlying258
 a233 := Tryz.isAgg258
 z233 := Tryz.sizeOf258
 v233 := Tryz.zeroValue258
 g17 := by kernel_rfl
 g18 := by kernel_rfl
 g19 := by kernel_rfl
 i0 := by kernel_rfl
 i2 := by kernel_rfl
 i3 := by kernel_rfl
 i4 := by kernel_rfl
 i5 := by kernel_rfl
 i9 := by kernel_rfl
 i20 := by kernel_rfl
 i37 := by kernel_rfl
 i46 := by kernel_rfl
 i51 := by kernel_rfl
 i53 := by kernel_rfl
 i171 := by kernel_rfl
 i173 := by kernel_rfl
 i212 := by kernel_rfl
 i232 := by kernel_rfl
 i233 := by kernel_rfl
 m17 := by kernel_rfl
 m18 := by kernel_rfl
 m19 := by kernel_rfl }
open Go.RowKit Go.Sort Go.Lib in
theorem Tryz.strconv_Itoa (n : Int) (h0 : -9223372036854775808 ≤ n) (h1 : n ≤ 9223372036854775807) (w : World) (htab : Lib.TabIs Tryz.prog w "internal/strconv.uint64pow10" .u64 Lib.pow10Tab) :
  Calls Tryz.prog 118 #[.int .i64 n] w fun e w' => e = .returned (.string ⟨(Lib.itoa n).toArray⟩) ∧ ∃ k os, w' = grow (w.drewN k) os := Any.strconv_Itoa Tryz.laysM171 n h0 h1 w htab
def Tryz.laysC172_ren : Go.Shelf.Ren := ⟨fun | 172 => 117 | 244 => 129 | 245 => 130 | 247 => 142 | 279 => 143 | 280 => 144 | 281 => 145 | 282 => 146 | 287 => 158 | 316 => 159 | 171 => 118 | 205 => 160 | 321 => 167 | 322 => 168 | 243 => 131 | 246 => 147 | 283 => 154 | 284 => 155 | 285 => 156 | 286 => 157 | 129 => 163 | 317 => 162 | 318 => 164 | 319 => 165 | 320 => 166 | 337 => 169 | 338 => 170 | n => n, fun | 9 => 9 | 3 => 3 | 75 => 80 | 76 => 130 | 4 => 4 | 5 => 5 | 167 => 226 | 37 => 22 | 0 => 0 | 85 => 227 | 2 => 2 | 168 => 229 | 53 => 224 | 175 => 240 | 46 => 60 | 210 => 244 | 127 => 253 | 145 => 256 | 143 => 254 | 21 => 21 | 171 => 235 | 173 => 238 | 212 => 249 | 51 => 233 | 20 => 20 | 213 => 250 | 232 => 24 | 233 => 258 | 80 => 165 | n => n, fun | 15 => 4 | 16 => 5 | 17 => 6 | 18 => 7 | 19 => 8 | n => n⟩
theorem Tryz.laysC172 : Go.Proofs.LaysC.n172 Tryz.prog Tryz.laysC172_ren := {
 mixed := by kernel_rfl
 f129 := Tryz.func163.trans (congrArg some (by kernel_rfl))
 f171 := Tryz.func118.trans (congrArg some (by kernel_rfl))
 f172 := Tryz.func117.trans (congrArg some (by kernel_rfl))
 f205 := Tryz.func160.trans (congrArg some (by kernel_rfl))
 f243 := Tryz.func131.trans (congrArg some (by kernel_rfl))
 f244 := Tryz.func129.trans (congrArg some (by kernel_rfl))
 f245 := Tryz.func130.trans (congrArg some (by kernel_rfl))
 f246 := Tryz.func147.trans (congrArg some (by kernel_rfl))
 f247 := Tryz.func142.trans (congrArg some (by kernel_rfl))
 f279 := Tryz.func143.trans (congrArg some (by kernel_rfl))
 f280 := Tryz.func144.trans (congrArg some (by kernel_rfl))
 f281 := Tryz.func145.trans (congrArg some (by kernel_rfl))
 f282 := Tryz.func146.trans (congrArg some (by kernel_rfl))
 f283 := Tryz.func154.trans (congrArg some (by kernel_rfl))
 f284 := Tryz.func155.trans (congrArg some (by kernel_rfl))
 f285 := Tryz.func156.trans (congrArg some (by kernel_rfl))
 f286 := Tryz.func157.trans (congrArg some (by kernel_rfl))
 f287 := Tryz.func158.trans (congrArg some (by kernel_rfl))
 f316 := Tryz.func159.trans (congrArg some (by kernel_rfl))
 f317 := Tryz.func162.trans (congrArg some (by kernel_rfl))
 f318 := Tryz.func164.trans (congrArg some (by kernel_rfl))
 f319 := Tryz.func165.trans (congrArg some (by kernel_rfl))
 f320 := Tryz.func166.trans (congrArg some (by kernel_rfl))
 f321 := Tryz.func167.trans (congrArg some (by kernel_rfl))
 f322 := Tryz.func168.trans (congrArg some (by kernel_rfl))
 f337 := Tryz.func169.trans (congrArg some (by kernel_rfl))
 f338 := Tryz.func170.trans (congrArg some (by kernel_rfl))
 t0 := Tryz.underlying0
 a0 := Tryz.isAgg0
 z0 := Tryz.sizeOf0
 v0 := Tryz.zeroValue0
 t2 := Tryz.underlying2
 a2 := Tryz.isAgg2
 z2 := Tryz.sizeOf2
 v2 := Tryz.zeroValue2
 t3 := Tryz.underlying3
 a3 := Tryz.isAgg3
 z3 := Tryz.sizeOf3
 v3 := Tryz.zeroValue3
 t4 := Tryz.underlying4
 a4 := Tryz.isAgg4
 z4 := Tryz.sizeOf4
 v4 := Tryz.zeroValue4
 t5 := Tryz.underlying5
 a5 := Tryz.isAgg5
 z5 := Tryz.sizeOf5
 v5 := Tryz.zeroValue5
 t9 := Tryz.underlying9
 a9 := Tryz.isAgg9
 z9 := Tryz.sizeOf9
 v9 := Tryz.zeroValue9
 t20 := Tryz.underlying20
 a20 := Tryz.isAgg20
 z20 := Tryz.sizeOf20
 v20 := Tryz.zeroValue20
 t21 := Tryz.underlying21
 a21 := Tryz.isAgg21
 z21 := Tryz.sizeOf21
 v21 := Tryz.zeroValue21
 t37 := Tryz.underlying22
 a37 := Tryz.isAgg22
 z37 := Tryz.sizeOf22
 v37 := Tryz.zeroValue22
 t46 := Tryz.underlying60
 a46 := Tryz.isAgg60
 z46 := Tryz.sizeOf60
 v46 := Tryz.zeroValue60
 t51 := Tryz.underlying233
 a51 := Tryz.isAgg233
 z51 := Tryz.sizeOf233
 v51 := Tryz.zeroValue233
 t53 := Tryz.underlying224
 a53 := Tryz.isAgg224
 z53 := Tryz.sizeOf224
 v53 := Tryz.zeroValue224
 t75 := Tryz.underlying80
 a75 := Tryz.isAgg80
 z75 := Tryz.sizeOf80
 v75 := Tryz.zeroValue80
 t76 := Tryz.underlying130
 a76 := Tryz.isAgg130
 z76 := Tryz.sizeOf130
 v76 := Tryz.zeroValue130
 t85 := Tryz.underlying227
 a85 := Tryz.isAgg227
 z85 := Tryz.sizeOf227
 v85 := Tryz.zeroValue227
 t127 := Tryz.underlying253
 a127 := Tryz.isAgg253
 z127 := Tryz.sizeOf253
 v127 := Tryz.zeroValue253
 t143 := Tryz.underlying254
 a143 := Tryz.isAgg254
 z143 := Tryz.sizeOf254
 v143 := Tryz.zeroValue254
 t145 := Tryz.underlying256
 a145 := Tryz.isAgg256
 z145 := Tryz.sizeOf256
 v145 := Tryz.zeroValue256
 t167 := Tryz.underlying226
 a167 := Tryz.isAgg226
 z167 := Tryz.sizeOf226
 v167 := Tryz.zeroValue226
 t168 := Tryz.underlying229
 a168 := Tryz.isAgg229
 z168 := Tryz.sizeOf229
 v168 := Tryz.zeroValue229
 t171 := Tryz.underlying235
 a171 := Tryz.isAgg235
 z171 := Tryz.sizeOf235
 v171 := Tryz.zeroValue235
 t173 := Tryz.underlying238
 a173 := Tryz.isAgg238
 z173 := Tryz.sizeOf238
 v173 := Tryz.zeroValue238
 t175 := Tryz.underlying240
 a175 := Tryz.isAgg240
 z175 := Tryz.sizeOf240
 v175 := Tryz.zeroValue240
 t210 := Tryz.underlying244
 a210 := Tryz.isAgg244
 z210 := Tryz.sizeOf244
 v210 := Tryz.zeroValue244
 t212 := Tryz.underlying249
 a212 := Tryz.isAgg249
 z212 := Tryz.sizeOf249
 v212 := Tryz.zeroValue249
 t213 := Tryz.underlying250
 a213 := Tryz.isAgg250
 z213 := Tryz.sizeOf250
 t232 := Tryz.underlying24
 a232 := Tryz.isAgg24
 z232 := Tryz.sizeOf24
 v232 := Tryz.zeroValue24
 t233 := Tryz.underlying258
 a233 := Tryz.isAgg258
 z233 := Tryz.sizeOf258
 v233 := Tryz.zeroValue258
 g15 := by kernel_rfl
 g16 := by kernel_rfl
 g17 := by kernel_rfl
 g18 := by kernel_rfl
 g19 := by kernel_rfl
 t80 := Tryz.underlying165
 a80 := Tryz.isAgg165
 z80 := Tryz.sizeOf165
 v80 := Tryz.zeroValue165
 i0 := by kernel_rfl
 i2 := by kernel_rfl
 i3 := by kernel_rfl
 i4 := by kernel_rfl
 i5 := by kernel_rfl
 i9 := by kernel_rfl
 i20 := by kernel_rfl
 i21 := by kernel_rfl
 i37 := by kernel_rfl
 i46 := by kernel_rfl
 i51 := by kernel_rfl
 i53 := by kernel_rfl
 i75 := by kernel_rfl
 i76 := by kernel_rfl
 i80 := by kernel_rfl
 i85 := by kernel_rfl
 i127 := by kernel_rfl
 i143 := by kernel_rfl
 i145 := by kernel_rfl
 i167 := by kernel_rfl
 i168 := by kernel_rfl
 i171 := by kernel_rfl
 i173 := by kernel_rfl
 i175 := by kernel_rfl
 i210 := by kernel_rfl
 i212 := by kernel_rfl
 i232 := by kernel_rfl
 i233 := by kernel_rfl
 m15 := by kernel_rfl
 m16 := by kernel_rfl
 m17 := by kernel_rfl
 m18 := by kernel_rfl
 m19 := by kernel_rfl
 c0 := by kernel_rfl
 c2 := by kernel_rfl
 c3 := by kernel_rfl
 c4 := by kernel_rfl
 c5 := by kernel_rfl
 c9 := by kernel_rfl
 c20 := by kernel_rfl
 c21 := by kernel_rfl
 c37 := by kernel_rfl
 c46 := by kernel_rfl
 c51 := by kernel_rfl
 c53 := by kernel_rfl
 c75 := by kernel_rfl
 c76 := by kernel_rfl
 c80 := by kernel_rfl
 c85 := by kernel_rfl
 c127 := by kernel_rfl
 c143 := by kernel_rfl
 c145 := by kernel_rfl
 c167 := by kernel_rfl
 c168 := by kernel_rfl
 c171 := by kernel_rfl
 c173 := by kernel_rfl
 c175 := by kernel_rfl
 c210 := by kernel_rfl
 c212 := by kernel_rfl
 c213 := by kernel_rfl
 c232 := by kernel_rfl
 c233 := by kernel_rfl }
open Go.RowKit in
theorem Tryz.strconv_Atoi_ok (s : ByteArray) (hmax : s.size ≤ 9223372036854775806) (v : Int) (h : Lib.atoiAll s.data.toList = .ok v) (w : World) :
  Calls Tryz.prog 117 #[.string s] w fun e w' => e = .returned (.tuple #[.int .i64 v, .nilIface]) ∧ (w' = w ∨ ∃ t, w' = Lib.bytesWorld w 5 t) := Any.strconv_Atoi_ok Tryz.laysC172 s hmax v h w
open Go.RowKit in
theorem Tryz.strconv_Atoi_syntax_var (s : ByteArray) (hlim : s.size ≤ 281474976710656) (h : Lib.atoiAll s.data.toList = Lib.atoiAll []) (tp : TypeId) (p : Value) (w : World) (hvar : w.var? Tryz.prog "strconv.ErrSyntax" = some #[.iface tp p]) :
  Calls Tryz.prog 117 #[.string s] w fun e w' => ∃ N, e = .returned (.tuple #[.int .i64 0, .iface 229 (.pointer (some ⟨N, 0, none⟩))]) ∧ w.heap.size ≤ N ∧ w'.heap[N]? = some (.cells #[.string ⟨#[65, 116, 111, 105]⟩, .string s, .iface tp p] 244 (0, 0)) ∧ Below w.heap.size w w' := Any.strconv_Atoi_syntax_var Tryz.laysC172 s hlim (h.trans rfl) tp p w hvar
open Go.RowKit in
theorem Tryz.strconv_Atoi_range_var (s : ByteArray) (hlim : s.size ≤ 281474976710656) (h : Lib.atoiAll s.data.toList = .range) (tp : TypeId) (p : Value) (w : World) (hvar : w.var? Tryz.prog "strconv.ErrRange" = some #[.iface tp p]) :
  Calls Tryz.prog 117 #[.string s] w fun e w' => ∃ N, e = .returned (.tuple #[.int .i64 (Lib.atoiSat s.data.toList), .iface 229 (.pointer (some ⟨N, 0, none⟩))]) ∧ w.heap.size ≤ N ∧ w'.heap[N]? = some (.cells #[.string ⟨#[65, 116, 111, 105]⟩, .string s, .iface tp p] 244 (0, 0)) ∧ Below w.heap.size w w' := Any.strconv_Atoi_range_var Tryz.laysC172 s hlim h tp p w hvar
def Tryz.lays145_ren : Go.Shelf.Ren := ⟨fun | 145 => 110 | 220 => 124 | 219 => 138 | 217 => 140 | 225 => 150 | 224 => 151 | 267 => 152 | 266 => 153 | 314 => 161 | n => n, fun | 9 => 9 | 4 => 4 | 59 => 199 | 3 => 3 | 5 => 5 | 46 => 60 | 146 => 246 | 51 => 233 | n => n, fun | 1 => 3 | n => n⟩
theorem Tryz.lays145 : Go.Proofs.Lays.n145 Tryz.prog Tryz.lays145_ren := {
 mixed := by kernel_rfl
 f145 := Tryz.func110.trans (congrArg some (by kernel_rfl))
 f217 := Tryz.func140.trans (congrArg some (by kernel_rfl))
 f219 := Tryz.func138.trans (congrArg some (by kernel_rfl))
 f220 := Tryz.func124.trans (congrArg some (by kernel_rfl))
 f224 := Tryz.func151.trans (congrArg some (by kernel_rfl))
 f225 := Tryz.func150.trans (congrArg some (by kernel_rfl))
 f266 := Tryz.func153.trans (congrArg some (by kernel_rfl))
 f267 := Tryz.func152.trans (congrArg some (by kernel_rfl))
 f314 := Tryz.func161.trans (congrArg some (by kernel_rfl))
 t3 := Tryz.underlying3
 a3 := Tryz.isAgg3
 z3 := Tryz.sizeOf3
 v3 := Tryz.zeroValue3
 t4 := Tryz.underlying4
 a4 := Tryz.isAgg4
 z4 := Tryz.sizeOf4
 v4 := Tryz.zeroValue4
 t5 := Tryz.underlying5
 a5 := Tryz.isAgg5
 z5 := Tryz.sizeOf5
 v5 := Tryz.zeroValue5
 t9 := Tryz.underlying9
 a9 := Tryz.isAgg9
 z9 := Tryz.sizeOf9
 v9 := Tryz.zeroValue9
 t46 := Tryz.underlying60
 a46 := Tryz.isAgg60
 z46 := Tryz.sizeOf60
 v46 := Tryz.zeroValue60
 t51 := Tryz.underlying233
 a51 := Tryz.isAgg233
 z51 := Tryz.sizeOf233
 v51 := Tryz.zeroValue233
 t59 := Tryz.underlying199
 a59 := Tryz.isAgg199
 z59 := Tryz.sizeOf199
 v59 := Tryz.zeroValue199
 t146 := Tryz.underlying246
 a146 := Tryz.isAgg246
 z146 := Tryz.sizeOf246
 v146 := Tryz.zeroValue246
 g1 := by kernel_rfl }
open Go.RowKit Go.Lib in
theorem Tryz.strings_Cut (s sep : ByteArray) (m : Int) (w : World) (hs : s.size < 4294967281) (hm : w.cell? ⟨3, 0, none⟩ = some (.int .i64 m)) :
  Calls Tryz.prog 110 #[.string s, .string sep] w fun e w' => e = .returned (.tuple #[.string ⟨(Lib.cut s.data.toList sep.data.toList).1.toArray⟩, .string ⟨(Lib.cut s.data.toList sep.data.toList).2.1.toArray⟩, .bool (Lib.cut s.data.toList sep.data.toList).2.2]) ∧ ∃ n, w' = w.drewN n := Any.strings_Cut Tryz.lays145 s sep m w hs hm
def Tryz.lays7n32_ren : Go.Shelf.Ren := ⟨fun | 32 => 120 | 49 => 134 | n => n, fun | 30 => 22 | 21 => 21 | 3 => 3 | 0 => 0 | 5 => 5 | 4 => 4 | 33 => 205 | 66 => 213 | 25 => 60 | 69 => 216 | 68 => 215 | n => n, fun | 2 => 1 | 3 => 2 | n => n⟩
theorem Tryz.lays7n32 : Go.Proofs.Lays7.n32 Tryz.prog Tryz.lays7n32_ren := {
 mixed := by kernel_rfl
 f32 := Tryz.func120.trans (congrArg some (by kernel_rfl))
 f49 := Tryz.func134.trans (congrArg some (by kernel_rfl))
 t0 := Tryz.underlying0
 a0 := Tryz.isAgg0
 z0 := Tryz.sizeOf0
 v0 := Tryz.zeroValue0
 i0 := by kernel_rfl
 t3 := Tryz.underlying3
 a3 := Tryz.isAgg3
 z3 := Tryz.sizeOf3
 v3 := Tryz.zeroValue3
 i3 := by kernel_rfl
 t4 := Tryz.underlying4
 a4 := Tryz.isAgg4
 z4 := Tryz.sizeOf4
 v4 := Tryz.zeroValue4
 i4 := by kernel_rfl
 t5 := Tryz.underlying5
 a5 := Tryz.isAgg5
 z5 := Tryz.sizeOf5
 v5 := Tryz.zeroValue5
 i5 := by kernel_rfl
 t21 := Tryz.underlying21
 a21 := Tryz.isAgg21
 z21 := Tryz.sizeOf21
 v21 := Tryz.zeroValue21
 i21 := by kernel_rfl
 t25 := Tryz.underlying60
 a25 := Tryz.isAgg60
 z25 := Tryz.sizeOf60
 v25 := Tryz.zeroValue60
 i25 := by kernel_rfl
 t30 := Tryz.underlying22
 a30 := Tryz.isAgg22
 z30 := Tryz.sizeOf22
 v30 := Tryz.zeroValue22
 i30 := by kernel_rfl
 t33 := Tryz.underlying205
 a33 := Tryz.isAgg205
 z33 := Tryz.sizeOf205
 v33 := Tryz.zeroValue205
 i33 := by kernel_rfl
 t66 := Tryz.underlying213
 a66 := Tryz.isAgg213
 z66 := Tryz.sizeOf213
 t68 := Tryz.underlying215
 a68 := Tryz.isAgg215
 z68 := Tryz.sizeOf215
 v68 := Tryz.zeroValue215
 i68 := by kernel_rfl
 t69 := Tryz.underlying216
 a69 := Tryz.isAgg216
 z69 := Tryz.sizeOf216
 v69 := Tryz.zeroValue216
 i69 := by kernel_rfl
 g2 := by kernel_rfl
 g3 := by kernel_rfl }
def Tryz.laysValid_ren : Go.Shelf.Ren := ⟨fun | 196 => 112 | 259 => 127 | n => n, fun | 9 => 9 | 4 => 4 | 3 => 3 | 5 => 5 | 12 => 12 | 119 => 213 | 0 => 0 | 46 => 60 | 139 => 216 | 138 => 215 | 53 => 224 | n => n, fun | 3 => 1 | 4 => 2 | n => n⟩
theorem Tryz.laysValid : Go.Proofs.Lays.n196 Tryz.prog Tryz.laysValid_ren := {
 mixed := by kernel_rfl
 f196 := Tryz.func112.trans (congrArg some (by kernel_rfl))
 f259 := Tryz.func127.trans (congrArg some (by kernel_rfl))
 t0 := Tryz.underlying0
 a0 := Tryz.isAgg0
 z0 := Tryz.sizeOf0
 v0 := Tryz.zeroValue0
 t3 := Tryz.underlying3
 a3 := Tryz.isAgg3
 z3 := Tryz.sizeOf3
 v3 := Tryz.zeroValue3
 t4 := Tryz.underlying4
 a4 := Tryz.isAgg4
 z4 := Tryz.sizeOf4
 v4 := Tryz.zeroValue4
 t5 := Tryz.underlying5
 a5 := Tryz.isAgg5
 z5 := Tryz.sizeOf5
 v5 := Tryz.zeroValue5
 t9 := Tryz.underlying9
 a9 := Tryz.isAgg9
 z9 := Tryz.sizeOf9
 v9 := Tryz.zeroValue9
 t12 := Tryz.underlying12
 a12 := Tryz.isAgg12
 z12 := Tryz.sizeOf12
 v12 := Tryz.zeroValue12
 t46 := Tryz.underlying60
 a46 := Tryz.isAgg60
 z46 := Tryz.sizeOf60
 v46 := Tryz.zeroValue60
 t53 := Tryz.underlying224
 a53 := Tryz.isAgg224
 z53 := Tryz.sizeOf224
 v53 := Tryz.zeroValue224
 t119 := Tryz.underlying213
 a119 := Tryz.isAgg213
 z119 := Tryz.sizeOf213
 t138 := Tryz.underlying215
 a138 := Tryz.isAgg215
 z138 := Tryz.sizeOf215
 v138 := Tryz.zeroValue215
 t139 := Tryz.underlying216
 a139 := Tryz.isAgg216
 z139 := Tryz.sizeOf216
 v139 := Tryz.zeroValue216
 g3 := by kernel_rfl
 g4 := by kernel_rfl }
end Go.Proofs

namespace Go.Proofs.YtlhicfpmlncomaaGreatDoor
open Go.RowKit
def U8Tabs (w : World) : Prop := Lib.Utf8Tabs (Tryz.lays7n32_ren.g 2) (Tryz.lays7n32_ren.g 3) w
theorem rune_ok : RuneOk := by
 intro r w h hs
 have hcells : Lib.runeCells (r : Int) = (jSign r).map bv := by
  unfold Lib.runeCells
  rw [rune_sign h hs, List.map_map]
  rfl
 have ho := (OwnB.nil w w.heap.size 5).own
 refine (Tryz.utf8_AppendRune_plain w.heap.size (.slice none 0 0) 0 [] (r : Int) (by omega) (by omega) w ho (by omega) (Nat.le_refl _)).mono ?_
 rintro e w' ⟨v', rfl, h1, o, h2⟩
 rw [hcells, List.nil_append, List.length_map, Nat.zero_add] at h1
 exact ⟨v', rfl, ⟨h1⟩, (below_of_grown (World.grownBy_alloc w _ none)).trans ((below_of_grown h2).mono (by simp))⟩
theorem decode_ok (A : Option Addr) (n c : Nat) (l : List UInt8) (w : World) (S : Nat → Prop) (hT : U8Tabs w) (h0 : 0 < n) (hr : Rd w S A 1 n (l.map bv)) :
  Calls Tryz.prog 120 #[.slice A n c] w fun e w' => ∃ (r k : Nat), e = .returned (.tuple #[.int .i32 (r : Int), .int .i64 (k : Int)]) ∧ Below w.heap.size w w' ∧ (r = 65533 ∧ k < 2 ↔ jSize l = 0) ∧ (jSize l ≠ 0 → k = jSize l) := by
 have hl := hr.bytes_len
 have hA := hr.some_ h0
 obtain ⟨ad, hA⟩ : ∃ ad, A = some ad := ⟨_, hA⟩
 subst hA
 obtain ⟨x, t, rfl⟩ : ∃ x t, l = x :: t := by
  cases l with
  | nil => simp at hl; omega
  | cons x t => exact ⟨x, t, rfl⟩
 have hc0 := hr.cell 0 (bv x) rfl
 have hsp := World.cell?_spot hc0
 have hat0 : atp (some ad) 0 = ad := by unfold atp Addr.add; simp
 rw [hat0] at hsp
 obtain ⟨b, off, spot⟩ := ad
 simp only at hsp
 subst hsp
 have hget : ∀ j, (⟨(x :: t).toArray⟩ : ByteArray).get! j = (x :: t).getD j default := fun j => by
  simp [ByteArray.get!, List.getD]
 have hsz : (⟨(x :: t).toArray⟩ : ByteArray).size = n := by rw [str_mk_size]; exact hl
 have hd := @Any7.utf8_DecodeRune _ _ Tryz.lays7n32 ⟨(x :: t).toArray⟩ b off c w hT (fun j hj => by
  rw [hsz] at hj
  have hjl : j < (x :: t).length := by omega
  have := hr.cell j (bv ((x :: t)[j])) (by rw [List.getElem?_map, List.getElem?_eq_getElem hjl]; rfl)
  have hat : atp (some ⟨b, off, none⟩) j = ⟨b, off + j, none⟩ := by
   unfold atp Addr.add
   by_cases h : j = 0 <;> simp [h]
  rw [hat] at this
  rw [this, hget j]
  simp [bv, List.getD, List.getElem?_eq_getElem hjl])
 rw [hsz] at hd
 refine hd.mono ?_
 rintro e w' ⟨rfl, hb⟩
 have key : Lib.decodeGo ⟨(x :: t).toArray⟩ = Lib.decodeN (t.length + 1) x.toNat ((x :: t).getD 1 default).toNat ((x :: t).getD 2 default).toNat ((x :: t).getD 3 default).toNat := by
  unfold Lib.decodeGo
  rw [if_neg (by rw [hsz]; omega), Lib.decode_at, hget, hget, hget, hget, hsz]
  rw [← hl]
  rfl
 obtain ⟨k1, k2⟩ := decodeN_size x t ((x :: t).getD 1 default).toNat ((x :: t).getD 2 default).toNat ((x :: t).getD 3 default).toNat (fun y hy => by simp [List.getD, hy]) (fun y hy => by simp [List.getD, hy]) (fun y hy => by simp [List.getD, hy])
 rw [← key] at k1 k2
 exact ⟨_, _, rfl, hb, k1, k2⟩
end Go.Proofs.YtlhicfpmlncomaaGreatDoor

namespace Go.Proofs.YtlhicfpmlncomaaGreatDoor
open Go.RowKit
theorem Rd.same {w w0 : World} {S : Nat → Prop} {A : Option Addr} {size n : Nat} {xs : List Value} (h : Rd w S A size n xs) (hk : ∀ k, S k → w0.heap[k]? = w.heap[k]?) : Rd w0 S A size n xs :=
 ⟨h.len, h.some_, h.inS, fun j u hu => by
  rw [← h.cell j u hu]
  exact World.cell?_of_block (w := w) (hk _ (by rw [atp_block]; exact h.inS (h.pos_of hu)))⟩
section
variable {P : Program} {o : Oper} {a : Act}
def cutA (A : Option Addr) (l m : Nat) : Option Addr := if m = l then A else A.map (·.add l)
theorem run_cutX {t e : TypeId} (T : SlT P t e 1 1 (.int .u8 0)) (w : World) {A : Option Addr} {n c : Nat}
  {lo hi mx : Option Int} (ho : IsCut o a t A n c lo hi mx) {l h m : Nat} (hl : lo.getD 0 = (l : Int)) (hh : hi.getD (n : Int) = (h : Int)) (hm : mx.getD (c : Int) = (m : Int)) (hmx : mx.isSome = true → hi.isSome = true)
  (h1 : l ≤ h) (h2 : h ≤ n) (h3 : h ≤ m) (h4 : m ≤ c) :
  (execOp a.eval o).run P w = .ok (.value (.slice (cutA A l m) (h - l) (m - l))) w := by
 obtain ⟨x, ol, oh, om, k1, k2, k3, ho, hx, b1, b2, b3⟩ := ho
 obtain ⟨i', hi', _, hsz, _⟩ := info_parts T.info
 unfold execOp
 have hrun : ∀ (lv hv mv : Option Value), lv = lo.map (.int k1) → hv = hi.map (.int k2) → mv = mx.map (.int k3) →
   (Instr.sliceBounds true n c lv hv mv).run P w = .ok (l, h, m) w := by
  intro lv hv mv e1 e2 e3
  subst e1 e2 e3
  have h5 : h ≤ c := by omega
  have h6 : l ≤ n := by omega
  cases lo <;> cases hi <;> cases mx <;> simp at hl hh hm hmx <;> subst_vars <;> simp [Instr.sliceBounds, run_bound, h1, h3, h4, h5, h6] <;> omega
 have e1 : ol.map a.eval = lo.map (.int k1) := b1
 have e2 : oh.map a.eval = hi.map (.int k2) := b2
 have e3 : om.map a.eval = mx.map (.int k3) := b3
 simp [ho, hx, Instr.sliceAt, Instr.slice, run_underlying T.und, hrun _ _ _ e1 e2 e3, sizeOf, typeInfo, hi', hsz, cutA]
theorem cut_rd {w : World} {S : Nat → Prop} {A : Option Addr} {n l h m : Nat} {bs : List UInt8} (hr : Rd w S A 1 n (bs.map bv)) (h1 : l ≤ h) (h2 : h ≤ n) (h3 : h ≤ m) : Rd w S (cutA A l m) 1 (h - l) (((bs.take h).drop l).map bv) := by
 have hrc := hr.cut (m = l) h1 h2 (fun hml => by omega)
 simp only [Nat.mul_one, ← List.map_take, ← List.map_drop] at hrc
 exact hrc
theorem yi_cut {S : World → Prop} {ops : Array Oper} (hw : Region.wanted o (yielded ops a.tmps) = true) {t e : TypeId} (T : SlT P t e 1 1 (.int .u8 0)) {A : Option Addr} {n c : Nat}
  {lo hi mx : Option Int} (ho : IsCut o a t A n c lo hi mx) {l h m : Nat} (hl : lo.getD 0 = (l : Int)) (hh : hi.getD (n : Int) = (h : Int)) (hm : mx.getD (c : Int) = (m : Int)) (hmx : mx.isSome = true → hi.isSome = true)
  (h1 : l ≤ h) (h2 : h ≤ n) (h3 : h ≤ m) (h4 : m ≤ c) : YieldsIf P ops S o (.slice (cutA A l m) (h - l) (m - l)) a :=
 yi_run hw fun w _ => run_cutX T w ho hl hh hm hmx h1 h2 h3 h4
theorem run_b2s {t st e : TypeId} {size bytes : Nat} {z : Value} (T : SlT P t e size bytes z) (he : P.underlying e = some (.int .u8)) (hst : P.underlying st = some .string) {w : World} {S : Nat → Prop} {A : Option Addr} {n c : Nat} {l : List UInt8} (hr : Rd w S A 1 n (l.map bv))
  (ho : IsCv o a t st (.slice A n c)) : (execOp a.eval o).run P w = .ok (.value (.string ⟨l.toArray⟩)) w := by
 obtain ⟨x, ho, hx⟩ := ho
 have hl := hr.bytes_len
 have hrun : (convert t st (.slice A n c)).run P w = .ok (.string ⟨l.toArray⟩) w := by
  rw [run_convert_bytes_string w t st e A n c T.und he hst]
  cases hA : A with
  | none =>
   have hn : n = 0 := by
    rcases Nat.eq_zero_or_pos n with h | h
    ·exact h
    ·have := hr.some_ h; rw [hA] at this; cases this
   have : l = [] := List.eq_nil_of_length_eq_zero (by omega)
   subst this
   simp [Conv.bytesToString]
   rfl
  | some ad =>
   have hld : (loadCells ad n).run P w = .ok ((l.map (fun b => (b.toNat : Int))).map (Value.int .u8)).toArray w := by
    have h2 := run_loadCells_list (P := P) w ad (l.map bv) (fun j v hv => by
     have := hr.cell j v hv
     rwa [hA] at this)
    rw [List.length_map, hl] at h2
    rw [h2, List.map_map]
    rfl
   rw [run_bytesToString w ad n c _ hld, fold_push]
   simp
 unfold execOp
 simp [ho, hx, hrun]
theorem yi_b2s {S : World → Prop} {ops : Array Oper} (hw : Region.wanted o (yielded ops a.tmps) = true) {t st e : TypeId} {size bytes : Nat} {z : Value} (T : SlT P t e size bytes z) (he : P.underlying e = some (.int .u8)) (hst : P.underlying st = some .string) {S' : World → Nat → Prop} {A : Option Addr} {n c : Nat} {l : List UInt8}
  (hr : ∀ w, S w → Rd w (S' w) A 1 n (l.map bv)) (ho : IsCv o a t st (.slice A n c)) : YieldsIf P ops S o (.string ⟨l.toArray⟩) a :=
 yi_run hw fun w hS => run_b2s T he hst (hr w hS) ho
end
theorem OwnB.nilE (w : World) (b : Nat) (e : TypeId) : (Ent.bytes b e (.slice none 0 0) []).holds w := (OwnB.nil w b e).own
theorem Fr.pushNil {X : List Nat} {w0 w : World} {es : List Ent} (h : Fr X w0 w es) (e : TypeId) : Fr X w0 w (Ent.bytes w0.heap.size e (.slice none 0 0) [] :: es) :=
 h.push (OwnB.nilE w _ e) fun b hb => by cases hb
end Go.Proofs.YtlhicfpmlncomaaGreatDoor

namespace Go.Proofs.YtlhicfpmlncomaaGreatDoor
open Go.RowKit
theorem jSize_le (l : List UInt8) : jSize l ≤ l.length ∧ jSize l ≤ 4 := by
 unfold jSize
 cases l with
 | nil => simp
 | cons c l =>
  simp only [List.length_cons]
  repeat' split
  all_goals simp
  all_goals omega
theorem jSign_len (n : Nat) : (jSign n).length ≤ 4 := by
 unfold jSign
 repeat' split
 all_goals simp
theorem ok_pair {α β : Type} {a c : α} {b d : β} (h : (Except.ok (a, b) : JR (α × β)) = .ok (c, d)) : a = c ∧ b = d := by
 injection h with h; injection h with h1 h2; exact ⟨h1, h2⟩
theorem jEsc2_len {b : List UInt8} {p n : Nat} {e : List UInt8} {q : Nat} (h : jEsc2 b p n = .ok (e, q)) : e.length ≤ 4 ∧ p + 2 ≤ q ∧ q ≤ b.length := by
 unfold jEsc2 at h
 cases hu : jUnit b p 4 0 (p + 8) with
 | error x => rw [hu] at h; cases h
 | ok m =>
  rw [hu] at h
  simp only [] at h
  by_cases hm : 56320 ≤ m ∧ m < 57344
  ·rw [if_pos hm] at h
   obtain ⟨rfl, rfl⟩ := ok_pair h
   have := jUnit_lt (N := 0) (j := 0) (by decide) hu
   exact ⟨jSign_len _, by omega, by omega⟩
  ·rw [if_neg hm] at h; cases h
theorem jEscape_len {b : List UInt8} {p : Nat} {e : List UInt8} {q : Nat} (h : jEscape b p = .ok (e, q)) : e.length ≤ 4 ∧ p + 2 ≤ q ∧ q ≤ b.length := by
 by_cases hc : b[p + 1]? = some 117
 ·rw [jEscape_u hc] at h
  cases hu : jUnit b p 4 0 (p + 2) with
  | error x => rw [hu] at h; cases h
  | ok n =>
   rw [hu] at h
   simp only [] at h
   by_cases h1 : 55296 ≤ n ∧ n < 56320
   ·rw [if_pos h1] at h
    unfold jEsc0 at h
    cases hx : b[p + 6]? with
    | none => rw [hx] at h; cases h
    | some x =>
     rw [hx] at h
     simp only [] at h
     by_cases hx2 : x ≠ 92
     ·rw [if_pos hx2] at h; cases h
     ·rw [if_neg hx2] at h
      unfold jEsc1 at h
      cases hy : b[p + 7]? with
      | none => rw [hy] at h; cases h
      | some y =>
       rw [hy] at h
       simp only [] at h
       by_cases hy2 : y ≠ 117
       ·rw [if_pos hy2] at h; cases h
       ·rw [if_neg hy2] at h
        exact jEsc2_len h
   ·rw [if_neg h1] at h
    by_cases h2 : 56320 ≤ n ∧ n < 57344
    ·rw [if_pos h2] at h; cases h
    ·rw [if_neg h2] at h
     obtain ⟨rfl, rfl⟩ := ok_pair h
     have := jUnit_lt (N := 0) (j := 0) (by decide) hu
     exact ⟨jSign_len _, by omega, by omega⟩
 ·unfold jEscape at h
  cases hx : b[p + 1]? with
  | none => rw [hx] at h; cases h
  | some c =>
   have h1 := (List.getElem?_eq_some_iff.1 hx).1
   rw [hx] at h hc
   simp only [] at h
   have key : ∀ (P : Prop) [Decidable P] (l : List UInt8) (X : JR (List UInt8 × Nat)), l.length = 1 → (X = .ok (e, q) → e.length ≤ 4 ∧ p + 2 ≤ q ∧ q ≤ b.length) → (if P then .ok (l, p + 2) else X) = .ok (e, q) → e.length ≤ 4 ∧ p + 2 ≤ q ∧ q ≤ b.length := fun P _ l X hl hX hh => by
    by_cases hP : P
    ·rw [if_pos hP] at hh
     obtain ⟨rfl, rfl⟩ := ok_pair hh
     exact ⟨by omega, by omega, by omega⟩
    ·rw [if_neg hP] at hh; exact hX hh
   refine key _ _ _ rfl (fun h => ?_) h
   refine key _ _ _ rfl (fun h => ?_) h
   refine key _ _ _ rfl (fun h => ?_) h
   refine key _ _ _ rfl (fun h => ?_) h
   refine key _ _ _ rfl (fun h => ?_) h
   refine key _ _ _ rfl (fun h => ?_) h
   rw [if_neg (fun hh => hc (by rw [hh]))] at h
   cases h
theorem jTextL_fuel {b : List UInt8} : ∀ {f f' p : Nat} {out : List UInt8}, b.length + 1 - p ≤ f → b.length + 1 - p ≤ f' → jTextL b f p out = jTextL b f' p out
 | f, f', p, out, h1, h2 => by
  by_cases hp : b.length ≤ p
  ·have hn : b[p]? = none := List.getElem?_eq_none hp
   have key : ∀ f, jTextL b f p out = .error (b.length, 9) := fun f => by
    cases f with
    | zero => rfl
    | succ f => unfold jTextL; rw [hn]
   rw [key, key]
  ·match f, f', h1, h2 with
   | 0, _, h1, _ => omega
   | _, 0, _, h2 => omega
   | f + 1, f' + 1, h1, h2 =>
    unfold jTextL
    cases hx : b[p]? with
    | none => rfl
    | some c =>
     simp only []
     split
     ·rfl
     ·split
      ·cases he : jEscape b p with
       | error x => rfl
       | ok r =>
        obtain ⟨e, q⟩ := r
        have := jEscape_len he
        exact jTextL_fuel (by omega) (by omega)
      ·split
       ·rfl
       ·split
        ·rfl
        ·rename_i hs
         exact jTextL_fuel (by omega) (by omega)
theorem jText_step {b : List UInt8} {p : Nat} {out : List UInt8} (hp : p < b.length) : jTextL b (b.length + 1 - p) p out = match b[p]? with
  | none => .error (b.length, 9)
  | some c =>
   if c = 34 then .ok (out, p + 1)
   else if c = 92 then match jEscape b p with
    | .error x => .error x
    | .ok (e, q) => jTextL b (b.length + 1 - q) q (out ++ e)
   else if c.toNat < 32 then .error (p, 60)
   else if jSize (b.drop p) = 0 then .error (p, 61)
   else jTextL b (b.length + 1 - (p + jSize (b.drop p))) (p + jSize (b.drop p)) (out ++ (b.drop p).take (jSize (b.drop p))) := by
 rw [show b.length + 1 - p = (b.length - p) + 1 by omega, jTextL]
 cases hx : b[p]? with
 | none => rfl
 | some c =>
  simp only []
  split
  ·rfl
  ·split
   ·cases he : jEscape b p with
    | error x => rfl
    | ok r =>
     obtain ⟨e, q⟩ := r
     have := jEscape_len he
     exact jTextL_fuel (by omega) (by omega)
   ·split
    ·rfl
    ·split
     ·rfl
     ·rename_i hs
      exact jTextL_fuel (by omega) (by omega)
end Go.Proofs.YtlhicfpmlncomaaGreatDoor

namespace Go.Proofs.YtlhicfpmlncomaaGreatDoor
open Go.RowKit
structure LibsAt (B : Nat) (w : World) : Prop where
 u8 : ∀ w', Below B w w' → U8Tabs w'
 pow : Lib.TabBelow Tryz.prog B w "internal/strconv.uint64pow10" .u64 Lib.pow10Tab
 syn : ∃ tp p, ∀ w', Below B w w' → w'.var? Tryz.prog "strconv.ErrSyntax" = some #[.iface tp p]
 rng : ∃ tp p, ∀ w', Below B w w' → w'.var? Tryz.prog "strconv.ErrRange" = some #[.iface tp p]
theorem LibsAt.on {B : Nat} {w w' : World} (h : LibsAt B w) (hb : Below B w w') : LibsAt B w' :=
 ⟨fun w'' h2 => h.u8 w'' (hb.trans h2), h.pow.on hb, h.syn.imp fun _ h => h.imp fun _ h w'' h2 => h w'' (hb.trans h2), h.rng.imp fun _ h => h.imp fun _ h w'' h2 => h w'' (hb.trans h2)⟩
theorem LibsAt.tabs {B : Nat} {w : World} (h : LibsAt B w) : U8Tabs w := h.u8 w (Below.refl _ _)
theorem Fr.belowG {w w' : World} {g B : Nat} {es : List Ent} (hF : Fr [g] w w' es) (hg : B ≤ g) (hB : B ≤ w.heap.size) : Below B w w' :=
 ⟨hF.os, hF.tape, hF.output, hF.size, fun k hk => hF.block k (by omega) (by simp; omega)⟩
def ToldS (w : World) (g : Nat) (A : Option Addr) (n c m : Nat) (x : List UInt8 × Nat) (e : Ending) (w' : World) : Prop :=
 e = .returned (.string ⟨x.1.toArray⟩) ∧ Fr [g] w w' [.blk g 127 (rdrL A n c x.2 m)]
set_option maxRecDepth 20000 in
set_option maxHeartbeats 6400000 in
theorem text_any (g : Nat) (A : Option Addr) (n c p m B : Nat) (b : List UInt8) (w : World) (hL : LibsAt B w) (hh : w.heap[g]? = some (.cells (rdrL A n c p m).toArray 127 (0, 0))) (hg : B ≤ g) (hB : B ≤ w.heap.size) (hn : n ≤ 65536) (hnc : n ≤ c) (hp : p ≤ n) (hr : Rd w (· < B) A 1 n (b.map bv)) :
  Calls Tryz.prog 88 #[.pointer (some ⟨g, 0, none⟩)] w (JEndP w g (jText b p) (ToldS w g A n c m)) := by
 have hl := box hr.bytes_len
 have hF0 := Fr.one hh
 have hwd := box (word_any g A n c p m B b ⟨#[34]⟩ w hh hg hB (by omega) hp (by decide) hr)
 clear hh
 have hT : jText b p = match jWord b [34] p with
  | .error x => .error x
  | .ok q => jTextL b (b.length + 1 - q) q [] := rfl
 cases hW : jWord b [34] p with
 | error z =>
  rw [hW] at hT
  have hwd' := hwd.out
  rw [show ((⟨#[34]⟩ : ByteArray).data.toList) = [34] from rfl, hW] at hwd'
  unfold JPost at hwd'
  simp only [] at hT hwd'
  replace hT := box hT
  replace hwd' := box hwd'
  clear hwd
  go_enter Tryz.func88, Tryz.ntmps88
  go_wp2_with fail
  refine hwd'.out.mono ?_
  rintro e w1 ⟨rfl, hg1⟩
  dsimp only [flt]
  go_wp2
  exact ⟨rfl, by unfold JEndP; rw [hT.out]; exact ⟨rfl, hg1⟩⟩
 | ok q =>
  rw [hW] at hT
  have hwd' := hwd.out
  rw [show ((⟨#[34]⟩ : ByteArray).data.toList) = [34] from rfl, hW] at hwd'
  unfold JPost at hwd'
  simp only [] at hT hwd'
  have hq := (jWord_le hW).2.resolve_left (by simp)
  rw [hl.out] at hq hT
  replace hT := box hT
  replace hwd' := box hwd'
  clear hwd hW
  go_enter Tryz.func88, Tryz.ntmps88
  go_wp2_with fail
  refine hwd'.out.mono ?_
  rintro e w1 ⟨rfl, hF1⟩
  clear hwd'
  go_wp2_with fail
  go_loopg [3] (n + 1 - q) (fun k v wr => ∃ (out : List UInt8) (p' : Nat), p' ≤ n ∧ k = n + 1 - p' ∧ Box (out.length ≤ 4 * p') ∧ Box (jText b p = jTextL b (n + 1 - p') p' out) ∧ Fr [g] w wr [Ent.bytes w.heap.size 5 v out, .blk g 127 (rdrL A n c p' m)])
  case atStart => exact ⟨[], q, hq, rfl, box (by simp), hT, hF1.pushNil _⟩
  case round =>
   clear hF0 hF1 hT
   obtain ⟨out, p', hpn, hk, hol, hJ, hF⟩ := hrel
   obtain ⟨Ao, co, rfl, hco, hro⟩ := (hF.own (i := 0) rfl).arg
   cases hx : b[p']? with
   | none =>
    have hend : Box (jText b p = .error (n, 9)) := box (by
     rw [hJ.out]
     have := List.getElem?_eq_none_iff.1 hx
     rw [hl.out] at this
     rw [show n + 1 - p' = 0 + 1 by omega, jTextL, hx, hl.out])
    have hnx := box (next_x hx (hF.blk (i := 1) rfl) (hF.rdB hg hB hr))
    rw [hl.out] at hnx
    clear hx
    go_wp2_with fail
    refine (hnx.out).mono ?_
    rintro e w2 ⟨rfl, hb2⟩
    have hF2 := hF.call hb2
    dsimp only [flt]
    go_wp2
    exact ⟨rfl, by unfold JEndP; rw [hend.out]; exact ⟨rfl, hF2.grown⟩⟩
   | some x =>
    have hxb := x.toNat_lt
    have hplt := (List.getElem?_eq_some_iff.1 hx).1
    have hstep := jText_step (out := out) hplt
    rw [hx] at hstep
    rw [hl.out] at hplt hstep
    simp only [] at hstep
    have hnx := box (next_q hx (hF.blk (i := 1) rfl) (hF.rdB hg hB hr) 0)
    by_cases h34 : x = 34
    ·subst h34
     rw [if_pos rfl] at hstep
     have hend := box (hJ.out.trans hstep)
     clear hstep hx
     go_wp2_with fail
     refine (hnx.out).mono ?_
     rintro e w2 ⟨rfl, q2, rfl⟩
     have hF2 := hF.drewN q2
     have h2 := rdr_p (hF2.blk (i := 1) rfl)
     go_wp2_with (first | ((with_reducible refine lsx (wp_fst1 hF2 (by with_unfolding_all exact ⟨_, _, rfl, rfl, rfl⟩) (by kernel_rfl) rfl rfl (by rw [rdrL_len]; decide) (rdrL_at (q := p' + 1) (by omega)) ?_)); intro w3 hF3 hz3) | (with_reducible refine lsx (wp_b2s T_u8 uq5 uq9 (hF3.rdOwn (i := 0) rfl) (by with_unfolding_all exact ⟨_, rfl, rfl⟩) ?_)))
     go_ret
     unfold JEndP
     rw [hend.out]
     exact ⟨rfl, hF3.tail⟩
    ·have n34 : ((x.toNat : Int) == 34) = false := u8_ne h34
     rw [if_neg h34] at hstep
     by_cases h92 : x = 92
     ·subst h92
      rw [if_pos rfl] at hstep
      have hes := box (fun w' (hF : Fr [g] w w' [Ent.bytes w.heap.size 5 (.slice Ao out.length co) out, .blk g 127 (rdrL A n c p' m)]) => escape_any rune_ok g A n c p' m B b w' (hF.blk (i := 1) rfl) hg (Nat.le_trans hB hF.size) (by omega) hplt (hF.rdB hg hB hr))
      cases he : jEscape b p' with
      | error z =>
       rw [he] at hstep hes
       have hend := box (hJ.out.trans hstep)
       unfold JEndP at hes
       simp only [] at hes hend
       clear hstep hx
       go_wp2_with fail
       refine (hnx.out).mono ?_
       rintro e w2 ⟨rfl, q2, rfl⟩
       have hF2 := hF.drewN q2
       go_wp2_with fail
       refine (hes.out _ hF2).mono ?_
       rintro e w3 ⟨rfl, hg3⟩
       dsimp only [flt]
       go_wp2
       exact ⟨rfl, by unfold JEndP; rw [hend.out]; exact ⟨rfl, grown_trans hF2.grown hg3⟩⟩
      | ok r =>
       obtain ⟨e, q'⟩ := r
       obtain ⟨he1, he2, he3⟩ := jEscape_len he
       rw [he] at hstep hes
       have hgo := box (hJ.out.trans hstep)
       unfold JEndP ToldB at hes
       simp only [] at hes hgo
       rw [hl.out] at he3
       have hol2 := hol.out
       have room : out.length + e.length ≤ 140737488355328 := by omega
       clear hstep hx he
       replace hk := box hk
       go_wp2_with fail
       refine (hnx.out).mono ?_
       rintro e w2 ⟨rfl, q2, rfl⟩
       have hF2 := hF.drewN q2
       go_wp2_with fail
       refine (hes.out _ hF2).mono ?_
       rintro e w3 ⟨v3, rfl, h3⟩
       obtain ⟨A3, c3, rfl, _, _⟩ := (h3.own (i := 0) rfl).arg
       have hF3 := hF2.putB (i := 1) rfl h3
       go_wp2_with (first | ((with_reducible refine lsx (wp_fapp1 T_u8 hF3 (Nat.le_refl _) (hF3.rdOwn (i := 0) rfl) (by with_unfolding_all exact ⟨_, _, rfl, rfl, rfl⟩) room ?_)); intro v4 w4 hF4 hz4))
       go_roundg (n + 1 - q')
       case rel => exact ⟨_, q', he3, rfl, box (by rw [List.length_append]; omega), hgo, hF4.tail⟩
       case measure => have := hk.out; omega
     ·have n92 : ((x.toNat : Int) == 92) = false := u8_ne h92
      rw [if_neg h92] at hstep
      by_cases h32 : x.toNat < 32
      ·rw [if_pos h32] at hstep
       have hend := box (hJ.out.trans hstep)
       have hfl := box (fun v w => fail_any v p' 60 w)
       clear hstep hx h34 h92
       go_wp2_with fail
       refine (hnx.out).mono ?_
       rintro e w2 ⟨rfl, q2, rfl⟩
       have hF2 := hF.drewN q2
       have h2 := rdr_p (hF2.blk (i := 1) rfl)
       go_wp2_with fail
       refine (hfl.out _ _).mono ?_
       rintro e w3 ⟨rfl, rfl⟩
       dsimp only [flt]
       go_wp2
       exact ⟨rfl, by unfold JEndP; rw [hend.out]; exact ⟨rfl, hF2.grown⟩⟩
      ·rw [if_neg h32] at hstep
       have hbl : (b.drop p').length = n - p' := by rw [List.length_drop, hl.out]
       obtain ⟨hs1, hs2⟩ := jSize_le (b.drop p')
       have htl : ((b.drop p').take (jSize (b.drop p'))).length = jSize (b.drop p') := by rw [List.length_take]; omega
       have hrc := box (fun w' (hF : Fr [g] w w' [Ent.bytes w.heap.size 5 (.slice Ao out.length co) out, .blk g 127 (rdrL A n c p' m)]) => by
        have h := cut_rd (m := c) (hF.rdB hg hB hr) (show p' ≤ n by omega) (Nat.le_refl n) hnc
        rw [List.take_of_length_le (by have := hl.out; omega)] at h
        exact decode_ok (cutA A p' c) (n - p') (c - p') (b.drop p') w' _ (hL.on (hF.belowG hg hB)).tabs (by omega) h)
       have hrk := box (fun (k : Nat) (hk : p' + k ≤ n) w' (hF : Fr [g] w w' [Ent.bytes w.heap.size 5 (.slice Ao out.length co) out, .blk g 127 (rdrL A n c p' m)]) => by
        have h := cut_rd (l := p') (h := p' + k) (m := c) (hF.rdB hg hB hr) (by omega) (by omega) (by omega)
        rw [show (b.take (p' + k)).drop p' = (b.drop p').take k by rw [List.drop_take, Nat.add_sub_cancel_left]] at h
        exact h)
       have hpc : p' < c := by omega
       have hol2 := hol.out
       rw [hbl] at hs1
       generalize hsz : jSize (b.drop p') = sz at *
       clear hsz hx h34 h92
       replace hstep := box (hJ.out.trans hstep)
       replace hbl := box hbl
       replace hk := box hk
       go_wp2_with fail
       refine (hnx.out).mono ?_
       rintro e w2 ⟨rfl, q2, rfl⟩
       have hF2 := hF.drewN q2
       go_upto_region 4 with (fail)
       go_cut [5, 6] (fun s5 s6 wx => ∃ r k : Nat, s5 = .int .i32 (r : Int) ∧ s6 = .int .i64 (k : Int) ∧ Box (r = 65533 ∧ k < 2 ↔ sz = 0) ∧ Box (sz ≠ 0 → k = sz) ∧ Fr [g] w wx [Ent.bytes w.heap.size 5 (.slice Ao out.length co) out, .blk g 127 (rdrL A n c p' m)])
       case first =>
        have hFd := hF2.drew
        clear hF2 hF hro
        refine wp_region_held (S := fun w' => w'.heap[g]? = some (.cells (List.toArray (rdrL A n c p' m)) 127 (0, 0))) (by kernel_rfl) ?_
        change wpAnyH _ _ _ _ _ _ _ _ (World.drew _)
        refine tkp 0 (hFd.blk (i := 1) rfl) ?_
        (try simp only [zP, zQ, zS, zZ, zN])
        refine tkp 1 (hFd.blk (i := 1) rfl) ?_
        (try simp only [zP, zQ, zS, zZ, zN])
        refine tkp 2 (hFd.blk (i := 1) rfl) ?_
        (try simp only [zP, zQ, zS, zZ, zN])
        refine tky 3 (y := yi_fld (by with_unfolding_all rfl) (fun _ h => h) uq22 rfl (by with_unfolding_all exact ⟨_, rfl, rfl⟩) rfl) (s := (hFd.blk (i := 1) rfl)) (h := ?_)
        (try simp only [zP, zQ, zS, zZ, zN])
        refine tkp 4 (hFd.blk (i := 1) rfl) ?_
        (try simp only [zP, zQ, zS, zZ, zN])
        refine tkp 5 (hFd.blk (i := 1) rfl) ?_
        (try simp only [zP, zQ, zS, zZ, zN])
        refine tkp 6 (hFd.blk (i := 1) rfl) ?_
        (try simp only [zP, zQ, zS, zZ, zN])
        refine tky 7 (y := yi_fld (by with_unfolding_all rfl) (fun _ h => h) uq3 rfl (by with_unfolding_all exact ⟨_, rfl, rfl⟩) rfl) (s := (hFd.blk (i := 1) rfl)) (h := ?_)
        (try simp only [zP, zQ, zS, zZ, zN])
        refine tky 8 (y := yi_cut (by with_unfolding_all rfl) T_u8 (lo := some (p' : Int)) (hi := none) (mx := none) (l := p') (h := n) (m := c) (by with_unfolding_all exact ⟨_, _, _, _, .i64, .i64, .i64, rfl, rfl, rfl, rfl, rfl⟩) (by simp; done) (by simp; done) (by simp; done) (by simp) (by omega) (by omega) (by omega) (by omega)) (s := (hFd.blk (i := 1) rfl)) (h := ?_)
        (try simp only [zP, zQ, zS, zZ, zN])
        refine rdy1 9 (fun K hK => ?_)
        refine stp (by with_unfolding_all rfl) (wp_call Tryz.func120 rfl (by with_unfolding_all rfl) (by with_unfolding_all rfl) (by with_unfolding_all rfl) (hrc.out _ hFd) ?_)
        rintro e w11 ⟨r11, k11, rfl, hb11, hka11, hkb11⟩
        refine ⟨_, rfl, ?_⟩
        have hF11 := hFd.call hb11
        refine hK.out _ _ ((hF11.blk (i := 1) rfl)) (fun _ => ?_)
        clear hK K
        (try simp only [zP, zQ, zS, zZ, zN])
        refine tkp 10 (hF11.blk (i := 1) rfl) ?_
        (try simp only [zP, zQ, zS, zZ, zN])
        refine tkp 11 (hF11.blk (i := 1) rfl) ?_
        (try simp only [zP, zQ, zS, zZ, zN])
        refine tkp 12 (hF11.blk (i := 1) rfl) ?_
        (try simp only [zP, zQ, zS, zZ, zN])
        refine tkp 13 (hF11.blk (i := 1) rfl) ?_
        (try simp only [zP, zQ, zS, zZ])
        refine tkp 14 (hF11.blk (i := 1) rfl) ?_
        (try simp only [zP, zQ, zS, zZ])
        refine wpAnyH_done (by kernel_rfl) ?_ _
        go_wp2_with fail
        go_meet
        exact ⟨_, _, rfl, rfl, box hka11, box hkb11, hF11⟩
       case rest =>
        obtain ⟨r, k, rfl, rfl, hka, hkb, hF3⟩ := hcut
        clear hF2 hF
        go_upto_region 5 with (fail)
        go_cut [29] (fun s29 wx => ∃ b29 : Bool, s29 = .bool b29 ∧ Box (b29 = decide (sz = 0)) ∧ wx = wc)
        case first =>
         by_cases hz : sz = 0
         ·obtain ⟨rfl, hk2⟩ := hka.out.2 hz
          have hk3 : (k : Int) < 2 := by omega
          go_wp2
          go_meet
          exact ⟨true, by simp [hk3], box (by simp [hz]), rfl⟩
         ·have hkz := hkb.out hz
          by_cases hr5 : r = 65533
          ·subst hr5
           have hk2 : ¬ (k : Int) < 2 := fun h => hz (hka.out.1 ⟨rfl, by omega⟩)
           clear hkz
           replace hz := box hz
           go_wp2
           go_meet
           exact ⟨false, rfl, box (by simp [hz.out]), rfl⟩
          ·have hr6 : ((r : Int) == 65533) = false := by rw [beq_eq_false_iff_ne]; omega
           clear hkz
           replace hz := box hz
           replace hr5 := box hr5
           go_wp2
           go_meet
           exact ⟨false, rfl, box (by simp [hz.out]), rfl⟩
        case rest =>
         obtain ⟨b29, rfl, hb29, rfl⟩ := hcut
         by_cases hz : sz = 0
         ·obtain rfl : b29 = true := by rw [hb29.out]; simp [hz]
          have hst := hstep.out
          rw [if_pos hz] at hst
          have hend := box hst
          have hfl := box (fun v w => fail_any v p' 61 w)
          have h3 := rdr_p (hF3.blk (i := 1) rfl)
          clear hst hrc hrk htl
          replace hz := box hz
          go_wp2_with fail
          refine (hfl.out _ _).mono ?_
          rintro e w4 ⟨rfl, rfl⟩
          dsimp only [flt]
          go_wp2
          exact ⟨rfl, by unfold JEndP; rw [hend.out]; exact ⟨rfl, hF3.grown⟩⟩
         ·obtain rfl : b29 = false := by rw [hb29.out]; simp [hz]
          obtain rfl : k = sz := hkb.out hz
          have hst := hstep.out
          rw [if_neg hz] at hst
          have hgo := box hst
          clear hst hrc hka hkb
          replace hz := box hz
          have hpk : p' + k ≤ n := by omega
          have hrk' := box (fun w' (hF : Fr [g] w w' [Ent.bytes w.heap.size 5 (.slice Ao out.length co) out, .blk g 127 (rdrL A n c p' m)]) => hrk.out k hpk w' hF)
          have hw1 : IntKind.i64.wrap ((p' : Int) + (k : Int)) = (p' : Int) + (k : Int) := IntWalk.i64_in _ (by omega)
          clear hrk
          go_upto_region 7 with (fail)
          go_cut [3] (fun s3 wx => ∃ v, s3 = v ∧ Fr [g] w wx [Ent.bytes w.heap.size 5 v (out ++ (b.drop p').take k), .blk g 127 (rdrL A n c p' m)])
          case first =>
           have hFd := hF3.drew
           clear hF3
           refine wp_region_held (S := fun w' => w'.heap[g]? = some (.cells (List.toArray (rdrL A n c p' m)) 127 (0, 0))) (by kernel_rfl) ?_
           change wpAnyH _ _ _ _ _ _ _ _ (World.drew _)
           refine tkp 0 (hFd.blk (i := 1) rfl) ?_
           (try simp only [zP, zQ, zS, zZ, zN])
           refine tkp 1 (hFd.blk (i := 1) rfl) ?_
           (try simp only [zP, zQ, zS, zZ, zN])
           refine tkp 2 (hFd.blk (i := 1) rfl) ?_
           (try simp only [zP, zQ, zS, zZ, zN])
           refine tkp 3 (hFd.blk (i := 1) rfl) ?_
           (try simp only [zP, zQ, zS, zZ, zN])
           refine tky 4 (y := yi_fld (by with_unfolding_all rfl) (fun _ h => h) uq22 rfl (by with_unfolding_all exact ⟨_, rfl, rfl⟩) rfl) (s := (hFd.blk (i := 1) rfl)) (h := ?_)
           (try simp only [zP, zQ, zS, zZ, zN])
           refine tkp 5 (hFd.blk (i := 1) rfl) ?_
           (try simp only [zP, zQ, zS, zZ, zN])
           refine tkp 6 (hFd.blk (i := 1) rfl) ?_
           (try simp only [zP, zQ, zS, zZ, zN])
           refine tkp 7 (hFd.blk (i := 1) rfl) ?_
           (try simp only [zP, zQ, zS, zZ, zN])
           refine tky 8 (y := yi_fld (by with_unfolding_all rfl) (fun _ h => h) uq3 rfl (by with_unfolding_all exact ⟨_, rfl, rfl⟩) rfl) (s := (hFd.blk (i := 1) rfl)) (h := ?_)
           (try simp only [zP, zQ, zS, zZ, zN])
           refine tkp 9 (hFd.blk (i := 1) rfl) ?_
           (try simp only [zP, zQ, zS, zZ, zN])
           refine tkp 10 (hFd.blk (i := 1) rfl) ?_
           (try simp only [zP, zQ, zS, zZ, zN])
           refine tkp 11 (hFd.blk (i := 1) rfl) ?_
           (try simp only [zP, zQ, zS, zZ, zN])
           refine tky 12 (y := yi_fld (by with_unfolding_all rfl) (fun _ h => h) uq3 rfl (by with_unfolding_all exact ⟨_, rfl, rfl⟩) rfl) (s := (hFd.blk (i := 1) rfl)) (h := ?_)
           (try simp only [zP, zQ, zS, zZ, zN])
           refine tkp 13 (hFd.blk (i := 1) rfl) ?_
           (try simp only [zP, zQ, zS, zZ, zN])
           refine tkp 14 (hFd.blk (i := 1) rfl) ?_
           (try simp only [zP, zQ, zS, zZ, zN])
           refine tky 15 (y := yi_cut (by with_unfolding_all rfl) T_u8 (lo := some (p' : Int)) (hi := some ((p' : Int) + (k : Int))) (mx := none) (l := p') (h := p' + k) (m := c) (by with_unfolding_all exact ⟨_, _, _, _, .i64, .i64, .i64, rfl, rfl, rfl, rfl, rfl⟩) (by simp; done) (by simp; done) (by simp; done) (by simp) (by omega) (by omega) (by omega) (by omega)) (s := (hFd.blk (i := 1) rfl)) (h := ?_)
           (try simp only [zP, zQ, zS, zZ, zN])
           refine rdy1 16 (fun K hK => ?_)
           refine stp (by with_unfolding_all rfl) (wp_fapp T_u8 hFd (i := 0) (l := out) rfl (Nat.le_refl _) (hrk'.out _ hFd) (by with_unfolding_all exact ⟨_, _, rfl, rfl, rfl⟩) (by omega) ?_)
           intro v11 w11 hF11 hz11
           (try simp only [zZ, zN] at hF11)
           refine hK.out _ _ ((hF11.blk (i := 1) rfl)) (fun _ => ?_)
           clear hK K
           (try simp only [zP, zQ, zS, zZ, zN])
           refine tkp 17 (hF11.blk (i := 1) rfl) ?_
           (try simp only [zP, zQ, zS, zZ])
           refine wpAnyH_done (by kernel_rfl) ?_ _
           go_wp2_with fail
           go_meet
           exact ⟨_, rfl, hF11⟩
          case rest =>
           obtain ⟨v4, rfl, hF4⟩ := hcut
           have h4 := rdr_p (hF4.blk (i := 1) rfl)
           go_wp2_with (first | ((with_reducible refine lsx (wp_fst1 hF4 (by with_unfolding_all exact ⟨_, _, rfl, rfl, rfl⟩) (by kernel_rfl) rfl rfl (by rw [rdrL_len]; decide) (rdrL_at (q := p' + k) (by omega)) ?_)); intro w5 hF5 hz5))
           go_roundg (n + 1 - (p' + k))
           case rel => exact ⟨_, p' + k, by omega, rfl, box (by rw [List.length_append, htl]; omega), hgo, hF5⟩
           case measure => have := hk.out; have := hz.out; omega
end Go.Proofs.YtlhicfpmlncomaaGreatDoor

namespace Go.Proofs.YtlhicfpmlncomaaGreatDoor
abbrev LexS := List Nat × Option Nat × List Nat
def lexSum (ops : Array Oper) (o : Oper) : LexS := ((o.after.toList.filter (Region.binds .any)).map (·.on), o.dst, o.looksAt ops)
def lexApart (x y : LexS) : Bool :=
 (match x.2.1 with
   | some d => !y.2.2.contains d && y.2.1 != some d
   | none => true) &&
 (match y.2.1 with
   | some d => !x.2.2.contains d
   | none => true)
def lexTail (k : Nat) (x : LexS) : List LexS → Bool
 | [] => true
 | y :: l => (y.1.contains k || lexApart x y) && lexTail k x l
def lexChk : Nat → List LexS → Bool
 | _, [] => true
 | k, x :: l => x.1.all (fun i => decide (i < k)) && lexTail k x l && lexChk (k + 1) l
theorem lexApart_spec {ops : Array Oper} {x y : Oper} (h : lexApart (lexSum ops x) (lexSum ops y) = true) : x.apart ops y = true := h
theorem lexTail_spec {k : Nat} {x y : LexS} : ∀ {l : List LexS}, lexTail k x l = true → y ∈ l → y.1.contains k = true ∨ lexApart x y = true
 | z :: l, h, hm => by
  simp only [lexTail, Bool.and_eq_true, Bool.or_eq_true] at h
  rcases List.mem_cons.1 hm with rfl | hm
  ·exact h.1
  ·exact lexTail_spec h.2 hm
theorem lexFrom_of {l : List Oper} : ∀ (f k : Nat) (listed : Array Bool), f + k = l.length → (∀ j, j < l.length → listed[j]? = some (decide (j < k))) → lexChk k ((l.map (lexSum l.toArray)).drop k) = true → Region.lexFrom .any l.toArray f k listed = true
 | 0, k, listed, hk, hL, _ => by
  simp only [Region.lexFrom, Region.ready, List.isEmpty_iff, List.filter_eq_nil_iff, List.mem_range]
  intro i hi
  have hi' : i < l.length := by simpa using hi
  have := hL i hi'
  simp [this, show i < k by omega]
 | f + 1, k, listed, hk, hL, hc => by
  have hkl : k < l.length := by omega
  rw [List.drop_eq_getElem_cons (by simpa using hkl)] at hc
  simp only [lexChk, Bool.and_eq_true, List.all_eq_true, decide_eq_true_eq, List.getElem_map] at hc
  obtain ⟨⟨h1, h2⟩, h3⟩ := hc
  have hop : l.toArray[k]? = some l[k] := by simp [hkl]
  simp only [Region.lexFrom, Bool.and_eq_true]
  refine ⟨⟨?_, ?_⟩, ?_⟩
  ·simp only [List.contains_iff_mem, Region.ready, List.mem_filter, List.mem_range, Bool.and_eq_true]
   refine ⟨by simpa using hkl, ?_, ?_⟩
   ·simp [hL k hkl]
   ·rw [hop]
    simp only [Option.map_some, Option.getD_some, Array.all_eq_true_iff_forall_mem]
    intro e he
    cases hb : Region.binds .any e with
    | false => rfl
    | true =>
     have hlt := h1 e.on (by
      simp only [lexSum, List.mem_map, List.mem_filter]
      exact ⟨e, ⟨by simpa using he, hb⟩, rfl⟩)
     simp [hL e.on (by omega), hlt]
  ·unfold Region.free
   rw [hop]
   simp only [List.all_eq_true, List.mem_range]
   intro j hj
   have hj' : j < l.length := by simpa using hj
   rcases Nat.lt_trichotomy j k with hjk | hjk | hjk
   ·simp [hL j hj', hjk]
   ·simp [hjk]
   ·have hoj : l.toArray[j]? = some l[j] := by simp [hj']
    rw [hoj]
    simp only [Bool.or_eq_true]
    right
    have hm : lexSum l.toArray l[j] ∈ (l.map (lexSum l.toArray)).drop (k + 1) := by
     rw [List.mem_iff_getElem?]
     refine ⟨j - (k + 1), ?_⟩
     rw [List.getElem?_drop, show k + 1 + (j - (k + 1)) = j by omega, List.getElem?_map, List.getElem?_eq_getElem hj']
     rfl
    rcases lexTail_spec h2 hm with h4 | h4
    ·left
     simp only [lexSum, List.contains_iff_mem, List.mem_map, List.mem_filter] at h4
     obtain ⟨e, ⟨he, hb⟩, hon⟩ := h4
     rw [Array.any_eq_true']
     exact ⟨e, by simpa using he, by simp [hb, hon]⟩
    ·exact .inr (lexApart_spec h4)
  ·refine lexFrom_of f (k + 1) _ (by omega) (fun j hj => ?_) h3
   rw [Array.getElem?_setIfInBounds]
   have hs : k < listed.size := (Array.getElem?_eq_some_iff.1 (hL k hkl)).1
   by_cases hkj : k = j
   ·rw [if_pos hkj, if_pos hs]; simp [hkj]
   ·rw [if_neg hkj, hL j hj]
    congr 1
    by_cases hlt : j < k
    ·simp [hlt]; omega
    ·simp [hlt]; omega
theorem lex_of {l : List Oper} (S : List LexS) (hs : Region.noSelect l.toArray = true) (h : l.map (lexSum l.toArray) = S) (hc : lexChk 0 S = true) : Region.lexB .any l.toArray = true := by
 unfold Region.lexB
 rw [hs, Bool.true_and]
 refine lexFrom_of _ 0 _ (by simp) (fun j hj => ?_) (by rw [h]; exact hc)
 simp [hj]
end Go.Proofs.YtlhicfpmlncomaaGreatDoor

namespace Go.Proofs.YtlhicfpmlncomaaGreatDoor
open Go.Lib
theorem jDigs_snoc (l : List UInt8) (c : UInt8) : jDigs (l ++ [c]) = 10 * jDigs l + (c.toNat - 48) := by simp [jDigs]
theorem dig_of (d : Nat) (h : d < 10) : (UInt8.ofNat (48 + d)).toNat = 48 + d := by simp; omega
theorem decDigits_small {u : Nat} (h : u < 10) : decDigits u = [UInt8.ofNat (48 + u)] := by rw [decDigits, dif_pos h]
theorem decDigits_big {u : Nat} (h : ¬ u < 10) : decDigits u = decDigits (u / 10) ++ [UInt8.ofNat (48 + u % 10)] := by rw [decDigits, dif_neg h]
theorem decDigits_ne : ∀ u, decDigits u ≠ [] := fun u => by
 by_cases h : u < 10
 ·rw [decDigits_small h]; simp
 ·rw [decDigits_big h]; simp
theorem decDigits_val : ∀ u, jDigs (decDigits u) = u
 | u => by
  by_cases h : u < 10
  ·rw [decDigits_small h]
   show 10 * 0 + ((UInt8.ofNat (48 + u)).toNat - 48) = u
   rw [dig_of u h]; omega
  ·rw [decDigits_big h, jDigs_snoc, decDigits_val (u / 10), dig_of _ (Nat.mod_lt _ (by decide))]
   omega
termination_by u => u
decreasing_by omega
theorem decDigits_dig : ∀ u, (decDigits u).all jDig = true
 | u => by
  by_cases h : u < 10
  ·rw [decDigits_small h]
   simp only [List.all_cons, List.all_nil, Bool.and_true, jDig, dig_of u h]
   simp; omega
  ·rw [decDigits_big h, List.all_append, decDigits_dig (u / 10)]
   simp only [List.all_cons, List.all_nil, Bool.and_true, jDig, dig_of _ (Nat.mod_lt u (show 0 < 10 by decide))]
   simp; omega
termination_by u => u
decreasing_by omega
theorem decDigits_head : ∀ u, 0 < u → (decDigits u).head? ≠ some 48
 | u, hu => by
  by_cases h : u < 10
  ·rw [decDigits_small h]
   intro e
   have e1 : UInt8.ofNat (48 + u) = 48 := by simpa using e
   have e2 := congrArg UInt8.toNat e1
   rw [dig_of u h] at e2
   have e3 : (48 : UInt8).toNat = 48 := rfl
   omega
  ·rw [decDigits_big h]
   have ih := decDigits_head (u / 10) (by omega)
   have hne := decDigits_ne (u / 10)
   cases hd : decDigits (u / 10) with
   | nil => exact absurd hd hne
   | cons c l => rw [hd] at ih; simpa using ih
termination_by u => u
decreasing_by omega
theorem decDigits_len : ∀ (k u : Nat), u < 10 ^ (k + 1) → (decDigits u).length ≤ k + 1
 | 0, u, h => by rw [decDigits_small (by simpa using h)]; simp
 | k + 1, u, h => by
  by_cases h10 : u < 10
  ·rw [decDigits_small h10]; simp
  ·rw [decDigits_big h10, List.length_append]
   have := decDigits_len k (u / 10) (by rw [Nat.pow_succ] at h; omega)
   simp; omega
theorem dig_char {c : UInt8} (h : jDig c = true) : 48 ≤ c.toNat ∧ c.toNat ≤ 57 := by simpa [jDig] using h
theorem jDigs_pos : ∀ (l : List UInt8), l ≠ [] → l.all jDig = true → l.head? ≠ some 48 → 0 < jDigs l := by
 intro l
 cases l with
 | nil => intro h; exact absurd rfl h
 | cons c l =>
  intro _ ha hh
  simp only [List.all_cons, Bool.and_eq_true] at ha
  have hc := dig_char ha.1
  have hc48 : c.toNat ≠ 48 := fun h => hh (by simp; exact UInt8.toNat_inj.1 (by have e : (48 : UInt8).toNat = 48 := rfl; omega))
  have key : ∀ (l : List UInt8) (a : Nat), 0 < a → 0 < l.foldl (fun n c => 10 * n + (c.toNat - 48)) a := by
   intro l
   induction l with
   | nil => intro a h; exact h
   | cons x l ih => intro a h; exact ih _ (by show 0 < 10 * a + _; omega)
  exact key l _ (by show 0 < 10 * 0 + (c.toNat - 48); omega)
theorem decDigits_of : ∀ (n : Nat) (l : List UInt8), l.length = n → l ≠ [] → l.all jDig = true → (l.head? ≠ some 48 ∨ l.length = 1) → decDigits (jDigs l) = l
 | 0, l, hn, hne, _, _ => absurd (List.eq_nil_of_length_eq_zero hn) hne
 | n + 1, l, hn, hne, ha, hh => by
  obtain ⟨t, c, rfl⟩ : ∃ t c, l = t ++ [c] := ⟨l.dropLast, l.getLast hne, (List.dropLast_concat_getLast hne).symm⟩
  simp only [List.all_append, List.all_cons, List.all_nil, Bool.and_true, Bool.and_eq_true] at ha
  have hc := dig_char ha.2
  rw [jDigs_snoc]
  cases t with
  | nil =>
   show decDigits (10 * 0 + (c.toNat - 48)) = [c]
   rw [decDigits_small (by omega)]
   congr 1
   exact UInt8.toNat_inj.1 (by rw [dig_of _ (by omega)]; omega)
  | cons x t =>
   have hh2 : (x :: t).head? ≠ some 48 := by
    rcases hh with h | h
    ·simpa using h
    ·simp at h
   have hpos := jDigs_pos (x :: t) (by simp) ha.1 hh2
   have ih := decDigits_of n (x :: t) (by simpa using hn) (by simp) ha.1 (.inl hh2)
   rw [decDigits_big (by omega), show (10 * jDigs (x :: t) + (c.toNat - 48)) / 10 = jDigs (x :: t) by omega, ih]
   congr 2
   exact UInt8.toNat_inj.1 (by rw [dig_of _ (Nat.mod_lt _ (by decide))]; omega)
theorem parseUint10_ok : ∀ (l : List UInt8) (acc : Nat), l.all jDig = true → l.foldl (fun n c => 10 * n + (c.toNat - 48)) acc < 18446744073709551616 → parseUint10 acc l = .ok (l.foldl (fun n c => 10 * n + (c.toNat - 48)) acc)
 | [], acc, _, _ => rfl
 | c :: l, acc, ha, hlt => by
  simp only [List.all_cons, Bool.and_eq_true] at ha
  have hc := dig_char ha.1
  have mono : ∀ (l : List UInt8) (a : Nat), a ≤ l.foldl (fun n c => 10 * n + (c.toNat - 48)) a := by
   intro l
   induction l with
   | nil => intro a; exact Nat.le_refl _
   | cons x l ih => intro a; exact Nat.le_trans (by show a ≤ 10 * a + _; omega) (ih _)
  rw [List.foldl_cons] at hlt ⊢
  have hm := mono l (10 * acc + (c.toNat - 48))
  rw [parseUint10, if_pos hc, if_neg (by omega), if_neg (by omega), show acc * 10 + (c.toNat - 48) = 10 * acc + (c.toNat - 48) by omega]
  exact parseUint10_ok l _ ha.2 hlt
theorem jNum_lib {s : List UInt8} {v : Int} (h : jNum s = some v) : itoa v = s ∧ atoiAll s = .ok v ∧ -9007199254740991 ≤ v ∧ v ≤ 9007199254740991 := by
 unfold jNum at h
 cases s with
 | nil => simp at h
 | cons c r =>
  by_cases hc : c = 45
  ·subst hc
   simp only [List.head?_cons, beq_self_eq_true, if_true, List.tail_cons] at h
   split at h
   ·rename_i hh
    obtain ⟨h1, h2, h3, h4, h5⟩ := hh
    injection h with h
    have h3' : r.head? ≠ some 48 := by
     rcases h3 with h3 | ⟨_, h3⟩
     ·exact h3
     ·cases h3
    have hpos := jDigs_pos r h1 h4 h3'
    have hd := decDigits_of r.length r rfl h1 h4 (.inl h3')
    subst h
    refine ⟨?_, ?_, by omega, by omega⟩
    ·unfold itoa
     rw [if_pos (by omega), Int.natAbs_neg, Int.natAbs_natCast, hd]
    ·unfold atoiAll
     have e45 : (45 : UInt8).toNat = 45 := rfl
     simp only [e45]
     rw [if_pos (by simp)]
     unfold parseMag
     rw [if_neg h1, parseUint10_ok r 0 h4 (by show jDigs r < _; omega)]
     simp only []
     rw [if_neg (by simp), if_neg (by show ¬ (True ∧ _ < jDigs r); omega)]
     simp [jDigs]
   ·cases h
  ·have hn : ((c :: r).head? == some 45) = false := by simpa using hc
   simp only [hn, Bool.false_eq_true, if_false] at h
   split at h
   ·rename_i hh
    obtain ⟨h1, h2, h3, h4, h5⟩ := hh
    injection h with h
    have h3' : (c :: r).head? ≠ some 48 ∨ (c :: r).length = 1 := by
     rcases h3 with h3 | ⟨h3, _⟩
     ·exact .inl h3
     ·exact .inr h3
    have hd := decDigits_of (c :: r).length (c :: r) rfl h1 h4 h3'
    have hcd := dig_char (show jDig c = true by simp only [List.all_cons, Bool.and_eq_true] at h4; exact h4.1)
    subst h
    refine ⟨?_, ?_, by omega, by omega⟩
    ·unfold itoa
     rw [if_neg (by omega), Int.toNat_natCast, hd]
    ·unfold atoiAll
     simp only []
     rw [if_neg (by omega)]
     unfold parseMag
     rw [if_neg h1, parseUint10_ok (c :: r) 0 h4 (by show jDigs (c :: r) < _; omega)]
     simp only []
     have hc45 : ¬ c.toNat = 45 := by omega
     rw [if_neg (by show ¬ (_ ∧ _ ≤ jDigs (c :: r)); omega), if_neg (fun hx => hc45 hx.1), if_neg hc45]
     rfl
   ·cases h
theorem jNum_itoa {v : Int} (h0 : -9007199254740991 ≤ v) (h1 : v ≤ 9007199254740991) : jNum (itoa v) = some v := by
 unfold itoa
 by_cases hn : v < 0
 ·rw [if_pos hn]
  unfold jNum
  simp only [List.head?_cons, beq_self_eq_true, if_true, List.tail_cons]
  have hl := decDigits_len 15 v.natAbs (by omega)
  rw [if_pos ⟨decDigits_ne _, hl, .inl (decDigits_head _ (by omega)), decDigits_dig _, by rw [decDigits_val]; omega⟩, decDigits_val]
  congr 1
  omega
 ·rw [if_neg hn]
  unfold jNum
  have hd := decDigits_dig v.toNat
  have hne := decDigits_ne v.toNat
  have h45 : ((decDigits v.toNat).head? == some 45) = false := by
   cases hdd : decDigits v.toNat with
   | nil => exact absurd hdd hne
   | cons c l =>
    rw [hdd] at hd
    simp only [List.all_cons, Bool.and_eq_true] at hd
    have := dig_char hd.1
    simp
    intro e
    rw [e] at this
    have : (45 : UInt8).toNat = 45 := rfl
    omega
  simp only [h45, Bool.false_eq_true, if_false]
  have hl := decDigits_len 15 v.toNat (by omega)
  have h3 : (decDigits v.toNat).head? ≠ some 48 ∨ (decDigits v.toNat).length = 1 ∧ False = False := by
   by_cases hz : v.toNat = 0
   ·right; rw [hz, decDigits_small (by decide)]; simp
   ·exact .inl (decDigits_head _ (by omega))
  rw [if_pos ⟨hne, hl, by rcases h3 with h | ⟨h, _⟩; exact .inl h; exact .inr ⟨h, trivial⟩, hd, by rw [decDigits_val]; omega⟩, decDigits_val]
  congr 1
  omega
end Go.Proofs.YtlhicfpmlncomaaGreatDoor
