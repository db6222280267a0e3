/- The shelf's contracts at this program, laid by the kit's tools. The shelf's contracts at this program, laid by the kit's tools: those that Sh lacks; the Builder's writers. The law's numbers: digits, whole. num.Check at numbers that are well. -/
import Derived.Shelf.Strings.Builder1
import Derived.Shelf.Strings.Builder2
import Derived.Shelf.Strings.Trim
import Derived.Shelf.Small.Utf8
import Derived.Shelf.Small.Strs
import Derived.Shelf.Small.Wraps
import Derived.Shelf.Strings.BuilderF
import Derived.Shelf.Strconv.Itoa0
import Derived.Shelf.Strconv.Itoa1
import Derived.Shelf.LaysM
import Derived.Shelf.Strconv.Itoa2
import Derived.Shelf.Strconv.Itoa3
import Derived.Shelf.Strings.Search1
import Derived.Shelf.Strings.Prefix
import Derived.Shelf.Unicode.Decode
import Derived.Shelf.Strings.Runes
import Derived.Shelf.Strings.AsciiSet
import Derived.Shelf.Bits.Mul64
import Derived.Shelf.Strings.Repeat
import Derived.Shelf.Unicode.DecodeSlow
import Derived.Shelf.Unicode.DecodeAny
import Derived.Shelf.Unicode.DecodeLast
import Derived.Test.YtcpgcjmamjjokaaGreatDoorProg
import Derived.Shelf.Unicode.ValidAny
import Derived.Shelf.Slices.Equal
import Derived.Ground.Names2Prog
import Derived.Shelf.Slices.Clone
import Derived.Ground.SlgnProg
import Derived.Shelf.SlicesE.Clone
import Derived.Test.YtcpgcjmamjjokaaGreatDoorGa
import Derived.Shelf.Strings.SlTrimAscii
namespace Go.Proofs
open Go.Shelf Go.RowKit Go.Lib
def Tryz.lays161_ren : Go.Shelf.Ren := ⟨fun | 161 => 120 | 231 => 159 | 227 => 160 | 233 => 161 | 235 => 162 | 228 => 201 | 197 => 202 | 151 => 203 | 260 => 255 | 152 => 256 | 137 => 285 | 119 => 289 | 224 => 290 | 225 => 291 | 217 => 300 | 266 => 301 | n => n, fun | 9 => 9 | 4 => 4 | 3 => 3 | 5 => 5 | 117 => 226 | 116 => 225 | 0 => 0 | 124 => 229 | 105 => 278 | 21 => 21 | 119 => 233 | 46 => 202 | 139 => 236 | 138 => 235 | n => n, fun | 3 => 0 | 4 => 1 | n => n⟩
theorem Tryz.lays161 : Go.Proofs.Lays.n161 Tryz.prog Tryz.lays161_ren := {
  mixed := by kernel_rfl
  f119 := Tryz.func289.trans (congrArg some (by kernel_rfl))
  f137 := Tryz.func285.trans (congrArg some (by kernel_rfl))
  f151 := Tryz.func203.trans (congrArg some (by kernel_rfl))
  f152 := Tryz.func256.trans (congrArg some (by kernel_rfl))
  f161 := Tryz.func120.trans (congrArg some (by kernel_rfl))
  f197 := Tryz.func202.trans (congrArg some (by kernel_rfl))
  f217 := Tryz.func300.trans (congrArg some (by kernel_rfl))
  f224 := Tryz.func290.trans (congrArg some (by kernel_rfl))
  f225 := Tryz.func291.trans (congrArg some (by kernel_rfl))
  f227 := Tryz.func160.trans (congrArg some (by kernel_rfl))
  f228 := Tryz.func201.trans (congrArg some (by kernel_rfl))
  f231 := Tryz.func159.trans (congrArg some (by kernel_rfl))
  f233 := Tryz.func161.trans (congrArg some (by kernel_rfl))
  f235 := Tryz.func162.trans (congrArg some (by kernel_rfl))
  f260 := Tryz.func255.trans (congrArg some (by kernel_rfl))
  f266 := Tryz.func301.trans (congrArg some (by kernel_rfl))
  t0 := Tryz.underlying0
  a0 := Tryz.isAgg0
  z0 := Tryz.sizeOf0
  v0 := Tryz.zeroValue0
  t3 := Tryz.underlying3
  a3 := Tryz.isAgg3
  z3 := Tryz.sizeOf3
  v3 := Tryz.zeroValue3
  t4 := Tryz.underlying4
  a4 := Tryz.isAgg4
  z4 := Tryz.sizeOf4
  v4 := Tryz.zeroValue4
  t5 := Tryz.underlying5
  a5 := Tryz.isAgg5
  z5 := Tryz.sizeOf5
  v5 := Tryz.zeroValue5
  t9 := Tryz.underlying9
  a9 := Tryz.isAgg9
  z9 := Tryz.sizeOf9
  v9 := Tryz.zeroValue9
  t21 := Tryz.underlying21
  a21 := Tryz.isAgg21
  z21 := Tryz.sizeOf21
  v21 := Tryz.zeroValue21
  t46 := Tryz.underlying202
  a46 := Tryz.isAgg202
  z46 := Tryz.sizeOf202
  v46 := Tryz.zeroValue202
  t105 := Tryz.underlying278
  a105 := Tryz.isAgg278
  z105 := Tryz.sizeOf278
  v105 := Tryz.zeroValue278
  t116 := Tryz.underlying225
  a116 := Tryz.isAgg225
  z116 := Tryz.sizeOf225
  t117 := Tryz.underlying226
  a117 := Tryz.isAgg226
  z117 := Tryz.sizeOf226
  v117 := Tryz.zeroValue226
  t119 := Tryz.underlying233
  a119 := Tryz.isAgg233
  z119 := Tryz.sizeOf233
  t124 := Tryz.underlying229
  a124 := Tryz.isAgg229
  z124 := Tryz.sizeOf229
  v124 := Tryz.zeroValue229
  t138 := Tryz.underlying235
  a138 := Tryz.isAgg235
  z138 := Tryz.sizeOf235
  v138 := Tryz.zeroValue235
  t139 := Tryz.underlying236
  a139 := Tryz.isAgg236
  z139 := Tryz.sizeOf236
  v139 := Tryz.zeroValue236
  g3 := by kernel_rfl
  g4 := by kernel_rfl }
theorem Tryz.strings_TrimLeft_one (s : ByteArray) (c : UInt8) (hc : c.toNat < 128) (w : World) :
    Calls Tryz.prog 120 #[.string s, .string ⟨#[c]⟩] w fun e w' => e = .returned (.string ⟨(Lib.trimLeftB s.data.toList c).toArray⟩) ∧ w' = w := Any.strings_TrimLeft_one Tryz.lays161 s c hc w
def Tryz.lays162_ren : Go.Shelf.Ren := ⟨fun | 162 => 155 | 232 => 198 | 227 => 160 | 234 => 199 | 236 => 200 | 228 => 201 | 271 => 254 | 151 => 203 | 120 => 288 | 197 => 202 | 152 => 256 | 260 => 255 | 137 => 285 | 119 => 289 | 224 => 290 | 225 => 291 | 217 => 300 | 266 => 301 | n => n, fun | 9 => 9 | 4 => 4 | 3 => 3 | 5 => 5 | 117 => 226 | 116 => 225 | 0 => 0 | 124 => 229 | 21 => 21 | 105 => 278 | 46 => 202 | 119 => 233 | 139 => 236 | 138 => 235 | n => n, fun | 3 => 0 | 4 => 1 | n => n⟩
theorem Tryz.lays162 : Go.Proofs.Lays.n162 Tryz.prog Tryz.lays162_ren := {
  mixed := by kernel_rfl
  f119 := Tryz.func289.trans (congrArg some (by kernel_rfl))
  f120 := Tryz.func288.trans (congrArg some (by kernel_rfl))
  f137 := Tryz.func285.trans (congrArg some (by kernel_rfl))
  f151 := Tryz.func203.trans (congrArg some (by kernel_rfl))
  f152 := Tryz.func256.trans (congrArg some (by kernel_rfl))
  f162 := Tryz.func155.trans (congrArg some (by kernel_rfl))
  f197 := Tryz.func202.trans (congrArg some (by kernel_rfl))
  f217 := Tryz.func300.trans (congrArg some (by kernel_rfl))
  f224 := Tryz.func290.trans (congrArg some (by kernel_rfl))
  f225 := Tryz.func291.trans (congrArg some (by kernel_rfl))
  f227 := Tryz.func160.trans (congrArg some (by kernel_rfl))
  f228 := Tryz.func201.trans (congrArg some (by kernel_rfl))
  f232 := Tryz.func198.trans (congrArg some (by kernel_rfl))
  f234 := Tryz.func199.trans (congrArg some (by kernel_rfl))
  f236 := Tryz.func200.trans (congrArg some (by kernel_rfl))
  f260 := Tryz.func255.trans (congrArg some (by kernel_rfl))
  f266 := Tryz.func301.trans (congrArg some (by kernel_rfl))
  f271 := Tryz.func254.trans (congrArg some (by kernel_rfl))
  t0 := Tryz.underlying0
  a0 := Tryz.isAgg0
  z0 := Tryz.sizeOf0
  v0 := Tryz.zeroValue0
  t3 := Tryz.underlying3
  a3 := Tryz.isAgg3
  z3 := Tryz.sizeOf3
  v3 := Tryz.zeroValue3
  t4 := Tryz.underlying4
  a4 := Tryz.isAgg4
  z4 := Tryz.sizeOf4
  v4 := Tryz.zeroValue4
  t5 := Tryz.underlying5
  a5 := Tryz.isAgg5
  z5 := Tryz.sizeOf5
  v5 := Tryz.zeroValue5
  t9 := Tryz.underlying9
  a9 := Tryz.isAgg9
  z9 := Tryz.sizeOf9
  v9 := Tryz.zeroValue9
  t21 := Tryz.underlying21
  a21 := Tryz.isAgg21
  z21 := Tryz.sizeOf21
  v21 := Tryz.zeroValue21
  t46 := Tryz.underlying202
  a46 := Tryz.isAgg202
  z46 := Tryz.sizeOf202
  v46 := Tryz.zeroValue202
  t105 := Tryz.underlying278
  a105 := Tryz.isAgg278
  z105 := Tryz.sizeOf278
  v105 := Tryz.zeroValue278
  t116 := Tryz.underlying225
  a116 := Tryz.isAgg225
  z116 := Tryz.sizeOf225
  t117 := Tryz.underlying226
  a117 := Tryz.isAgg226
  z117 := Tryz.sizeOf226
  v117 := Tryz.zeroValue226
  t119 := Tryz.underlying233
  a119 := Tryz.isAgg233
  z119 := Tryz.sizeOf233
  t124 := Tryz.underlying229
  a124 := Tryz.isAgg229
  z124 := Tryz.sizeOf229
  v124 := Tryz.zeroValue229
  t138 := Tryz.underlying235
  a138 := Tryz.isAgg235
  z138 := Tryz.sizeOf235
  v138 := Tryz.zeroValue235
  t139 := Tryz.underlying236
  a139 := Tryz.isAgg236
  z139 := Tryz.sizeOf236
  v139 := Tryz.zeroValue236
  g3 := by kernel_rfl
  g4 := by kernel_rfl }
theorem Tryz.strings_TrimRight_one (s : ByteArray) (c : UInt8) (hc : c.toNat < 128) (w : World) (hs : s.size ≤ 9223372036854775807) :
    Calls Tryz.prog 155 #[.string s, .string ⟨#[c]⟩] w fun e w' => e = .returned (.string ⟨(Lib.trimRightB s.data.toList c).toArray⟩) ∧ w' = w := Any.strings_TrimRight_one Tryz.lays162 s c hc w hs
def Tryz.lays160_ren : Go.Shelf.Ren := ⟨fun | 160 => 158 | 232 => 198 | 231 => 159 | 227 => 160 | 234 => 199 | 233 => 161 | 236 => 200 | 235 => 162 | 228 => 201 | 271 => 254 | 151 => 203 | 197 => 202 | 120 => 288 | 152 => 256 | 260 => 255 | 137 => 285 | 119 => 289 | 224 => 290 | 225 => 291 | 217 => 300 | 266 => 301 | n => n, fun | 9 => 9 | 4 => 4 | 3 => 3 | 5 => 5 | 117 => 226 | 116 => 225 | 0 => 0 | 124 => 229 | 21 => 21 | 105 => 278 | 46 => 202 | 119 => 233 | 139 => 236 | 138 => 235 | n => n, fun | 3 => 0 | 4 => 1 | n => n⟩
theorem Tryz.lays160 : Go.Proofs.Lays.n160 Tryz.prog Tryz.lays160_ren := {
  mixed := by kernel_rfl
  f119 := Tryz.func289.trans (congrArg some (by kernel_rfl))
  f120 := Tryz.func288.trans (congrArg some (by kernel_rfl))
  f137 := Tryz.func285.trans (congrArg some (by kernel_rfl))
  f151 := Tryz.func203.trans (congrArg some (by kernel_rfl))
  f152 := Tryz.func256.trans (congrArg some (by kernel_rfl))
  f160 := Tryz.func158.trans (congrArg some (by kernel_rfl))
  f197 := Tryz.func202.trans (congrArg some (by kernel_rfl))
  f217 := Tryz.func300.trans (congrArg some (by kernel_rfl))
  f224 := Tryz.func290.trans (congrArg some (by kernel_rfl))
  f225 := Tryz.func291.trans (congrArg some (by kernel_rfl))
  f227 := Tryz.func160.trans (congrArg some (by kernel_rfl))
  f228 := Tryz.func201.trans (congrArg some (by kernel_rfl))
  f231 := Tryz.func159.trans (congrArg some (by kernel_rfl))
  f232 := Tryz.func198.trans (congrArg some (by kernel_rfl))
  f233 := Tryz.func161.trans (congrArg some (by kernel_rfl))
  f234 := Tryz.func199.trans (congrArg some (by kernel_rfl))
  f235 := Tryz.func162.trans (congrArg some (by kernel_rfl))
  f236 := Tryz.func200.trans (congrArg some (by kernel_rfl))
  f260 := Tryz.func255.trans (congrArg some (by kernel_rfl))
  f266 := Tryz.func301.trans (congrArg some (by kernel_rfl))
  f271 := Tryz.func254.trans (congrArg some (by kernel_rfl))
  t0 := Tryz.underlying0
  a0 := Tryz.isAgg0
  z0 := Tryz.sizeOf0
  v0 := Tryz.zeroValue0
  t3 := Tryz.underlying3
  a3 := Tryz.isAgg3
  z3 := Tryz.sizeOf3
  v3 := Tryz.zeroValue3
  t4 := Tryz.underlying4
  a4 := Tryz.isAgg4
  z4 := Tryz.sizeOf4
  v4 := Tryz.zeroValue4
  t5 := Tryz.underlying5
  a5 := Tryz.isAgg5
  z5 := Tryz.sizeOf5
  v5 := Tryz.zeroValue5
  t9 := Tryz.underlying9
  a9 := Tryz.isAgg9
  z9 := Tryz.sizeOf9
  v9 := Tryz.zeroValue9
  t21 := Tryz.underlying21
  a21 := Tryz.isAgg21
  z21 := Tryz.sizeOf21
  v21 := Tryz.zeroValue21
  t46 := Tryz.underlying202
  a46 := Tryz.isAgg202
  z46 := Tryz.sizeOf202
  v46 := Tryz.zeroValue202
  t105 := Tryz.underlying278
  a105 := Tryz.isAgg278
  z105 := Tryz.sizeOf278
  v105 := Tryz.zeroValue278
  t116 := Tryz.underlying225
  a116 := Tryz.isAgg225
  z116 := Tryz.sizeOf225
  t117 := Tryz.underlying226
  a117 := Tryz.isAgg226
  z117 := Tryz.sizeOf226
  v117 := Tryz.zeroValue226
  t119 := Tryz.underlying233
  a119 := Tryz.isAgg233
  z119 := Tryz.sizeOf233
  t124 := Tryz.underlying229
  a124 := Tryz.isAgg229
  z124 := Tryz.sizeOf229
  v124 := Tryz.zeroValue229
  t138 := Tryz.underlying235
  a138 := Tryz.isAgg235
  z138 := Tryz.sizeOf235
  v138 := Tryz.zeroValue235
  t139 := Tryz.underlying236
  a139 := Tryz.isAgg236
  z139 := Tryz.sizeOf236
  v139 := Tryz.zeroValue236
  g3 := by kernel_rfl
  g4 := by kernel_rfl }
theorem Tryz.strings_Trim_one (s : ByteArray) (c : UInt8) (hc : c.toNat < 128) (w : World) (hs : s.size ≤ 9223372036854775807) :
    Calls Tryz.prog 158 #[.string s, .string ⟨#[c]⟩] w fun e w' => e = .returned (.string ⟨(Lib.trimB s.data.toList c).toArray⟩) ∧ (w' = w ∨ w' = w.drew) := Any.strings_Trim_one Tryz.lays160 s c hc w hs
def Tryz.lays103_ren : Go.Shelf.Ren := ⟨fun | 103 => 116 | 210 => 156 | 206 => 157 | n => n, fun | 9 => 9 | 4 => 4 | 24 => 187 | 3 => 3 | n => n, fun | n => n⟩
theorem Tryz.lays103 : Go.Proofs.Lays.n103 Tryz.prog Tryz.lays103_ren := {
  mixed := by kernel_rfl
  f103 := Tryz.func116.trans (congrArg some (by kernel_rfl))
  f206 := Tryz.func157.trans (congrArg some (by kernel_rfl))
  f210 := Tryz.func156.trans (congrArg some (by kernel_rfl))
  t3 := Tryz.underlying3
  a3 := Tryz.isAgg3
  z3 := Tryz.sizeOf3
  v3 := Tryz.zeroValue3
  t4 := Tryz.underlying4
  a4 := Tryz.isAgg4
  z4 := Tryz.sizeOf4
  v4 := Tryz.zeroValue4
  t9 := Tryz.underlying9
  a9 := Tryz.isAgg9
  z9 := Tryz.sizeOf9
  v9 := Tryz.zeroValue9
  t24 := Tryz.underlying187
  a24 := Tryz.isAgg187
  z24 := Tryz.sizeOf187
  v24 := Tryz.zeroValue187 }
theorem Tryz.strings_CutPrefix (s p : ByteArray) (w : World) :
    Calls Tryz.prog 116 #[.string s, .string p] w fun e w' => e = .returned (.tuple #[.string ⟨(Lib.trimPrefix s.data.toList p.data.toList).toArray⟩, .bool (Lib.hasPrefix s.data.toList p.data.toList)]) ∧ w' = w := Any.strings_CutPrefix Tryz.lays103 s p w
def Tryz.lays171_ren : Go.Shelf.Ren := ⟨fun | 171 => 84 | 243 => 122 | 246 => 165 | 283 => 209 | 284 => 210 | 285 => 211 | 286 => 212 | 129 => 176 | 317 => 260 | 318 => 261 | 319 => 262 | 320 => 263 | 337 => 294 | 338 => 295 | n => n, fun | 3 => 3 | 9 => 9 | 2 => 2 | 4 => 4 | 171 => 287 | 0 => 0 | 53 => 33 | 37 => 65 | 5 => 5 | 173 => 289 | 212 => 330 | 51 => 212 | 20 => 20 | 213 => 331 | 46 => 202 | 232 => 357 | 233 => 358 | n => n, fun | 17 => 9 | 18 => 11 | 19 => 12 | n => n⟩
theorem Tryz.lays171 : Go.Proofs.Lays.n171 Tryz.prog Tryz.lays171_ren := {
  mixed := by kernel_rfl
  f129 := Tryz.func176.trans (congrArg some (by kernel_rfl))
  f171 := Tryz.func84.trans (congrArg some (by kernel_rfl))
  f243 := Tryz.func122.trans (congrArg some (by kernel_rfl))
  f246 := Tryz.func165.trans (congrArg some (by kernel_rfl))
  f283 := Tryz.func209.trans (congrArg some (by kernel_rfl))
  f284 := Tryz.func210.trans (congrArg some (by kernel_rfl))
  f285 := Tryz.func211.trans (congrArg some (by kernel_rfl))
  f286 := Tryz.func212.trans (congrArg some (by kernel_rfl))
  f317 := Tryz.func260.trans (congrArg some (by kernel_rfl))
  f318 := Tryz.func261.trans (congrArg some (by kernel_rfl))
  f319 := Tryz.func262.trans (congrArg some (by kernel_rfl))
  f320 := Tryz.func263.trans (congrArg some (by kernel_rfl))
  f337 := Tryz.func294.trans (congrArg some (by kernel_rfl))
  f338 := Tryz.func295.trans (congrArg some (by kernel_rfl))
  t0 := Tryz.underlying0
  a0 := Tryz.isAgg0
  z0 := Tryz.sizeOf0
  v0 := Tryz.zeroValue0
  t2 := Tryz.underlying2
  a2 := Tryz.isAgg2
  z2 := Tryz.sizeOf2
  v2 := Tryz.zeroValue2
  t3 := Tryz.underlying3
  a3 := Tryz.isAgg3
  z3 := Tryz.sizeOf3
  v3 := Tryz.zeroValue3
  t4 := Tryz.underlying4
  a4 := Tryz.isAgg4
  z4 := Tryz.sizeOf4
  v4 := Tryz.zeroValue4
  t5 := Tryz.underlying5
  a5 := Tryz.isAgg5
  z5 := Tryz.sizeOf5
  v5 := Tryz.zeroValue5
  t9 := Tryz.underlying9
  a9 := Tryz.isAgg9
  z9 := Tryz.sizeOf9
  v9 := Tryz.zeroValue9
  t20 := Tryz.underlying20
  a20 := Tryz.isAgg20
  z20 := Tryz.sizeOf20
  v20 := Tryz.zeroValue20
  t37 := Tryz.underlying65
  a37 := Tryz.isAgg65
  z37 := Tryz.sizeOf65
  v37 := Tryz.zeroValue65
  t46 := Tryz.underlying202
  a46 := Tryz.isAgg202
  z46 := Tryz.sizeOf202
  v46 := Tryz.zeroValue202
  t51 := Tryz.underlying212
  a51 := Tryz.isAgg212
  z51 := Tryz.sizeOf212
  v51 := Tryz.zeroValue212
  t53 := Tryz.underlying33
  a53 := Tryz.isAgg33
  z53 := Tryz.sizeOf33
  v53 := Tryz.zeroValue33
  t171 := Tryz.underlying287
  a171 := Tryz.isAgg287
  z171 := Tryz.sizeOf287
  v171 := Tryz.zeroValue287
  t173 := Tryz.underlying289
  a173 := Tryz.isAgg289
  z173 := Tryz.sizeOf289
  v173 := Tryz.zeroValue289
  t212 := Tryz.underlying330
  a212 := Tryz.isAgg330
  z212 := Tryz.sizeOf330
  v212 := Tryz.zeroValue330
  t213 := Tryz.underlying331
  a213 := Tryz.isAgg331
  z213 := Tryz.sizeOf331
  t232 := Tryz.underlying357
  a232 := Tryz.isAgg357
  z232 := Tryz.sizeOf357
  v232 := Tryz.zeroValue357
  t233 := Tryz.underlying358
  a233 := Tryz.isAgg358
  z233 := Tryz.sizeOf358
  v233 := Tryz.zeroValue358
  g17 := by kernel_rfl
  g18 := by kernel_rfl
  g19 := by kernel_rfl }
theorem Tryz.strconv_Itoa_small (i : Nat) (hi : i < 100) (w : World) :
    Calls Tryz.prog 84 #[.int .i64 i] w fun e w' => e = .returned (.string ⟨(Lib.decDigits i).toArray⟩) ∧ w' = w := Any.strconv_Itoa_small Tryz.lays171 i hi w
def Tryz.lays99_ren : Go.Shelf.Ren := ⟨fun | 99 => 118 | 206 => 157 | n => n, fun | 9 => 9 | 4 => 4 | 3 => 3 | n => n, fun | n => n⟩
theorem Tryz.lays99 : Go.Proofs.Lays.n99 Tryz.prog Tryz.lays99_ren := {
  mixed := by kernel_rfl
  f99 := Tryz.func118.trans (congrArg some (by kernel_rfl))
  f206 := Tryz.func157.trans (congrArg some (by kernel_rfl))
  t3 := Tryz.underlying3
  a3 := Tryz.isAgg3
  z3 := Tryz.sizeOf3
  v3 := Tryz.zeroValue3
  t4 := Tryz.underlying4
  a4 := Tryz.isAgg4
  z4 := Tryz.sizeOf4
  v4 := Tryz.zeroValue4
  t9 := Tryz.underlying9
  a9 := Tryz.isAgg9
  z9 := Tryz.sizeOf9
  v9 := Tryz.zeroValue9 }
theorem Tryz.strings_HasPrefix (s p : ByteArray) (w : World) :
    Calls Tryz.prog 118 #[.string s, .string p] w fun e w' => e = .returned (.bool (Lib.hasPrefix s.data.toList p.data.toList)) ∧ w' = w := Any.strings_HasPrefix Tryz.lays99 s p w
def Tryz.lays100_ren : Go.Shelf.Ren := ⟨fun | 100 => 123 | 207 => 166 | n => n, fun | 9 => 9 | 4 => 4 | 3 => 3 | n => n, fun | n => n⟩
theorem Tryz.lays100 : Go.Proofs.Lays.n100 Tryz.prog Tryz.lays100_ren := {
  mixed := by kernel_rfl
  f100 := Tryz.func123.trans (congrArg some (by kernel_rfl))
  f207 := Tryz.func166.trans (congrArg some (by kernel_rfl))
  t3 := Tryz.underlying3
  a3 := Tryz.isAgg3
  z3 := Tryz.sizeOf3
  v3 := Tryz.zeroValue3
  t4 := Tryz.underlying4
  a4 := Tryz.isAgg4
  z4 := Tryz.sizeOf4
  v4 := Tryz.zeroValue4
  t9 := Tryz.underlying9
  a9 := Tryz.isAgg9
  z9 := Tryz.sizeOf9
  v9 := Tryz.zeroValue9 }
theorem Tryz.strings_HasSuffix (s p : ByteArray) (w : World) (hs : s.size ≤ 9223372036854775807) :
    Calls Tryz.prog 123 #[.string s, .string p] w fun e w' => e = .returned (.bool (Lib.hasSuffix s.data.toList p.data.toList)) ∧ w' = w := Any.strings_HasSuffix Tryz.lays100 s p w hs
def Tryz.lays227_ren : Go.Shelf.Ren := ⟨fun | 227 => 160 | n => n, fun | 9 => 9 | 116 => 225 | 4 => 4 | 0 => 0 | 3 => 3 | 5 => 5 | n => n, fun | n => n⟩
theorem Tryz.lays227 : Go.Proofs.Lays.n227 Tryz.prog Tryz.lays227_ren := {
  mixed := by kernel_rfl
  f227 := Tryz.func160.trans (congrArg some (by kernel_rfl))
  t0 := Tryz.underlying0
  a0 := Tryz.isAgg0
  z0 := Tryz.sizeOf0
  v0 := Tryz.zeroValue0
  t3 := Tryz.underlying3
  a3 := Tryz.isAgg3
  z3 := Tryz.sizeOf3
  v3 := Tryz.zeroValue3
  t4 := Tryz.underlying4
  a4 := Tryz.isAgg4
  z4 := Tryz.sizeOf4
  v4 := Tryz.zeroValue4
  t5 := Tryz.underlying5
  a5 := Tryz.isAgg5
  z5 := Tryz.sizeOf5
  v5 := Tryz.zeroValue5
  t9 := Tryz.underlying9
  a9 := Tryz.isAgg9
  z9 := Tryz.sizeOf9
  v9 := Tryz.zeroValue9
  t116 := Tryz.underlying225
  a116 := Tryz.isAgg225
  z116 := Tryz.sizeOf225 }
open Go.RowKit Go.Lib in
theorem Tryz.strings_makeASCIISet (hv116 : ∀ w, (zeroValue 225).run Tryz.prog w = .ok (.agg (Array.replicate 256 (.bool false))) w) (chars : ByteArray) (w : World) (hs : chars.size < 4294967281) (hascii : ∀ (j : Nat) b, chars.data.toList[j]? = some b → b.toNat < 128) :
    Calls Tryz.prog 160 #[.string chars] w fun e w' => e = .returned (.tuple #[.agg (Lib.setCells chars.data.toList), .bool true]) ∧ w' = w.alloc (.cells (Lib.setCells chars.data.toList) 225) := Any.strings_makeASCIISet Tryz.lays227 hv116 (by kernel_rfl) chars w hs hascii
def Tryz.lays228_ren : Go.Shelf.Ren := ⟨fun | 228 => 201 | n => n, fun | 124 => 229 | 5 => 5 | 4 => 4 | 0 => 0 | 116 => 225 | n => n, fun | n => n⟩
theorem Tryz.lays228 : Go.Proofs.Lays.n228 Tryz.prog Tryz.lays228_ren := {
  mixed := by kernel_rfl
  f228 := Tryz.func201.trans (congrArg some (by kernel_rfl))
  t0 := Tryz.underlying0
  a0 := Tryz.isAgg0
  z0 := Tryz.sizeOf0
  v0 := Tryz.zeroValue0
  t4 := Tryz.underlying4
  a4 := Tryz.isAgg4
  z4 := Tryz.sizeOf4
  v4 := Tryz.zeroValue4
  t5 := Tryz.underlying5
  a5 := Tryz.isAgg5
  z5 := Tryz.sizeOf5
  v5 := Tryz.zeroValue5
  t116 := Tryz.underlying225
  a116 := Tryz.isAgg225
  z116 := Tryz.sizeOf225
  t124 := Tryz.underlying229
  a124 := Tryz.isAgg229
  z124 := Tryz.sizeOf229
  v124 := Tryz.zeroValue229 }
theorem Tryz.asciiSet_contains (b : Nat) (x : UInt8) (v : Bool) (w : World) (hc : w.cell? ⟨b, x.toNat, none⟩ = some (.bool v)) :
    Calls Tryz.prog 201 #[.pointer (some ⟨b, 0, none⟩), .int .u8 x.toNat] w fun e w' => e = .returned (.bool v) ∧ w' = w := Any.asciiSet_contains Tryz.lays228 b x v w hc
def Tryz.lays105_ren : Go.Shelf.Ren := ⟨fun | 105 => 154 | 212 => 196 | 99 => 118 | 165 => 197 | 166 => 127 | 170 => 99 | 169 => 100 | 263 => 251 | 264 => 252 | 206 => 157 | 240 => 168 | 241 => 253 | 276 => 213 | 277 => 287 | n => n, fun | 9 => 9 | 3 => 3 | 4 => 4 | 20 => 20 | 0 => 0 | 46 => 202 | 109 => 274 | 5 => 5 | 72 => 169 | 76 => 195 | 51 => 212 | 146 => 317 | 53 => 33 | 148 => 319 | 70 => 167 | 37 => 65 | 75 => 194 | 127 => 204 | 164 => 291 | 80 => 171 | n => n, fun | n => n⟩
theorem Tryz.lays105 : Go.Proofs.Lays.n105 Tryz.prog Tryz.lays105_ren := {
  mixed := by kernel_rfl
  f99 := Tryz.func118.trans (congrArg some (by kernel_rfl))
  f105 := Tryz.func154.trans (congrArg some (by kernel_rfl))
  f165 := Tryz.func197.trans (congrArg some (by kernel_rfl))
  f166 := Tryz.func127.trans (congrArg some (by kernel_rfl))
  f169 := Tryz.func100.trans (congrArg some (by kernel_rfl))
  f170 := Tryz.func99.trans (congrArg some (by kernel_rfl))
  f206 := Tryz.func157.trans (congrArg some (by kernel_rfl))
  f212 := Tryz.func196.trans (congrArg some (by kernel_rfl))
  f240 := Tryz.func168.trans (congrArg some (by kernel_rfl))
  f241 := Tryz.func253.trans (congrArg some (by kernel_rfl))
  f263 := Tryz.func251.trans (congrArg some (by kernel_rfl))
  f264 := Tryz.func252.trans (congrArg some (by kernel_rfl))
  f276 := Tryz.func213.trans (congrArg some (by kernel_rfl))
  f277 := Tryz.func287.trans (congrArg some (by kernel_rfl))
  t0 := Tryz.underlying0
  a0 := Tryz.isAgg0
  z0 := Tryz.sizeOf0
  v0 := Tryz.zeroValue0
  t3 := Tryz.underlying3
  a3 := Tryz.isAgg3
  z3 := Tryz.sizeOf3
  v3 := Tryz.zeroValue3
  t4 := Tryz.underlying4
  a4 := Tryz.isAgg4
  z4 := Tryz.sizeOf4
  v4 := Tryz.zeroValue4
  t5 := Tryz.underlying5
  a5 := Tryz.isAgg5
  z5 := Tryz.sizeOf5
  v5 := Tryz.zeroValue5
  t9 := Tryz.underlying9
  a9 := Tryz.isAgg9
  z9 := Tryz.sizeOf9
  v9 := Tryz.zeroValue9
  t20 := Tryz.underlying20
  a20 := Tryz.isAgg20
  z20 := Tryz.sizeOf20
  v20 := Tryz.zeroValue20
  t37 := Tryz.underlying65
  a37 := Tryz.isAgg65
  z37 := Tryz.sizeOf65
  v37 := Tryz.zeroValue65
  t46 := Tryz.underlying202
  a46 := Tryz.isAgg202
  z46 := Tryz.sizeOf202
  v46 := Tryz.zeroValue202
  t51 := Tryz.underlying212
  a51 := Tryz.isAgg212
  z51 := Tryz.sizeOf212
  v51 := Tryz.zeroValue212
  t53 := Tryz.underlying33
  a53 := Tryz.isAgg33
  z53 := Tryz.sizeOf33
  v53 := Tryz.zeroValue33
  t70 := Tryz.underlying167
  a70 := Tryz.isAgg167
  z70 := Tryz.sizeOf167
  v70 := Tryz.zeroValue167
  t72 := Tryz.underlying169
  a72 := Tryz.isAgg169
  z72 := Tryz.sizeOf169
  v72 := Tryz.zeroValue169
  t75 := Tryz.underlying194
  a75 := Tryz.isAgg194
  z75 := Tryz.sizeOf194
  v75 := Tryz.zeroValue194
  t76 := Tryz.underlying195
  a76 := Tryz.isAgg195
  z76 := Tryz.sizeOf195
  v76 := Tryz.zeroValue195
  t109 := Tryz.underlying274
  a109 := Tryz.isAgg274
  z109 := Tryz.sizeOf274
  v109 := Tryz.zeroValue274
  t127 := Tryz.underlying204
  a127 := Tryz.isAgg204
  z127 := Tryz.sizeOf204
  v127 := Tryz.zeroValue204
  t146 := Tryz.underlying317
  a146 := Tryz.isAgg317
  z146 := Tryz.sizeOf317
  v146 := Tryz.zeroValue317
  t148 := Tryz.underlying319
  a148 := Tryz.isAgg319
  z148 := Tryz.sizeOf319
  v148 := Tryz.zeroValue319
  t164 := Tryz.underlying291
  a164 := Tryz.isAgg291
  z164 := Tryz.sizeOf291
  v164 := Tryz.zeroValue291 }
theorem Tryz.Builder_Extra_105 : Builder.Extra Tryz.prog Tryz.lays105_ren := {
  sizeBuilder := by kernel_rfl
  liesBuilder := by kernel_rfl
  t5 := Tryz.underlying5
  a5 := Tryz.isAgg5
  z5 := Tryz.sizeOf5
  v5 := Tryz.zeroValue5
  infoByte := by kernel_rfl
  cellsByte := by kernel_rfl
  sizeByte := by kernel_rfl
  neB5 := by decide }
theorem Tryz.strings_Repeat (s : ByteArray) (c : Nat) (w : World) (hc : c ≤ 9223372036854775807) (hlen : s.size * c ≤ 140737488355328) :
    Calls Tryz.prog 154 #[.string s, .int .i64 c] w fun e w' => e = .returned (.string ⟨(Lib.repeatL s.data.toList c).toArray⟩) ∧ Below w.heap.size w w' := Any.strings_Repeat Tryz.lays105 Tryz.Builder_Extra_105 s c w hc hlen
end Go.Proofs
namespace Go.Proofs
open Go.Shelf Go.RowKit Go.Lib
def Tryz.lays170_ren : Go.Shelf.Ren := ⟨fun | 170 => 99 | n => n, fun | 70 => 167 | 3 => 3 | 0 => 0 | 72 => 169 | 37 => 65 | 5 => 5 | n => n, fun | n => n⟩
theorem Tryz.lays170 : Go.Proofs.Lays.n170 Tryz.prog Tryz.lays170_ren := {
  mixed := by kernel_rfl
  f170 := Tryz.func99.trans (congrArg some (by kernel_rfl))
  t0 := Tryz.underlying0
  a0 := Tryz.isAgg0
  z0 := Tryz.sizeOf0
  v0 := Tryz.zeroValue0
  t3 := Tryz.underlying3
  a3 := Tryz.isAgg3
  z3 := Tryz.sizeOf3
  v3 := Tryz.zeroValue3
  t37 := Tryz.underlying65
  a37 := Tryz.isAgg65
  z37 := Tryz.sizeOf65
  v37 := Tryz.zeroValue65
  t70 := Tryz.underlying167
  a70 := Tryz.isAgg167
  z70 := Tryz.sizeOf167
  v70 := Tryz.zeroValue167
  t72 := Tryz.underlying169
  a72 := Tryz.isAgg169
  z72 := Tryz.sizeOf169
  v72 := Tryz.zeroValue169 }
theorem Tryz.Builder_Len (B b : Nat) (bs : List Value) (w : World) (h : Lib.IsBuilder 169 5 B b bs w) :
    Calls Tryz.prog 99 #[.pointer (some ⟨b, 0, none⟩)] w fun e w' => e = .returned (.int .i64 bs.length) ∧ w' = w := Any.Builder_Len Tryz.lays170 B b bs w h
def Tryz.lays169_ren : Go.Shelf.Ren := ⟨fun | 169 => 100 | n => n, fun | 70 => 167 | 9 => 9 | 0 => 0 | 72 => 169 | 37 => 65 | 127 => 204 | 3 => 3 | 5 => 5 | n => n, fun | n => n⟩
theorem Tryz.lays169 : Go.Proofs.Lays.n169 Tryz.prog Tryz.lays169_ren := {
  mixed := by kernel_rfl
  f169 := Tryz.func100.trans (congrArg some (by kernel_rfl))
  t0 := Tryz.underlying0
  a0 := Tryz.isAgg0
  z0 := Tryz.sizeOf0
  v0 := Tryz.zeroValue0
  t3 := Tryz.underlying3
  a3 := Tryz.isAgg3
  z3 := Tryz.sizeOf3
  v3 := Tryz.zeroValue3
  t9 := Tryz.underlying9
  a9 := Tryz.isAgg9
  z9 := Tryz.sizeOf9
  v9 := Tryz.zeroValue9
  t37 := Tryz.underlying65
  a37 := Tryz.isAgg65
  z37 := Tryz.sizeOf65
  v37 := Tryz.zeroValue65
  t70 := Tryz.underlying167
  a70 := Tryz.isAgg167
  z70 := Tryz.sizeOf167
  v70 := Tryz.zeroValue167
  t72 := Tryz.underlying169
  a72 := Tryz.isAgg169
  z72 := Tryz.sizeOf169
  v72 := Tryz.zeroValue169
  t127 := Tryz.underlying204
  a127 := Tryz.isAgg204
  z127 := Tryz.sizeOf204
  v127 := Tryz.zeroValue204 }
theorem Tryz.Builder_Extra_169 : Builder.Extra Tryz.prog Tryz.lays169_ren := {
  sizeBuilder := by kernel_rfl
  liesBuilder := by kernel_rfl
  t5 := Tryz.underlying5
  a5 := Tryz.isAgg5
  z5 := Tryz.sizeOf5
  v5 := Tryz.zeroValue5
  infoByte := by kernel_rfl
  cellsByte := by kernel_rfl
  sizeByte := by kernel_rfl
  neB5 := by decide }
theorem Tryz.Builder_String_any (B b : Nat) (l : List UInt8) (w : World) (h : Lib.IsBuilder 169 5 B b (Lib.byteCells l) w) (hBw : B ≤ w.heap.size) :
    Calls Tryz.prog 100 #[.pointer (some ⟨b, 0, none⟩)] w fun e w' => e = .returned (.string ⟨l.toArray⟩) ∧ Below B w w' := Any.Builder_String_any Tryz.lays169 Tryz.Builder_Extra_169 B b l w h hBw
def Tryz.lays137_ren : Go.Shelf.Ren := ⟨fun | 137 => 285 | 217 => 300 | 266 => 301 | n => n, fun | 9 => 9 | 5 => 5 | 3 => 3 | n => n, fun | n => n⟩
theorem Tryz.lays137 : Go.Proofs.Lays.n137 Tryz.prog Tryz.lays137_ren := {
  mixed := by kernel_rfl
  f137 := Tryz.func285.trans (congrArg some (by kernel_rfl))
  f217 := Tryz.func300.trans (congrArg some (by kernel_rfl))
  f266 := Tryz.func301.trans (congrArg some (by kernel_rfl))
  t3 := Tryz.underlying3
  a3 := Tryz.isAgg3
  z3 := Tryz.sizeOf3
  v3 := Tryz.zeroValue3
  t5 := Tryz.underlying5
  a5 := Tryz.isAgg5
  z5 := Tryz.sizeOf5
  v5 := Tryz.zeroValue5
  t9 := Tryz.underlying9
  a9 := Tryz.isAgg9
  z9 := Tryz.sizeOf9
  v9 := Tryz.zeroValue9 }
theorem Tryz.strings_IndexByte (s : ByteArray) (c : Int) (w : World) :
    Calls Tryz.prog 285 #[.string s, .int .u8 c] w fun e w' => e = .returned (.int .i64 (Lib.indexByte s.data.toList c.toNat.toUInt8)) ∧ w' = w := Any.strings_IndexByte Tryz.lays137 s c w
def Tryz.lays104_ren : Go.Shelf.Ren := ⟨fun | 104 => 250 | 211 => 286 | 207 => 166 | n => n, fun | 9 => 9 | 4 => 4 | 24 => 187 | 3 => 3 | n => n, fun | n => n⟩
theorem Tryz.lays104 : Go.Proofs.Lays.n104 Tryz.prog Tryz.lays104_ren := {
  mixed := by kernel_rfl
  f104 := Tryz.func250.trans (congrArg some (by kernel_rfl))
  f207 := Tryz.func166.trans (congrArg some (by kernel_rfl))
  f211 := Tryz.func286.trans (congrArg some (by kernel_rfl))
  t3 := Tryz.underlying3
  a3 := Tryz.isAgg3
  z3 := Tryz.sizeOf3
  v3 := Tryz.zeroValue3
  t4 := Tryz.underlying4
  a4 := Tryz.isAgg4
  z4 := Tryz.sizeOf4
  v4 := Tryz.zeroValue4
  t9 := Tryz.underlying9
  a9 := Tryz.isAgg9
  z9 := Tryz.sizeOf9
  v9 := Tryz.zeroValue9
  t24 := Tryz.underlying187
  a24 := Tryz.isAgg187
  z24 := Tryz.sizeOf187
  v24 := Tryz.zeroValue187 }
theorem Tryz.strings_CutSuffix (s p : ByteArray) (w : World) (hs : s.size ≤ 9223372036854775807) :
    Calls Tryz.prog 250 #[.string s, .string p] w fun e w' => e = .returned (.tuple #[.string ⟨(Lib.trimSuffix s.data.toList p.data.toList).toArray⟩, .bool (Lib.hasSuffix s.data.toList p.data.toList)]) ∧ w' = w := Any.strings_CutSuffix Tryz.lays104 s p w hs
def Tryz.lays121_ren : Go.Shelf.Ren := ⟨fun | 121 => 112 | 214 => 153 | n => n, fun | 4 => 4 | 9 => 9 | n => n, fun | n => n⟩
theorem Tryz.lays121 : Go.Proofs.Lays.n121 Tryz.prog Tryz.lays121_ren := {
  mixed := by kernel_rfl
  f121 := Tryz.func112.trans (congrArg some (by kernel_rfl))
  f214 := Tryz.func153.trans (congrArg some (by kernel_rfl))
  t4 := Tryz.underlying4
  a4 := Tryz.isAgg4
  z4 := Tryz.sizeOf4
  v4 := Tryz.zeroValue4
  t9 := Tryz.underlying9
  a9 := Tryz.isAgg9
  z9 := Tryz.sizeOf9
  v9 := Tryz.zeroValue9 }
theorem Tryz.strconv_FormatBool (b : Bool) (w : World) :
    Calls Tryz.prog 112 #[.bool b] w fun e w' => e = .returned (.string ⟨(Lib.formatBool b).toArray⟩) ∧ w' = w := Any.strconv_FormatBool Tryz.lays121 b w
theorem Tryz.Builder_Len_f (B b : Nat) (bs : List Value) (w : World) (h : Lib.IsBuilderF 169 5 B b bs w) :
    Calls Tryz.prog 99 #[.pointer (some ⟨b, 0, none⟩)] w fun e w' => e = .returned (.int .i64 bs.length) ∧ w' = w := Any.Builder_Len_f Tryz.lays170 B b bs w h
theorem Tryz.Builder_String_any_f (B b : Nat) (l : List UInt8) (w : World) (h : Lib.IsBuilderF 169 5 B b (Lib.byteCells l) w) (hBw : B ≤ w.heap.size) :
    Calls Tryz.prog 100 #[.pointer (some ⟨b, 0, none⟩)] w fun e w' => e = .returned (.string ⟨l.toArray⟩) ∧ (Lib.IsBuilderF 169 5 B b (Lib.byteCells l) w' ∧ Below B w w') := Any.Builder_String_any_f Tryz.lays169 Tryz.Builder_Extra_169 B b l w h hBw
def Tryz.lays193_ren : Go.Shelf.Ren := ⟨fun | 193 => 150 | n => n, fun | 31 => 28 | 9 => 9 | 4 => 4 | 3 => 3 | 0 => 0 | n => n, fun | n => n⟩
theorem Tryz.lays193 : Go.Proofs.Lays.n193 Tryz.prog Tryz.lays193_ren := {
  mixed := by kernel_rfl
  f193 := Tryz.func150.trans (congrArg some (by kernel_rfl))
  t0 := Tryz.underlying0
  a0 := Tryz.isAgg0
  z0 := Tryz.sizeOf0
  v0 := Tryz.zeroValue0
  t3 := Tryz.underlying3
  a3 := Tryz.isAgg3
  z3 := Tryz.sizeOf3
  v3 := Tryz.zeroValue3
  t4 := Tryz.underlying4
  a4 := Tryz.isAgg4
  z4 := Tryz.sizeOf4
  v4 := Tryz.zeroValue4
  t9 := Tryz.underlying9
  a9 := Tryz.isAgg9
  z9 := Tryz.sizeOf9
  v9 := Tryz.zeroValue9
  t31 := Tryz.underlying28
  a31 := Tryz.isAgg28
  z31 := Tryz.sizeOf28
  v31 := Tryz.zeroValue28 }
theorem Tryz.slices_Equal_string (b1 o1 n c b2 o2 m d : Nat) (xs ys : List ByteArray) (w : World) (hx : n ≤ xs.length) (hy : m ≤ ys.length) (hbig : n ≤ 9223372036854775807) (hbig2 : m ≤ 9223372036854775807) (hc1 : ∀ j, j < xs.length → w.cell? ⟨b1, o1 + j, none⟩ = some (.string (xs.getD j ByteArray.empty))) (hc2 : ∀ j, j < ys.length → w.cell? ⟨b2, o2 + j, none⟩ = some (.string (ys.getD j ByteArray.empty))) :
    Calls Tryz.prog 150 #[.slice (some ⟨b1, o1, none⟩) n c, .slice (some ⟨b2, o2, none⟩) m d] w fun e w' => e = .returned (.bool (decide (xs.take n = ys.take m))) ∧ ∃ q, w' = w.drewN q := Any.slices_Equal_string Tryz.lays193 b1 o1 n c b2 o2 m d xs ys w hx hy hbig hbig2 hc1 hc2
theorem Tryz.slices_Equal_string_empty (a1 a2 : Option Addr) (c m d : Nat) (w : World) (hbig2 : m ≤ 9223372036854775807) :
    Calls Tryz.prog 150 #[.slice a1 0 c, .slice a2 m d] w fun e w' => e = .returned (.bool (decide (m = 0))) ∧ w' = w := Any.slices_Equal_string_empty Tryz.lays193 a1 a2 c m d w hbig2
def Tryz.laysNm216_ren : Go.Shelf.Ren := ⟨fun | 16 => 25 | n => n, fun | 24 => 28 | 9 => 9 | 4 => 4 | n => n, fun | n => n⟩
theorem Tryz.laysNm216 : Go.Proofs.Lays2.n16 Tryz.prog Tryz.laysNm216_ren := {
  mixed := by kernel_rfl
  f16 := Tryz.func25.trans (congrArg some (by kernel_rfl))
  t4 := Tryz.underlying4
  a4 := Tryz.isAgg4
  z4 := Tryz.sizeOf4
  v4 := Tryz.zeroValue4
  t9 := Tryz.underlying9
  a9 := Tryz.isAgg9
  z9 := Tryz.sizeOf9
  v9 := Tryz.zeroValue9
  t24 := Tryz.underlying28
  a24 := Tryz.isAgg28
  z24 := Tryz.sizeOf28
  v24 := Tryz.zeroValue28
  i9 := by kernel_rfl }
theorem Tryz.slices_Clone_string (b off n c : Nat) (zs : List ByteArray) (w : World) (hz : n ≤ zs.length) (hbig : n * 16 ≤ 140737488355328) (hc : ∀ j, j < zs.length → w.cell? ⟨b, off + j, none⟩ = some (.string (zs.getD j ByteArray.empty))) :
    Calls Tryz.prog 25 #[.slice (some ⟨b, off, none⟩) n c] w fun e w' => ∃ v', e = .returned v' ∧ w'.ownsRow w.heap.size 9 1 v' n ((zs.take n).map (Value.string)) ∧ v' ≠ .slice none 0 0 ∧ Below w.heap.size w w' := Any.slices_Clone_string Tryz.laysNm216 b off n c zs w hz hbig hc
theorem Tryz.slices_Clone_string_nil (n c : Nat) (w : World) :
    Calls Tryz.prog 25 #[.slice none n c] w fun e w' => e = .returned (.slice none 0 0) ∧ w' = w := Any.slices_Clone_string_nil Tryz.laysNm216 n c w
theorem Tryz.slices_Clone_string_zero (a : Addr) (c : Nat) (w : World) :
    Calls Tryz.prog 25 #[.slice (some a) 0 c] w fun e w' => ∃ v', e = .returned v' ∧ w'.ownsRow w.heap.size 9 1 v' 0 [] ∧ v' ≠ .slice none 0 0 ∧ Below w.heap.size w w' := Any.slices_Clone_string_zero Tryz.laysNm216 a c w
def Tryz.laysSlE041_f25_ren : Go.Shelf.Ren := ⟨fun | 41 => 25 | n => n, fun | 22 => 28 | 23 => 9 | 4 => 4 | n => n, fun | n => n⟩
theorem Tryz.laysSlE041_f25 : Go.Proofs.SlLaysE0.n41 Tryz.prog Tryz.laysSlE041_f25_ren := {
  mixed := by kernel_rfl
  f41 := ⟨Tryz.f25.name, by decide, Tryz.func25.trans (congrArg some (by kernel_rfl))⟩
  t4 := Tryz.underlying4
  a4 := Tryz.isAgg4
  z4 := Tryz.sizeOf4
  v4 := Tryz.zeroValue4
  t22 := Tryz.underlying28
  a22 := Tryz.isAgg28
  z22 := Tryz.sizeOf28
  v22 := Tryz.zeroValue28 }
theorem Tryz.slices_Clone (i0 : TypeInfo) (z : Value) (size bytes : Nat) (hi : Tryz.prog.info? 9 = some i0) (hz0 : i0.zero = some z) (hz1 : i0.size = size) (hz2 : i0.bytes = bytes) (hzs : z.cells.size = size) (hsz : 0 < size) (z23 : ∀ w, (Go.sizeOf 9).run Tryz.prog w = .ok size w) (b off n c : Nat) (news : List Value) (w : World) (hl : news.length = n * size) (hn : n ≤ maxLen) (hbig : n * bytes ≤ 140737488355328) (hc : ∀ j u, news[j]? = some u → w.cell? ⟨b, off + j, none⟩ = some u) (h1 : ∀ u ∈ news, u.oneCell' = true) :
    Calls Tryz.prog 25 #[.slice (some ⟨b, off, none⟩) n c] w fun e w' => ∃ v', e = .returned v' ∧ w'.ownsRow w.heap.size 9 size v' n news ∧ v' ≠ .slice none 0 0 ∧ Below w.heap.size w w' := AnyE.slices_Clone Tryz.laysSlE041_f25 i0 z size bytes hi hz0 hz1 hz2 hzs hsz z23 b off n c news w hl hn hbig hc h1
theorem Tryz.slices_Clone_nil (n c : Nat) (w : World) :
    Calls Tryz.prog 25 #[.slice none n c] w fun e w' => e = .returned (.slice none 0 0) ∧ w' = w := AnyE.slices_Clone_nil Tryz.laysSlE041_f25 n c w
def Tryz.laysValid_ren : Go.Shelf.Ren := ⟨fun | 196 => 124 | 259 => 167 | n => n, fun | 9 => 9 | 4 => 4 | 3 => 3 | 5 => 5 | 12 => 12 | 119 => 233 | 0 => 0 | 46 => 202 | 139 => 236 | 138 => 235 | 53 => 33 | n => n, fun | 3 => 0 | 4 => 1 | n => n⟩
theorem Tryz.laysValid : Go.Proofs.Lays.n196 Tryz.prog Tryz.laysValid_ren := {
  mixed := by kernel_rfl
  f196 := Tryz.func124.trans (congrArg some (by kernel_rfl))
  f259 := Tryz.func167.trans (congrArg some (by kernel_rfl))
  t0 := Tryz.underlying0
  a0 := Tryz.isAgg0
  z0 := Tryz.sizeOf0
  v0 := Tryz.zeroValue0
  t3 := Tryz.underlying3
  a3 := Tryz.isAgg3
  z3 := Tryz.sizeOf3
  v3 := Tryz.zeroValue3
  t4 := Tryz.underlying4
  a4 := Tryz.isAgg4
  z4 := Tryz.sizeOf4
  v4 := Tryz.zeroValue4
  t5 := Tryz.underlying5
  a5 := Tryz.isAgg5
  z5 := Tryz.sizeOf5
  v5 := Tryz.zeroValue5
  t9 := Tryz.underlying9
  a9 := Tryz.isAgg9
  z9 := Tryz.sizeOf9
  v9 := Tryz.zeroValue9
  t12 := Tryz.underlying12
  a12 := Tryz.isAgg12
  z12 := Tryz.sizeOf12
  v12 := Tryz.zeroValue12
  t46 := Tryz.underlying202
  a46 := Tryz.isAgg202
  z46 := Tryz.sizeOf202
  v46 := Tryz.zeroValue202
  t53 := Tryz.underlying33
  a53 := Tryz.isAgg33
  z53 := Tryz.sizeOf33
  v53 := Tryz.zeroValue33
  t119 := Tryz.underlying233
  a119 := Tryz.isAgg233
  z119 := Tryz.sizeOf233
  t138 := Tryz.underlying235
  a138 := Tryz.isAgg235
  z138 := Tryz.sizeOf235
  v138 := Tryz.zeroValue235
  t139 := Tryz.underlying236
  a139 := Tryz.isAgg236
  z139 := Tryz.sizeOf236
  v139 := Tryz.zeroValue236
  g3 := by kernel_rfl
  g4 := by kernel_rfl }
theorem Tryz.utf8_ValidString (s : ByteArray) (w : World) (hs : s.size ≤ 9223372036854775807) (hT : Lib.Utf8Tabs 0 1 w) :
    Calls Tryz.prog 124 #[.string s] w fun e w' => e = .returned (.bool (Lib.validD s.data.toList)) ∧ Below w.heap.size w w' := Any.utf8_ValidString Tryz.laysValid s w hs hT
def Tryz.laysB_ren : Go.Shelf.Ren := ⟨fun | 167 => 131 | 105 => 154 | 212 => 196 | 99 => 118 | 165 => 197 | 166 => 127 | 170 => 99 | 169 => 100 | 263 => 251 | 264 => 252 | 206 => 157 | 240 => 168 | 241 => 253 | 276 => 213 | 277 => 287 | n => n, fun | 9 => 9 | 3 => 3 | 4 => 4 | 20 => 20 | 0 => 0 | 46 => 202 | 109 => 274 | 5 => 5 | 72 => 169 | 76 => 195 | 51 => 212 | 146 => 317 | 53 => 33 | 148 => 319 | 70 => 167 | 37 => 65 | 75 => 194 | 127 => 204 | 164 => 291 | 80 => 171 | n => n, fun | n => n⟩
theorem Tryz.laysB240 : Go.Proofs.Lays.n240 Tryz.prog Tryz.laysB_ren := {
  mixed := by kernel_rfl
  f240 := Tryz.func168.trans (congrArg some (by kernel_rfl))
  f276 := Tryz.func213.trans (congrArg some (by kernel_rfl))
  t0 := Tryz.underlying0
  a0 := Tryz.isAgg0
  z0 := Tryz.sizeOf0
  v0 := Tryz.zeroValue0
  t4 := Tryz.underlying4
  a4 := Tryz.isAgg4
  z4 := Tryz.sizeOf4
  v4 := Tryz.zeroValue4
  t9 := Tryz.underlying9
  a9 := Tryz.isAgg9
  z9 := Tryz.sizeOf9
  v9 := Tryz.zeroValue9
  t20 := Tryz.underlying20
  a20 := Tryz.isAgg20
  z20 := Tryz.sizeOf20
  v20 := Tryz.zeroValue20
  t70 := Tryz.underlying167
  a70 := Tryz.isAgg167
  z70 := Tryz.sizeOf167
  v70 := Tryz.zeroValue167
  t72 := Tryz.underlying169
  a72 := Tryz.isAgg169
  z72 := Tryz.sizeOf169
  v72 := Tryz.zeroValue169
  t164 := Tryz.underlying291
  a164 := Tryz.isAgg291
  z164 := Tryz.sizeOf291
  v164 := Tryz.zeroValue291  }
theorem Tryz.laysB166 : Go.Proofs.Lays.n166 Tryz.prog Tryz.laysB_ren := {
  mixed := by kernel_rfl
  f166 := Tryz.func127.trans (congrArg some (by kernel_rfl))
  f240 := Tryz.func168.trans (congrArg some (by kernel_rfl))
  f276 := Tryz.func213.trans (congrArg some (by kernel_rfl))
  t0 := Tryz.underlying0
  a0 := Tryz.isAgg0
  z0 := Tryz.sizeOf0
  v0 := Tryz.zeroValue0
  t3 := Tryz.underlying3
  a3 := Tryz.isAgg3
  z3 := Tryz.sizeOf3
  v3 := Tryz.zeroValue3
  t4 := Tryz.underlying4
  a4 := Tryz.isAgg4
  z4 := Tryz.sizeOf4
  v4 := Tryz.zeroValue4
  t9 := Tryz.underlying9
  a9 := Tryz.isAgg9
  z9 := Tryz.sizeOf9
  v9 := Tryz.zeroValue9
  t20 := Tryz.underlying20
  a20 := Tryz.isAgg20
  z20 := Tryz.sizeOf20
  v20 := Tryz.zeroValue20
  t37 := Tryz.underlying65
  a37 := Tryz.isAgg65
  z37 := Tryz.sizeOf65
  v37 := Tryz.zeroValue65
  t70 := Tryz.underlying167
  a70 := Tryz.isAgg167
  z70 := Tryz.sizeOf167
  v70 := Tryz.zeroValue167
  t72 := Tryz.underlying169
  a72 := Tryz.isAgg169
  z72 := Tryz.sizeOf169
  v72 := Tryz.zeroValue169
  t75 := Tryz.underlying194
  a75 := Tryz.isAgg194
  z75 := Tryz.sizeOf194
  v75 := Tryz.zeroValue194
  t164 := Tryz.underlying291
  a164 := Tryz.isAgg291
  z164 := Tryz.sizeOf291
  v164 := Tryz.zeroValue291  }
theorem Tryz.laysB167 : Go.Proofs.Lays.n167 Tryz.prog Tryz.laysB_ren := {
  mixed := by kernel_rfl
  f167 := Tryz.func131.trans (congrArg some (by kernel_rfl))
  f240 := Tryz.func168.trans (congrArg some (by kernel_rfl))
  f276 := Tryz.func213.trans (congrArg some (by kernel_rfl))
  t0 := Tryz.underlying0
  a0 := Tryz.isAgg0
  z0 := Tryz.sizeOf0
  v0 := Tryz.zeroValue0
  t4 := Tryz.underlying4
  a4 := Tryz.isAgg4
  z4 := Tryz.sizeOf4
  v4 := Tryz.zeroValue4
  t5 := Tryz.underlying5
  a5 := Tryz.isAgg5
  z5 := Tryz.sizeOf5
  v5 := Tryz.zeroValue5
  t9 := Tryz.underlying9
  a9 := Tryz.isAgg9
  z9 := Tryz.sizeOf9
  v9 := Tryz.zeroValue9
  t20 := Tryz.underlying20
  a20 := Tryz.isAgg20
  z20 := Tryz.sizeOf20
  v20 := Tryz.zeroValue20
  t37 := Tryz.underlying65
  a37 := Tryz.isAgg65
  z37 := Tryz.sizeOf65
  v37 := Tryz.zeroValue65
  t70 := Tryz.underlying167
  a70 := Tryz.isAgg167
  z70 := Tryz.sizeOf167
  v70 := Tryz.zeroValue167
  t72 := Tryz.underlying169
  a72 := Tryz.isAgg169
  z72 := Tryz.sizeOf169
  v72 := Tryz.zeroValue169
  t75 := Tryz.underlying194
  a75 := Tryz.isAgg194
  z75 := Tryz.sizeOf194
  v75 := Tryz.zeroValue194
  t164 := Tryz.underlying291
  a164 := Tryz.isAgg291
  z164 := Tryz.sizeOf291
  v164 := Tryz.zeroValue291  }
theorem Tryz.Builder_Extra_B : Builder.Extra Tryz.prog Tryz.laysB_ren := {
  sizeBuilder := by kernel_rfl
  liesBuilder := by kernel_rfl
  t5 := Tryz.underlying5
  a5 := Tryz.isAgg5
  z5 := Tryz.sizeOf5
  v5 := Tryz.zeroValue5
  infoByte := by kernel_rfl
  cellsByte := by kernel_rfl
  sizeByte := by kernel_rfl
  neB5 := by decide }
theorem Tryz.Builder_X72_B : Builder.X72 Tryz.prog Tryz.laysB_ren := Tryz.Builder_Extra_B.toX72
theorem Tryz.Builder_copyCheck (B b : Nat) (bs : List Value) (w : World) (h : Lib.IsBuilder 169 5 B b bs w) :
    Calls Tryz.prog 168 #[.pointer (some ⟨b, 0, none⟩)] w fun e w' => e = .returned (.tuple #[]) ∧ (Lib.BuilderAt 169 5 B b (.pointer (some ⟨b, 0, none⟩)) bs w' ∧ Below B w w') := Any.Builder_copyCheck Tryz.laysB240 Tryz.Builder_X72_B B b bs w h
theorem Tryz.Builder_WriteByte (B b : Nat) (bs : List Value) (c : Int) (w : World) (h : Lib.IsBuilder 169 5 B b bs w) (hlen : bs.length + 1 ≤ 140737488355328) (hBw : B ≤ w.heap.size) :
    Calls Tryz.prog 131 #[.pointer (some ⟨b, 0, none⟩), .int .u8 c] w fun e w' => e = .returned .nilIface ∧ (Lib.BuilderAt 169 5 B b (.pointer (some ⟨b, 0, none⟩)) (bs ++ [.int .u8 c]) w' ∧ Below B w w') := Any.Builder_WriteByte Tryz.laysB167 Tryz.Builder_Extra_B B b bs c w h hlen hBw
theorem Tryz.Builder_WriteString (B b : Nat) (bs : List Value) (s : ByteArray) (w : World) (h : Lib.IsBuilder 169 5 B b bs w) (hlen : bs.length + s.size ≤ 140737488355328) (hBw : B ≤ w.heap.size) :
    Calls Tryz.prog 127 #[.pointer (some ⟨b, 0, none⟩), .string s] w fun e w' => e = .returned (.tuple #[.int .i64 s.size, .nilIface]) ∧ (Lib.BuilderAt 169 5 B b (.pointer (some ⟨b, 0, none⟩)) (bs ++ Lib.strCells s) w' ∧ Below B w w') := Any.Builder_WriteString Tryz.laysB166 Tryz.Builder_Extra_B B b bs s w h hlen hBw
theorem Tryz.Builder_WriteString_f (B b : Nat) (bs : List Value) (s : ByteArray) (w : World) (h : Lib.IsBuilderF 169 5 B b bs w) (hlen : bs.length + s.size ≤ 140737488355328) (hBw : B ≤ w.heap.size) :
    Calls Tryz.prog 127 #[.pointer (some ⟨b, 0, none⟩), .string s] w fun e w' => e = .returned (.tuple #[.int .i64 s.size, .nilIface]) ∧ (Lib.BuilderAtF 169 5 B b (.pointer (some ⟨b, 0, none⟩)) (bs ++ Lib.strCells s) w' ∧ Below B w w') := Any.Builder_WriteString_f Tryz.laysB166 Tryz.Builder_Extra_B B b bs s w h hlen hBw
end Go.Proofs
namespace Go.Proofs.YtcpgcjmamjjokaaGreatDoor
open Go.RowKit Go.Proofs.YtcpgcjmamjjokaaGreatDoorW.PrintWords Go.Proofs.YtcpgcjmamjjokaaGreatDoorW.PrintMore
set_option linter.unusedVariables false
set_option linter.unusedSimpArgs false
/-- A digit's letter. -/
def dgc (d : Nat) : UInt8 := UInt8.ofNat (48 + d)
theorem dgs_pos' {n : Nat} (h : n ≠ 0) : dgs n = dgs (n / 10) ++ [dgc (n % 10)] := dgs_pos h
theorem dg_len (n : Nat) (h : n < 1000000000000000) : (dg n).length ≤ 15 := by
  unfold dg
  split
  · decide
  · exact dgs_len n 15 h
theorem dig_cut (d : Nat) (h : d < 10) (xs : List UInt8) : ((⟨#[48, 49, 50, 51, 52, 53, 54, 55, 56, 57]⟩ : ByteArray).extract d (d + 1) ++ ⟨xs.toArray⟩ : ByteArray) = ⟨(dgc d :: xs).toArray⟩ := by
  have : ∀ d : Fin 10, (#[48, 49, 50, 51, 52, 53, 54, 55, 56, 57] : Array UInt8).extract d.1 (d.1 + 1) = #[dgc d.1] := by decide
  apply ByteArray.ext
  rw [ByteArray.data_append, ByteArray.data_extract]
  rw [this ⟨d, h⟩]
  simp
/-- A text's length. -/
def slen : Value → Nat | .string s => s.size | _ => 0
set_option maxHeartbeats 800000 in
set_option maxRecDepth 100000 in
theorem digits_any (n : Nat) (hn : n < 1000000000000000) (w : World) :
    Calls Tryz.prog 34 #[.int .i64 (n : Int)] w fun e w' => e = .returned (.string ⟨(dg n).toArray⟩) ∧ Drawn0 w w' := by
  go_enter Tryz.func34, Tryz.ntmps34
  go_wp2_with fail
  go_loop [0, 3] (fun v0 v3 => ∃ (v : Nat) (xs : List UInt8), v0 = .int .i64 v ∧ v3 = .string ⟨xs.toArray⟩ ∧ v < 1000000000000000 ∧ Hid ((xs = [] ∧ v = n) ∨ (xs ≠ [] ∧ dg n = dgs v ++ xs))) (fun v0 v3 => 2 * (intOf v0).toNat + (1 - slen v3))
  case atStart => exact ⟨n, [], rfl, rfl, hn, Lib.hid (.inl ⟨rfl, rfl⟩)⟩
  case round =>
    obtain ⟨v, xs, rfl, rfl, hv, hH⟩ := hrel
    cases xs with
    | nil =>
      have hvn : v = n := by rcases hH.out with h | h; exact h.2; exact absurd rfl h.1
      obtain ⟨d, hd⟩ : ∃ d, v % 10 = d := ⟨_, rfl⟩
      obtain ⟨q, hq⟩ : ∃ q, v / 10 = q := ⟨_, rfl⟩
      have hd16 : d < 10 := by omega
      have hmi : (v : Int) % 10 = (d : Int) := by omega
      have hqi : (v : Int) / 10 = (q : Int) := by omega
      have hcut := dig_cut d hd16 []
      have hql : q < 1000000000000000 := by omega
      have hN : Hid ((dgc d :: ([] : List UInt8) = [] ∧ q = n) ∨ (dgc d :: ([] : List UInt8) ≠ [] ∧ dg n = dgs q ++ [dgc d])) := Lib.hid (.inr ⟨by simp, by
        unfold dg
        by_cases h0 : n = 0
        · rw [if_pos h0]
          subst h0
          rw [show q = 0 by omega, show d = 0 by omega, dgs_zero]; rfl
        · rw [if_neg h0, dgs_pos' h0, ← hq, ← hd, hvn]⟩)
      have hmm : 2 * q + (1 - 1) < 2 * v + (1 - 0) := by omega
      have hs2 : ((⟨#[48, 49, 50, 51, 52, 53, 54, 55, 56, 57]⟩ : ByteArray).extract d (d + 1)).size = 1 := by
        rw [ByteArray.size_extract]
        show min (d + 1) 10 - d = 1
        omega
      replace hd := Lib.hid hd
      replace hq := Lib.hid hq
      replace hvn := Lib.hid hvn
      replace hmm := Lib.hid hmm
      go_wp2_with fail
      go_round
      case rel => exact ⟨q, [dgc d], rfl, by first | rfl | (rw [← hcut]), hql, hN⟩
      case measure =>
        simp only [intOf, slen, Int.toNat_natCast]
        exact hmm.out
    | cons c ys =>
      have hH2 : dg n = dgs v ++ c :: ys := by rcases hH.out with h | h; exact absurd h.1 (by simp); exact h.2
      replace hH2 := Lib.hid hH2
      have hlen : ys.length + 1 ≤ 15 := by
        have h1 := dg_len n hn
        rw [hH2.out, List.length_append, List.length_cons] at h1
        omega
      have hs1 : (⟨(c :: ys).toArray⟩ : ByteArray).size = ys.length + 1 := by
        show (c :: ys).toArray.size = _
        simp
      by_cases c0 : v = 0
      · subst c0
        have hx : (⟨(c :: ys).toArray⟩ : ByteArray) = ⟨(dg n).toArray⟩ := by rw [hH2.out, dgs_zero]; rfl
        replace hx := Lib.hid hx
        go_wp2_with fail
        go_ret
        exact ⟨by rw [← hx.out]; rfl, 0, rfl⟩
      · obtain ⟨d, hd⟩ : ∃ d, v % 10 = d := ⟨_, rfl⟩
        obtain ⟨q, hq⟩ : ∃ q, v / 10 = q := ⟨_, rfl⟩
        have hd16 : d < 10 := by omega
        have hmi : (v : Int) % 10 = (d : Int) := by omega
        have hqi : (v : Int) / 10 = (q : Int) := by omega
        have hcut := dig_cut d hd16 (c :: ys)
        have hql : q < 1000000000000000 := by omega
        have hpos : (0 : Int) < (v : Int) := by omega
        have hN : Hid ((dgc d :: c :: ys = [] ∧ q = n) ∨ (dgc d :: c :: ys ≠ [] ∧ dg n = dgs q ++ dgc d :: c :: ys)) := Lib.hid (.inr ⟨by simp, by
          rw [hH2.out, dgs_pos' c0, ← hq, ← hd]; simp⟩)
        have hmm : 2 * q + (1 - (ys.length + 1 + 1)) < 2 * v + (1 - (ys.length + 1)) := by omega
        have hs2 : ((⟨#[48, 49, 50, 51, 52, 53, 54, 55, 56, 57]⟩ : ByteArray).extract d (d + 1)).size = 1 := by
          rw [ByteArray.size_extract]
          show min (d + 1) 10 - d = 1
          omega
        replace hd := Lib.hid hd
        replace hq := Lib.hid hq
        replace hmm := Lib.hid hmm
        go_wp2_with fail
        go_round
        case rel => exact ⟨q, dgc d :: c :: ys, rfl, by first | rfl | (rw [← hcut]), hql, hN⟩
        case measure =>
          simp only [intOf, slen, Int.toNat_natCast]
          exact hmm.out
theorem kp_set' {w w1 : World} {S : Nat → Prop} (h : Kp w w1 S) (g j : Nat) (hp : S g ∨ w.heap.size ≤ g) (u : Value) : Kp w (w1.setCell ⟨g, j, none⟩ u) S := h.set_ (p := ⟨g, j, none⟩) hp u
/-- The number t as a struct. -/
def numV (t : Int) : Value := .agg #[.bool (NB t), .string ⟨(ND t).toArray⟩, .int .i64 (NE t : Nat)]
theorem whole_end {w w1 W : World} {G md : Nat} {b : Bool} {D : ByteArray} {k : Int} (hb1 : W.heap[G]? = some (.cells #[.bool false, .string ⟨#[]⟩, .int .i64 0] 32 (0, 0))) (B1 : Below w.heap.size w w1) (K : Kp w1 W (fun k => k = G + 1)) (hG : w.heap.size = G) :
    (((((W.drewN md).setCell ⟨G + 1, 1, none⟩ (.string D)).setCell ⟨G, 0, none⟩ (.bool b)).setCell ⟨G, 1, none⟩ (.string D)).setCell ⟨G, 2, none⟩ (.int .i64 k)).heap[G]? = some (.cells #[.bool b, .string D, .int .i64 k] 32 (0, 0)) ∧ Below w.heap.size w (((((W.drewN md).setCell ⟨G + 1, 1, none⟩ (.string D)).setCell ⟨G, 0, none⟩ (.bool b)).setCell ⟨G, 1, none⟩ (.string D)).setCell ⟨G, 2, none⟩ (.int .i64 k)) := by
  refine ⟨blk_put (blk_put (cs' := #[.bool b, .string D, .int .i64 0]) (blk_put (cs' := #[.bool b, .string ⟨#[]⟩, .int .i64 0]) (blk_far (blk_drewN hb1 md) (p := ⟨G + 1, 1, none⟩) (by simp) _) 0 _ rfl) 1 _ rfl) 2 _ rfl, ?_⟩
  have hB : Below w.heap.size w W := K.toBelow B1 B1.size (fun k hk => by omega)
  exact below_set (below_set (below_set (below_set (pw_below_drewN hB md) (by omega)) (by omega)) (by omega)) (by omega)
set_option maxHeartbeats 1600000 in
set_option maxRecDepth 100000 in
theorem whole_any (m : Nat) (hm : m < 1000000000000000) (t : Int) (ht : t = (m : Int) ∨ (t = -(m : Int) ∧ 0 < m)) (w : World) :
    Calls Tryz.prog 9 #[.int .i64 t] w fun e w' => e = .returned (numV t) ∧ Below w.heap.size w w' := by
  have hD : ∃ v k, v < 1000000000000000 ∧ cz m = (v, k) ∧ ND t = dg v ∧ NE t = k := ⟨(cz m).1, (cz m).2, Nat.lt_of_le_of_lt (cz_mul m).2.2.2 hm, rfl, by unfold ND; rw [show t.natAbs = m by omega], by unfold NE; rw [show t.natAbs = m by omega]⟩
  obtain ⟨v, k, hv, hcz, hND, hNE⟩ := hD
  unfold numV
  rw [hND, hNE]
  clear hND hNE
  obtain ⟨b, hb⟩ : ∃ b, NB t = b := ⟨_, rfl⟩
  rw [hb]
  unfold NB at hb
  replace hcz := Lib.hid hcz
  have hdg := fun w => digits_any v hv w
  replace hdg := Lib.hid hdg
  rcases ht with rfl | ⟨rfl, hm0⟩
  · have hb2 : decide ((m : Int) < 0) = b := hb
    have hbf : b = false := by rw [← hb]; exact decide_eq_false (by omega)
    subst hbf
    replace hb := Lib.hid hb
    go_enter Tryz.func9, Tryz.ntmps9
    obtain ⟨G, hG⟩ : ∃ G, w.heap.size = G := ⟨_, rfl⟩
    go_wp2_with fail
    generalize hw1 : World.alloc _ _ = w1
    obtain ⟨b1, b2, B1⟩ : w1.heap[G]? = some (.cells #[.bool false, .string ⟨#[]⟩, .int .i64 0] 32 (0, 0)) ∧ w1.heap[G + 1]? = some (.cells #[.bool false, .string ⟨#[]⟩, .int .i64 0] 32 (0, 0)) ∧ Below w.heap.size w w1 := by
      subst hw1 hG
      exact ⟨blk_alloc (heap_alloc_new _ _) _, alloc2 _ _ _, below_alloc (below_alloc (Below.refl _ _) _) _⟩
    clear hw1
    replace hG := Lib.hid hG
    replace b1 := Lib.hid b1
    replace b2 := Lib.hid b2
    replace B1 := Lib.hid B1
    go_loopw [0] (fun v0 w' => ∃ (u j : Nat) (W : World), v0 = .int .i64 (u : Int) ∧ W = w' ∧ u ≤ m ∧ Hid (j < 100) ∧ Hid (cz m = ((cz u).1, (cz u).2 + j)) ∧ Hid (u ≠ 0 → u * 10 ^ j = m) ∧ Hid (W.heap[G + 1]? = some (.cells #[.bool false, .string ⟨#[]⟩, .int .i64 (j : Int)] 32 (0, 0))) ∧ Hid (Kp w1 W (fun k => k = G + 1))) (fun v0 _ => (intOf v0).toNat)
    case atStart => exact ⟨m, 0, _, rfl, rfl, by omega, Lib.hid (by decide), Lib.hid rfl, Lib.hid (fun _ => by simp), b2, Lib.hid (Kp.refl _ _)⟩
    case round =>
      obtain ⟨u, j, W, rfl, rfl, hu, hj, hcu, hmul, hb2, hK⟩ := hrel
      obtain ⟨c0, c1, c2, f0, f1, f2⟩ := blk3 hb2.out
      have hlG := blk_lt hb2.out
      have hb1 := hK.out.heap b1.out (by omega)
      obtain ⟨d0, d1, d2, g0, g1, g2⟩ := blk3 hb1
      have hlG1 := blk_lt hb1
      replace hb1 := Lib.hid hb1
      by_cases c : u ≠ 0 ∧ u % 10 = 0
      · obtain ⟨c, cc⟩ := c
        have hpos : (0 : Int) < (u : Int) := by omega
        have hrem : (u : Int) % 10 = 0 := by omega
        obtain ⟨q, hq⟩ : ∃ q, u / 10 = q := ⟨_, rfl⟩
        have hqi : (u : Int) / 10 = (q : Int) := by omega
        have hqu : q ≤ m := by omega
        have hq0 : q ≠ 0 := by omega
        have hmq := hmul.out (by omega)
        have huq : u = q * 10 := by omega
        have hmul2 : Hid (q ≠ 0 → q * 10 ^ (j + 1) = m) := Lib.hid (fun _ => by rw [Nat.pow_succ, Nat.mul_comm _ 10, ← Nat.mul_assoc, ← huq]; exact hmq)
        have hj100 := hj.out
        have hj2 : Hid (j + 1 < 100) := Lib.hid (by
          have h1 : 10 ^ (j + 1) ≤ m := by rw [← hmul2.out hq0]; exact Nat.le_mul_of_pos_left _ (by omega)
          have h2 : 10 ^ (j + 1) < 10 ^ 15 := Nat.lt_of_le_of_lt h1 (by rw [show (10 : Nat) ^ 15 = 1000000000000000 by decide]; exact hm)
          have h3 := (Nat.pow_lt_pow_iff_right (by decide : 1 < 10)).1 h2
          omega)
        have hcu2 : Hid (cz m = ((cz q).1, (cz q).2 + (j + 1))) := Lib.hid (by
          rw [hcu.out, cz_step c cc, hq]
          show ((cz q).1, (cz q).2 + 1 + j) = _
          rw [Nat.add_assoc, Nat.add_comm 1 j])
        have hmeas : q < u := by omega
        have hjI : ((j : Int) + 1) = ((j + 1 : Nat) : Int) := by omega
        have K2 : Hid (Kp w1 (W.setCell ⟨G + 1, 2, none⟩ (.int .i64 ((j : Int) + 1))) (fun k => k = G + 1)) := Lib.hid (kp_set' (S := fun k => k = G + 1) hK.out (G + 1) 2 (.inl rfl) _)
        have hb3 : Hid ((W.setCell ⟨G + 1, 2, none⟩ (.int .i64 ((j : Int) + 1))).heap[G + 1]? = some (.cells #[.bool false, .string ⟨#[]⟩, .int .i64 ((j + 1 : Nat) : Int)] 32 (0, 0))) := Lib.hid (by
          rw [← hjI]
          exact blk_put hb2.out 2 _ rfl)
        replace hq := Lib.hid hq
        replace hmeas := Lib.hid hmeas
        replace hjI := Lib.hid hjI
        replace hmq := Lib.hid hmq
        replace huq := Lib.hid huq
        go_wp2_with fail
        go_roundw
        case rel => exact ⟨q, j + 1, _, rfl, rfl, hqu, hj2, hcu2, hmul2, hb3, K2⟩
        case measure => simp only [intOf, Int.toNat_natCast]; exact hmeas.out
      · have hcu' := hcu.out
        rw [hcz.out, cz_stop (n := u) (by omega)] at hcu'
        have hvu : v = u := by have := congrArg Prod.fst hcu'; simpa using this
        have hkj : k = j := by have := congrArg Prod.snd hcu'; simpa using this
        subst hvu hkj
        clear hcu'
        by_cases U0 : v = 0
        · subst U0
          go_wp2_with fail
          refine (hdg.out _).mono ?_
          rintro e W2 ⟨rfl, ⟨md, rfl⟩⟩
          go_wp2_with fail
          have E := whole_end (md := md) (b := false) (D := ⟨(dg 0).toArray⟩) (k := (k : Int)) hb1.out B1.out hK.out hG.out
          refine bodyPost_ret (results_cell_row rfl _ _ G 32 #[.bool false, .string ⟨(dg 0).toArray⟩, .int .i64 (k : Int)] (0, 0) _ rfl E.1 Tryz.underlying32 rfl (by kernel_rfl)) rfl ?_
          exact ⟨rfl, E.2⟩
        · have hpos : (0 : Int) < (v : Int) := by omega
          have hrem : ((v : Int) % 10 == 0) = false := beq_eq_false_iff_ne.2 (by omega)
          go_wp2_with fail
          refine (hdg.out _).mono ?_
          rintro e W2 ⟨rfl, ⟨md, rfl⟩⟩
          go_wp2_with fail
          have E := whole_end (md := md) (b := false) (D := ⟨(dg v).toArray⟩) (k := (k : Int)) hb1.out B1.out hK.out hG.out
          refine bodyPost_ret (results_cell_row rfl _ _ G 32 #[.bool false, .string ⟨(dg v).toArray⟩, .int .i64 (k : Int)] (0, 0) _ rfl E.1 Tryz.underlying32 rfl (by kernel_rfl)) rfl ?_
          exact ⟨rfl, E.2⟩
  · have hb2 : decide (-(m : Int) < 0) = b := hb
    have hbf : b = true := by rw [← hb]; exact decide_eq_true (by omega)
    subst hbf
    replace hb := Lib.hid hb
    go_enter Tryz.func9, Tryz.ntmps9
    obtain ⟨G, hG⟩ : ∃ G, w.heap.size = G := ⟨_, rfl⟩
    go_wp2_with fail
    generalize hw1 : World.alloc _ _ = w1
    obtain ⟨b1, b2, B1⟩ : w1.heap[G]? = some (.cells #[.bool false, .string ⟨#[]⟩, .int .i64 0] 32 (0, 0)) ∧ w1.heap[G + 1]? = some (.cells #[.bool true, .string ⟨#[]⟩, .int .i64 0] 32 (0, 0)) ∧ Below w.heap.size w w1 := by
      subst hw1 hG
      exact ⟨blk_alloc (heap_alloc_new _ _) _, alloc2 _ _ _, below_alloc (below_alloc (Below.refl _ _) _) _⟩
    clear hw1
    replace hG := Lib.hid hG
    replace b1 := Lib.hid b1
    replace b2 := Lib.hid b2
    replace B1 := Lib.hid B1
    go_loopw [0] (fun v0 w' => ∃ (u j : Nat) (W : World), v0 = .int .i64 (u : Int) ∧ W = w' ∧ u ≤ m ∧ Hid (j < 100) ∧ Hid (cz m = ((cz u).1, (cz u).2 + j)) ∧ Hid (u ≠ 0 → u * 10 ^ j = m) ∧ Hid (W.heap[G + 1]? = some (.cells #[.bool true, .string ⟨#[]⟩, .int .i64 (j : Int)] 32 (0, 0))) ∧ Hid (Kp w1 W (fun k => k = G + 1))) (fun v0 _ => (intOf v0).toNat)
    case atStart => exact ⟨m, 0, _, rfl, rfl, by omega, Lib.hid (by decide), Lib.hid rfl, Lib.hid (fun _ => by simp), b2, Lib.hid (Kp.refl _ _)⟩
    case round =>
      obtain ⟨u, j, W, rfl, rfl, hu, hj, hcu, hmul, hb2, hK⟩ := hrel
      obtain ⟨c0, c1, c2, f0, f1, f2⟩ := blk3 hb2.out
      have hlG := blk_lt hb2.out
      have hb1 := hK.out.heap b1.out (by omega)
      obtain ⟨d0, d1, d2, g0, g1, g2⟩ := blk3 hb1
      have hlG1 := blk_lt hb1
      replace hb1 := Lib.hid hb1
      by_cases c : u ≠ 0 ∧ u % 10 = 0
      · obtain ⟨c, cc⟩ := c
        have hpos : (0 : Int) < (u : Int) := by omega
        have hrem : (u : Int) % 10 = 0 := by omega
        obtain ⟨q, hq⟩ : ∃ q, u / 10 = q := ⟨_, rfl⟩
        have hqi : (u : Int) / 10 = (q : Int) := by omega
        have hqu : q ≤ m := by omega
        have hq0 : q ≠ 0 := by omega
        have hmq := hmul.out (by omega)
        have huq : u = q * 10 := by omega
        have hmul2 : Hid (q ≠ 0 → q * 10 ^ (j + 1) = m) := Lib.hid (fun _ => by rw [Nat.pow_succ, Nat.mul_comm _ 10, ← Nat.mul_assoc, ← huq]; exact hmq)
        have hj100 := hj.out
        have hj2 : Hid (j + 1 < 100) := Lib.hid (by
          have h1 : 10 ^ (j + 1) ≤ m := by rw [← hmul2.out hq0]; exact Nat.le_mul_of_pos_left _ (by omega)
          have h2 : 10 ^ (j + 1) < 10 ^ 15 := Nat.lt_of_le_of_lt h1 (by rw [show (10 : Nat) ^ 15 = 1000000000000000 by decide]; exact hm)
          have h3 := (Nat.pow_lt_pow_iff_right (by decide : 1 < 10)).1 h2
          omega)
        have hcu2 : Hid (cz m = ((cz q).1, (cz q).2 + (j + 1))) := Lib.hid (by
          rw [hcu.out, cz_step c cc, hq]
          show ((cz q).1, (cz q).2 + 1 + j) = _
          rw [Nat.add_assoc, Nat.add_comm 1 j])
        have hmeas : q < u := by omega
        have hjI : ((j : Int) + 1) = ((j + 1 : Nat) : Int) := by omega
        have K2 : Hid (Kp w1 (W.setCell ⟨G + 1, 2, none⟩ (.int .i64 ((j : Int) + 1))) (fun k => k = G + 1)) := Lib.hid (kp_set' (S := fun k => k = G + 1) hK.out (G + 1) 2 (.inl rfl) _)
        have hb3 : Hid ((W.setCell ⟨G + 1, 2, none⟩ (.int .i64 ((j : Int) + 1))).heap[G + 1]? = some (.cells #[.bool true, .string ⟨#[]⟩, .int .i64 ((j + 1 : Nat) : Int)] 32 (0, 0))) := Lib.hid (by
          rw [← hjI]
          exact blk_put hb2.out 2 _ rfl)
        replace hq := Lib.hid hq
        replace hmeas := Lib.hid hmeas
        replace hjI := Lib.hid hjI
        replace hmq := Lib.hid hmq
        replace huq := Lib.hid huq
        go_wp2_with fail
        go_roundw
        case rel => exact ⟨q, j + 1, _, rfl, rfl, hqu, hj2, hcu2, hmul2, hb3, K2⟩
        case measure => simp only [intOf, Int.toNat_natCast]; exact hmeas.out
      · have hcu' := hcu.out
        rw [hcz.out, cz_stop (n := u) (by omega)] at hcu'
        have hvu : v = u := by have := congrArg Prod.fst hcu'; simpa using this
        have hkj : k = j := by have := congrArg Prod.snd hcu'; simpa using this
        subst hvu hkj
        clear hcu'
        by_cases U0 : v = 0
        · subst U0
          go_wp2_with fail
          refine (hdg.out _).mono ?_
          rintro e W2 ⟨rfl, ⟨md, rfl⟩⟩
          go_wp2_with fail
          have E := whole_end (md := md) (b := true) (D := ⟨(dg 0).toArray⟩) (k := (k : Int)) hb1.out B1.out hK.out hG.out
          refine bodyPost_ret (results_cell_row rfl _ _ G 32 #[.bool true, .string ⟨(dg 0).toArray⟩, .int .i64 (k : Int)] (0, 0) _ rfl E.1 Tryz.underlying32 rfl (by kernel_rfl)) rfl ?_
          exact ⟨rfl, E.2⟩
        · have hpos : (0 : Int) < (v : Int) := by omega
          have hrem : ((v : Int) % 10 == 0) = false := beq_eq_false_iff_ne.2 (by omega)
          go_wp2_with fail
          refine (hdg.out _).mono ?_
          rintro e W2 ⟨rfl, ⟨md, rfl⟩⟩
          go_wp2_with fail
          have E := whole_end (md := md) (b := true) (D := ⟨(dg v).toArray⟩) (k := (k : Int)) hb1.out B1.out hK.out hG.out
          refine bodyPost_ret (results_cell_row rfl _ _ G 32 #[.bool true, .string ⟨(dg v).toArray⟩, .int .i64 (k : Int)] (0, 0) _ rfl E.1 Tryz.underlying32 rfl (by kernel_rfl)) rfl ?_
          exact ⟨rfl, E.2⟩
end Go.Proofs.YtcpgcjmamjjokaaGreatDoor
namespace Go.Proofs.YtcpgcjmamjjokaaGreatDoor
open Go.RowKit Go.Proofs.YtcpgcjmamjjokaaGreatDoorW.PrintWords Go.Proofs.YtcpgcjmamjjokaaGreatDoorW.PrintMore
set_option linter.unusedVariables false
set_option linter.unusedSimpArgs false
/-- What is asked of Trim. -/
def TrimD : Prop := ∀ (l : List UInt8), isD l → l.length ≤ 1000 → ∀ w : World, Calls Tryz.prog 158 #[.string ⟨l.toArray⟩, .string ⟨#[48, 49, 50, 51, 52, 53, 54, 55, 56, 57]⟩] w fun e w' => e = .returned (.string ⟨#[]⟩) ∧ Below w.heap.size w w'
set_option maxRecDepth 100000 in
theorem digits_ok (hT : TrimD) (c : UInt8) (ys : List UInt8) (h : isD (c :: ys)) (hl : (c :: ys).length ≤ 1000) (w : World) : Calls Tryz.prog 119 #[.string ⟨(c :: ys).toArray⟩] w fun e w' => e = .returned (.bool true) ∧ Below w.heap.size w w' := by
  have hT' := fun w => hT (c :: ys) h hl w
  go_enter Tryz.func119, Tryz.ntmps119
  go_wp2_with fail
  refine (hT' _).mono ?_
  rintro e w1 ⟨rfl, B1⟩
  go_wp2_with fail
  go_ret
  exact ⟨rfl, B1⟩
set_option maxRecDepth 100000 in
theorem check_zero (w : World) : Calls Tryz.prog 90 #[.agg #[.bool false, .string ⟨#[48]⟩, .int .i64 0]] w fun e w' => e = .returned (.int .i64 0) ∧ Below w.heap.size w w' := by
  go_enter Tryz.func90, Tryz.ntmps90
  go_wp2_with fail
  go_ret
  exact ⟨rfl, below_alloc (Below.refl _ _) _⟩
set_option maxHeartbeats 1600000 in
set_option maxRecDepth 100000 in
theorem check_ok (hT : TrimD) (neg : Bool) (c : UInt8) (ys : List UInt8) (x : Int) (h : isD (c :: ys)) (hlen : ys.length + 1 ≤ 40) (hh : c ≠ 48) (ht : Lib.hasSuffix (c :: ys) [48] = false) (hx0 : -400 ≤ x) (hx1 : x ≤ 400) (w : World) :
    Calls Tryz.prog 90 #[.agg #[.bool neg, .string ⟨(c :: ys).toArray⟩, .int .i64 x]] w fun e w' => e = .returned (.int .i64 0) ∧ Below w.heap.size w w' := by
  have hD := fun w => digits_ok hT c ys h (by simp; omega) w
  have hS := fun w => Tryz.strings_HasSuffix ⟨(c :: ys).toArray⟩ ⟨#[48]⟩ w (by show (c :: ys).toArray.size ≤ _; simp; omega)
  have hs1 : (⟨(c :: ys).toArray⟩ : ByteArray).size = ys.length + 1 := by
    show (c :: ys).toArray.size = _
    simp
  replace hD := Lib.hid hD
  replace hS := Lib.hid hS
  replace ht := Lib.hid ht
  have hc48 : ((c.toNat : Int) == 48) = false := beq_eq_false_iff_ne.2 (fun h => hh (by apply UInt8.toNat_inj.1; show c.toNat = 48; omega))
  have hd40 : decide ((40 : Int) < (ys.length : Int) + 1) = false := decide_eq_false (by omega)
  have hd41 : decide (40 < ys.length + 1) = false := decide_eq_false (by omega)
  have hix : ∀ h : 0 < (⟨(c :: ys).toArray⟩ : ByteArray).size, (⟨(c :: ys).toArray⟩ : ByteArray)[0]'h = c := fun _ => rfl
  have hx2 : decide (x < -400) = false := decide_eq_false (by omega)
  have hx3 : decide (400 < x) = false := decide_eq_false (by omega)
  go_enter Tryz.func90, Tryz.ntmps90
  go_wp2_with fail
  generalize hw1 : World.alloc w _ = w1
  obtain ⟨b1, B1⟩ : w1.heap[w.heap.size]? = some (.cells #[.bool neg, .string ⟨(c :: ys).toArray⟩, .int .i64 x] 32 (0, 0)) ∧ Below w.heap.size w w1 := by
    subst hw1
    exact ⟨heap_alloc_new _ _, below_alloc (Below.refl _ _) _⟩
  clear hw1
  refine (hD.out _).mono ?_
  rintro e w2 ⟨rfl, B2⟩
  have b2 := blk_below b1 B2
  replace B2 := Lib.hid (below_then B1 B1.size B2)
  obtain ⟨c0, c1, c2, f0, f1, f2⟩ := blk3 b2
  clear b1 b2 B1
  go_wp2_with fail
  refine (hS.out _).mono ?_
  rintro e w3 ⟨rfl, rfl⟩
  rw [ht.out]
  go_wp2_with fail
  go_ret
  exact ⟨rfl, B2.out⟩
/-- A struct that is a number. -/
theorem check_num (hT : TrimD) (t : Int) (ht : t.natAbs < 1000000000000000) (w : World) : Calls Tryz.prog 90 #[numV t] w fun e w' => e = .returned (.int .i64 0) ∧ Below w.heap.size w w' := by
  unfold numV
  by_cases h0 : t = 0
  · subst h0
    rw [ND_zero, NE_zero]
    exact check_zero w
  · have h1 := ND_head h0
    have h2 := isD_ND t
    have h3 := ND_len t 15 ht (by decide)
    have h4 := NE_lt t 15 ht (by decide)
    generalize ND t = l at *
    cases l with
    | nil => exact absurd rfl h1.2.2
    | cons c ys =>
      refine check_ok hT _ c ys _ h2 (by simpa using (show (c :: ys).length ≤ 40 by omega)) (by simpa using h1.1) ?_ (by omega) (by omega) w
      unfold Lib.hasSuffix
      rw [Bool.eq_false_iff]
      intro hs
      rw [List.isSuffixOf_iff_suffix] at hs
      obtain ⟨m, hm⟩ := hs
      apply h1.2.1
      rw [← hm]; simp
theorem set225 : (Tryz.prog.info? 225).map (fun i => (i.zero, i.size)) = some (some (.agg (Array.replicate 256 (.bool false))), 256) := by kernel_rfl
theorem drop_all (p : UInt8 → Bool) (l : List UInt8) (h : ∀ b ∈ l, p b = true) : l.dropWhile p = [] := by
  induction l with
  | nil => rfl
  | cons c l ih => rw [List.dropWhile_cons_of_pos (h c (by simp))]; exact ih (fun b hb => h b (by simp [hb]))
theorem trimD : TrimD := by
  intro l hl hlen w
  have h := Any.strings_Trim_laid Tryz.lays160 set225 ⟨l.toArray⟩ ⟨#[48, 49, 50, 51, 52, 53, 54, 55, 56, 57]⟩ w (by show l.toArray.size ≤ _; simp; omega) (by decide) (ascii_of_all (by decide))
  have e : Lib.trimS (⟨l.toArray⟩ : ByteArray).data.toList (⟨#[48, 49, 50, 51, 52, 53, 54, 55, 56, 57]⟩ : ByteArray).data.toList = [] := by
    unfold Lib.trimS Lib.trimRightS Lib.trimLeftS
    have h1 : ∀ b ∈ l.reverse, (([48, 49, 50, 51, 52, 53, 54, 55, 56, 57] : List UInt8).contains b) = true := by
      intro b hb
      have h2 := hl b (List.mem_reverse.1 hb)
      have h3 : ∀ n : Fin 256, 48 ≤ n.1 → n.1 ≤ 57 → (([48, 49, 50, 51, 52, 53, 54, 55, 56, 57] : List UInt8).contains (UInt8.ofNat n.1)) = true := by decide +kernel
      have h4 := h3 ⟨b.toNat, b.toNat_lt⟩ h2.1 h2.2
      simpa using h4
    have h5 : l.reverse.dropWhile (fun b => ([48, 49, 50, 51, 52, 53, 54, 55, 56, 57] : List UInt8).contains b) = [] := by
      exact drop_all _ _ h1
    show List.dropWhile _ (List.dropWhile _ (l.toArray.toList).reverse).reverse = []
    rw [show l.toArray.toList = l by simp]
    rw [show (List.dropWhile _ l.reverse) = [] from h5]
    rfl
  refine h.mono ?_
  rintro e' w' ⟨rfl, hB⟩
  rw [e]
  exact ⟨rfl, hB⟩
end Go.Proofs.YtcpgcjmamjjokaaGreatDoor
