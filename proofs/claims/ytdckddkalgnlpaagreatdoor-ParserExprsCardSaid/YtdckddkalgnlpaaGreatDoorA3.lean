/-
  Several texts in one: Shelf, LexProgA, LexKw, ShelfB, LexProgB.
-/
import Derived.Shelf.Strings.OnBuilder
import Derived.Shelf.Strings.Trim
import Derived.Shelf.Small.Strs
import Derived.Shelf.Strings.Prefix
import Derived.Shelf.Strings.Search3
import Derived.Shelf.Strconv.ParseIntPublic10
import Derived.Shelf.Slices.Turned
import Derived.Shelf.Slices.Clone
import Derived.Test.YtdckddkalgnlpaaGreatDoorProg
import Derived.Test.YtdckddkalgnlpaaGreatDoorA2
import Derived.Shelf.Strings.SlTrimAscii
import Derived.Test.YtdckddkalgnlpaaGreatDoorA1
import Derived.Shelf.Spec.SearchS
namespace Go.Proofs
open Go.Shelf
def Tryz.lays161_ren : Go.Shelf.Ren := ⟨fun | 161 => 81 | 231 => 131 | 227 => 132 | 233 => 133 | 235 => 134 | 228 => 164 | 197 => 165 | 151 => 166 | 260 => 187 | 152 => 188 | 137 => 83 | 119 => 209 | 224 => 207 | 225 => 206 | 217 => 136 | 266 => 167 | n => n, fun | 9 => 9 | 4 => 4 | 3 => 3 | 5 => 5 | 117 => 153 | 116 => 152 | 0 => 0 | 124 => 156 | 105 => 176 | 21 => 21 | 119 => 209 | 46 => 189 | 139 => 212 | 138 => 211 | n => n, fun | 3 => 7 | 4 => 8 | n => n⟩
theorem Tryz.lays161 : Go.Proofs.Lays.n161 Tryz.prog Tryz.lays161_ren := {
 mixed := by kernel_rfl
 f119 := Tryz.func209.trans (congrArg some (by kernel_rfl))
 f137 := Tryz.func83.trans (congrArg some (by kernel_rfl))
 f151 := Tryz.func166.trans (congrArg some (by kernel_rfl))
 f152 := Tryz.func188.trans (congrArg some (by kernel_rfl))
 f161 := Tryz.func81.trans (congrArg some (by kernel_rfl))
 f197 := Tryz.func165.trans (congrArg some (by kernel_rfl))
 f217 := Tryz.func136.trans (congrArg some (by kernel_rfl))
 f224 := Tryz.func207.trans (congrArg some (by kernel_rfl))
 f225 := Tryz.func206.trans (congrArg some (by kernel_rfl))
 f227 := Tryz.func132.trans (congrArg some (by kernel_rfl))
 f228 := Tryz.func164.trans (congrArg some (by kernel_rfl))
 f231 := Tryz.func131.trans (congrArg some (by kernel_rfl))
 f233 := Tryz.func133.trans (congrArg some (by kernel_rfl))
 f235 := Tryz.func134.trans (congrArg some (by kernel_rfl))
 f260 := Tryz.func187.trans (congrArg some (by kernel_rfl))
 f266 := Tryz.func167.trans (congrArg some (by kernel_rfl))
 t0 := Tryz.underlying0
 a0 := Tryz.isAgg0
 z0 := Tryz.sizeOf0
 v0 := Tryz.zeroValue0
 t3 := Tryz.underlying3
 a3 := Tryz.isAgg3
 z3 := Tryz.sizeOf3
 v3 := Tryz.zeroValue3
 t4 := Tryz.underlying4
 a4 := Tryz.isAgg4
 z4 := Tryz.sizeOf4
 v4 := Tryz.zeroValue4
 t5 := Tryz.underlying5
 a5 := Tryz.isAgg5
 z5 := Tryz.sizeOf5
 v5 := Tryz.zeroValue5
 t9 := Tryz.underlying9
 a9 := Tryz.isAgg9
 z9 := Tryz.sizeOf9
 v9 := Tryz.zeroValue9
 t21 := Tryz.underlying21
 a21 := Tryz.isAgg21
 z21 := Tryz.sizeOf21
 v21 := Tryz.zeroValue21
 t46 := Tryz.underlying189
 a46 := Tryz.isAgg189
 z46 := Tryz.sizeOf189
 v46 := Tryz.zeroValue189
 t105 := Tryz.underlying176
 a105 := Tryz.isAgg176
 z105 := Tryz.sizeOf176
 v105 := Tryz.zeroValue176
 t116 := Tryz.underlying152
 a116 := Tryz.isAgg152
 z116 := Tryz.sizeOf152
 t117 := Tryz.underlying153
 a117 := Tryz.isAgg153
 z117 := Tryz.sizeOf153
 v117 := Tryz.zeroValue153
 t119 := Tryz.underlying209
 a119 := Tryz.isAgg209
 z119 := Tryz.sizeOf209
 t124 := Tryz.underlying156
 a124 := Tryz.isAgg156
 z124 := Tryz.sizeOf156
 v124 := Tryz.zeroValue156
 t138 := Tryz.underlying211
 a138 := Tryz.isAgg211
 z138 := Tryz.sizeOf211
 v138 := Tryz.zeroValue211
 t139 := Tryz.underlying212
 a139 := Tryz.isAgg212
 z139 := Tryz.sizeOf212
 v139 := Tryz.zeroValue212
 g3 := by kernel_rfl
 g4 := by kernel_rfl }
def Tryz.lays137_ren : Go.Shelf.Ren := ⟨fun | 137 => 83 | 217 => 136 | 266 => 167 | n => n, fun | 9 => 9 | 5 => 5 | 3 => 3 | n => n, fun | n => n⟩
theorem Tryz.lays137 : Go.Proofs.Lays.n137 Tryz.prog Tryz.lays137_ren := {
 mixed := by kernel_rfl
 f137 := Tryz.func83.trans (congrArg some (by kernel_rfl))
 f217 := Tryz.func136.trans (congrArg some (by kernel_rfl))
 f266 := Tryz.func167.trans (congrArg some (by kernel_rfl))
 t3 := Tryz.underlying3
 a3 := Tryz.isAgg3
 z3 := Tryz.sizeOf3
 v3 := Tryz.zeroValue3
 t5 := Tryz.underlying5
 a5 := Tryz.isAgg5
 z5 := Tryz.sizeOf5
 v5 := Tryz.zeroValue5
 t9 := Tryz.underlying9
 a9 := Tryz.isAgg9
 z9 := Tryz.sizeOf9
 v9 := Tryz.zeroValue9 }
open Go.RowKit in
theorem Tryz.strings_IndexByte (s : ByteArray) (c : Int) (w : World) :
 Calls Tryz.prog 83 #[.string s, .int .u8 c] w fun e w' => e = .returned (.int .i64 (Lib.indexByte s.data.toList c.toNat.toUInt8)) ∧ w' = w := Any.strings_IndexByte Tryz.lays137 s c w
def Tryz.laysC174_ren : Go.Shelf.Ren := ⟨fun | 174 => 127 | 247 => 159 | 245 => 160 | 287 => 179 | 279 => 180 | 280 => 181 | 281 => 182 | 282 => 183 | 321 => 200 | 322 => 201 | 316 => 202 | 171 => 204 | 205 => 203 | 243 => 219 | 246 => 170 | 283 => 189 | 284 => 190 | 285 => 191 | 286 => 192 | 129 => 211 | 317 => 210 | 318 => 212 | 319 => 213 | 320 => 214 | 337 => 221 | 338 => 222 | n => n, fun | 9 => 9 | 3 => 3 | 2 => 2 | 75 => 123 | 85 => 148 | 4 => 4 | 167 => 185 | 5 => 5 | 53 => 186 | 175 => 187 | 46 => 189 | 168 => 190 | 37 => 83 | 0 => 0 | 210 => 206 | 21 => 21 | 127 => 128 | 145 => 227 | 143 => 225 | 171 => 194 | 173 => 197 | 212 => 215 | 51 => 216 | 20 => 20 | 213 => 217 | 232 => 230 | 233 => 231 | 80 => 89 | n => n, fun | 15 => 5 | 16 => 6 | 17 => 9 | 18 => 10 | 19 => 11 | n => n⟩
theorem Tryz.laysC174 : Go.Proofs.LaysC.n174 Tryz.prog Tryz.laysC174_ren := {
 mixed := by kernel_rfl
 f129 := Tryz.func211.trans (congrArg some (by kernel_rfl))
 f171 := Tryz.func204.trans (congrArg some (by kernel_rfl))
 f174 := Tryz.func127.trans (congrArg some (by kernel_rfl))
 f205 := Tryz.func203.trans (congrArg some (by kernel_rfl))
 f243 := Tryz.func219.trans (congrArg some (by kernel_rfl))
 f245 := Tryz.func160.trans (congrArg some (by kernel_rfl))
 f246 := Tryz.func170.trans (congrArg some (by kernel_rfl))
 f247 := Tryz.func159.trans (congrArg some (by kernel_rfl))
 f279 := Tryz.func180.trans (congrArg some (by kernel_rfl))
 f280 := Tryz.func181.trans (congrArg some (by kernel_rfl))
 f281 := Tryz.func182.trans (congrArg some (by kernel_rfl))
 f282 := Tryz.func183.trans (congrArg some (by kernel_rfl))
 f283 := Tryz.func189.trans (congrArg some (by kernel_rfl))
 f284 := Tryz.func190.trans (congrArg some (by kernel_rfl))
 f285 := Tryz.func191.trans (congrArg some (by kernel_rfl))
 f286 := Tryz.func192.trans (congrArg some (by kernel_rfl))
 f287 := Tryz.func179.trans (congrArg some (by kernel_rfl))
 f316 := Tryz.func202.trans (congrArg some (by kernel_rfl))
 f317 := Tryz.func210.trans (congrArg some (by kernel_rfl))
 f318 := Tryz.func212.trans (congrArg some (by kernel_rfl))
 f319 := Tryz.func213.trans (congrArg some (by kernel_rfl))
 f320 := Tryz.func214.trans (congrArg some (by kernel_rfl))
 f321 := Tryz.func200.trans (congrArg some (by kernel_rfl))
 f322 := Tryz.func201.trans (congrArg some (by kernel_rfl))
 f337 := Tryz.func221.trans (congrArg some (by kernel_rfl))
 f338 := Tryz.func222.trans (congrArg some (by kernel_rfl))
 t0 := Tryz.underlying0
 a0 := Tryz.isAgg0
 z0 := Tryz.sizeOf0
 v0 := Tryz.zeroValue0
 t2 := Tryz.underlying2
 a2 := Tryz.isAgg2
 z2 := Tryz.sizeOf2
 v2 := Tryz.zeroValue2
 t3 := Tryz.underlying3
 a3 := Tryz.isAgg3
 z3 := Tryz.sizeOf3
 v3 := Tryz.zeroValue3
 t4 := Tryz.underlying4
 a4 := Tryz.isAgg4
 z4 := Tryz.sizeOf4
 v4 := Tryz.zeroValue4
 t5 := Tryz.underlying5
 a5 := Tryz.isAgg5
 z5 := Tryz.sizeOf5
 v5 := Tryz.zeroValue5
 t9 := Tryz.underlying9
 a9 := Tryz.isAgg9
 z9 := Tryz.sizeOf9
 v9 := Tryz.zeroValue9
 t20 := Tryz.underlying20
 a20 := Tryz.isAgg20
 z20 := Tryz.sizeOf20
 v20 := Tryz.zeroValue20
 t21 := Tryz.underlying21
 a21 := Tryz.isAgg21
 z21 := Tryz.sizeOf21
 v21 := Tryz.zeroValue21
 t37 := Tryz.underlying83
 a37 := Tryz.isAgg83
 z37 := Tryz.sizeOf83
 v37 := Tryz.zeroValue83
 t46 := Tryz.underlying189
 a46 := Tryz.isAgg189
 z46 := Tryz.sizeOf189
 v46 := Tryz.zeroValue189
 t51 := Tryz.underlying216
 a51 := Tryz.isAgg216
 z51 := Tryz.sizeOf216
 v51 := Tryz.zeroValue216
 t53 := Tryz.underlying186
 a53 := Tryz.isAgg186
 z53 := Tryz.sizeOf186
 v53 := Tryz.zeroValue186
 t75 := Tryz.underlying123
 a75 := Tryz.isAgg123
 z75 := Tryz.sizeOf123
 v75 := Tryz.zeroValue123
 t85 := Tryz.underlying148
 a85 := Tryz.isAgg148
 z85 := Tryz.sizeOf148
 v85 := Tryz.zeroValue148
 t127 := Tryz.underlying128
 a127 := Tryz.isAgg128
 z127 := Tryz.sizeOf128
 v127 := Tryz.zeroValue128
 t143 := Tryz.underlying225
 a143 := Tryz.isAgg225
 z143 := Tryz.sizeOf225
 v143 := Tryz.zeroValue225
 t145 := Tryz.underlying227
 a145 := Tryz.isAgg227
 z145 := Tryz.sizeOf227
 v145 := Tryz.zeroValue227
 t167 := Tryz.underlying185
 a167 := Tryz.isAgg185
 z167 := Tryz.sizeOf185
 v167 := Tryz.zeroValue185
 t168 := Tryz.underlying190
 a168 := Tryz.isAgg190
 z168 := Tryz.sizeOf190
 v168 := Tryz.zeroValue190
 t171 := Tryz.underlying194
 a171 := Tryz.isAgg194
 z171 := Tryz.sizeOf194
 v171 := Tryz.zeroValue194
 t173 := Tryz.underlying197
 a173 := Tryz.isAgg197
 z173 := Tryz.sizeOf197
 v173 := Tryz.zeroValue197
 t175 := Tryz.underlying187
 a175 := Tryz.isAgg187
 z175 := Tryz.sizeOf187
 v175 := Tryz.zeroValue187
 t210 := Tryz.underlying206
 a210 := Tryz.isAgg206
 z210 := Tryz.sizeOf206
 v210 := Tryz.zeroValue206
 t212 := Tryz.underlying215
 a212 := Tryz.isAgg215
 z212 := Tryz.sizeOf215
 v212 := Tryz.zeroValue215
 t213 := Tryz.underlying217
 a213 := Tryz.isAgg217
 z213 := Tryz.sizeOf217
 t232 := Tryz.underlying230
 a232 := Tryz.isAgg230
 z232 := Tryz.sizeOf230
 v232 := Tryz.zeroValue230
 t233 := Tryz.underlying231
 a233 := Tryz.isAgg231
 z233 := Tryz.sizeOf231
 v233 := Tryz.zeroValue231
 g15 := by kernel_rfl
 g16 := by kernel_rfl
 g17 := by kernel_rfl
 g18 := by kernel_rfl
 g19 := by kernel_rfl
 t80 := Tryz.underlying89
 a80 := Tryz.isAgg89
 z80 := Tryz.sizeOf89
 v80 := Tryz.zeroValue89
 i0 := by kernel_rfl
 i2 := by kernel_rfl
 i3 := by kernel_rfl
 i4 := by kernel_rfl
 i5 := by kernel_rfl
 i9 := by kernel_rfl
 i20 := by kernel_rfl
 i21 := by kernel_rfl
 i37 := by kernel_rfl
 i46 := by kernel_rfl
 i51 := by kernel_rfl
 i53 := by kernel_rfl
 i75 := by kernel_rfl
 i80 := by kernel_rfl
 i85 := by kernel_rfl
 i127 := by kernel_rfl
 i143 := by kernel_rfl
 i145 := by kernel_rfl
 i167 := by kernel_rfl
 i168 := by kernel_rfl
 i171 := by kernel_rfl
 i173 := by kernel_rfl
 i175 := by kernel_rfl
 i210 := by kernel_rfl
 i212 := by kernel_rfl
 i232 := by kernel_rfl
 i233 := by kernel_rfl
 m15 := by kernel_rfl
 m16 := by kernel_rfl
 m17 := by kernel_rfl
 m18 := by kernel_rfl
 m19 := by kernel_rfl
 c0 := by kernel_rfl
 c2 := by kernel_rfl
 c3 := by kernel_rfl
 c4 := by kernel_rfl
 c5 := by kernel_rfl
 c9 := by kernel_rfl
 c20 := by kernel_rfl
 c21 := by kernel_rfl
 c37 := by kernel_rfl
 c46 := by kernel_rfl
 c51 := by kernel_rfl
 c53 := by kernel_rfl
 c75 := by kernel_rfl
 c80 := by kernel_rfl
 c85 := by kernel_rfl
 c127 := by kernel_rfl
 c143 := by kernel_rfl
 c145 := by kernel_rfl
 c167 := by kernel_rfl
 c168 := by kernel_rfl
 c171 := by kernel_rfl
 c173 := by kernel_rfl
 c175 := by kernel_rfl
 c210 := by kernel_rfl
 c212 := by kernel_rfl
 c213 := by kernel_rfl
 c232 := by kernel_rfl
 c233 := by kernel_rfl }
open Go.RowKit in
theorem Tryz.strconv_ParseInt_10_at64_ok (s : ByteArray) (hmax : s.size ≤ 9223372036854775806) (v : Int) (h : Lib.parseIntB 64 s.data.toList = .ok v) (w : World) :
 Calls Tryz.prog 127 #[.string s, .int .i64 10, .int .i64 64] w fun e w' => e = .returned (.tuple #[.int .i64 v, .nilIface]) ∧ (w' = w ∨ ∃ t, w' = Lib.bytesWorld w 5 t) := Any.strconv_ParseInt_10_at64_ok Tryz.laysC174 s hmax v h w
open Go.RowKit in
theorem Tryz.strconv_ParseInt_10_at64_range (s : ByteArray) (hlim : s.size ≤ 281474976710656) (h : Lib.parseIntB 64 s.data.toList = .range) (ev : Value) (w : World) (hv : w.cell? ⟨6, 0, none⟩ = some ev) (hev : ev = .nilIface ∨ ∃ te pe, ev = .iface te pe) :
 Calls Tryz.prog 127 #[.string s, .int .i64 10, .int .i64 64] w fun e w' => ∃ N, e = .returned (.tuple #[.int .i64 (Lib.intSat 64 s.data.toList), .iface 190 (.pointer (some ⟨N, 0, none⟩))]) ∧ w.heap.size ≤ N ∧ w'.heap[N]? = some (.cells #[.string ⟨#[80, 97, 114, 115, 101, 73, 110, 116]⟩, .string s, ev] 206 (0, 0)) ∧ Below w.heap.size w w' := Any.strconv_ParseInt_10_at64_range Tryz.laysC174 s hlim h ev w hv hev
def Tryz.lays144_ren : Go.Shelf.Ren := ⟨fun | 144 => 129 | 143 => 162 | 219 => 186 | 217 => 136 | 225 => 206 | 224 => 207 | 267 => 208 | 266 => 167 | 314 => 220 | n => n, fun | 9 => 9 | 4 => 4 | 3 => 3 | 5 => 5 | 46 => 189 | 146 => 220 | 51 => 216 | n => n, fun | 1 => 4 | n => n⟩
theorem Tryz.lays144 : Go.Proofs.Lays.n144 Tryz.prog Tryz.lays144_ren := {
 mixed := by kernel_rfl
 f143 := Tryz.func162.trans (congrArg some (by kernel_rfl))
 f144 := Tryz.func129.trans (congrArg some (by kernel_rfl))
 f217 := Tryz.func136.trans (congrArg some (by kernel_rfl))
 f219 := Tryz.func186.trans (congrArg some (by kernel_rfl))
 f224 := Tryz.func207.trans (congrArg some (by kernel_rfl))
 f225 := Tryz.func206.trans (congrArg some (by kernel_rfl))
 f266 := Tryz.func167.trans (congrArg some (by kernel_rfl))
 f267 := Tryz.func208.trans (congrArg some (by kernel_rfl))
 f314 := Tryz.func220.trans (congrArg some (by kernel_rfl))
 t3 := Tryz.underlying3
 a3 := Tryz.isAgg3
 z3 := Tryz.sizeOf3
 v3 := Tryz.zeroValue3
 t4 := Tryz.underlying4
 a4 := Tryz.isAgg4
 z4 := Tryz.sizeOf4
 v4 := Tryz.zeroValue4
 t5 := Tryz.underlying5
 a5 := Tryz.isAgg5
 z5 := Tryz.sizeOf5
 v5 := Tryz.zeroValue5
 t9 := Tryz.underlying9
 a9 := Tryz.isAgg9
 z9 := Tryz.sizeOf9
 v9 := Tryz.zeroValue9
 t46 := Tryz.underlying189
 a46 := Tryz.isAgg189
 z46 := Tryz.sizeOf189
 v46 := Tryz.zeroValue189
 t51 := Tryz.underlying216
 a51 := Tryz.isAgg216
 z51 := Tryz.sizeOf216
 v51 := Tryz.zeroValue216
 t146 := Tryz.underlying220
 a146 := Tryz.isAgg220
 z146 := Tryz.sizeOf220
 v146 := Tryz.zeroValue220
 g1 := by kernel_rfl }
open Go.RowKit Go.Lib in
theorem Tryz.strings_Contains_one (s : ByteArray) (c : UInt8) (w : World) :
 Calls Tryz.prog 129 #[.string s, .string ⟨#[c]⟩] w fun e w' => e = .returned (.bool (decide (0 ≤ Lib.indexByte s.data.toList c))) ∧ w' = w := Any.strings_Contains_one Tryz.lays144 s c w
def Tryz.lays99_ren : Go.Shelf.Ren := ⟨fun | 99 => 82 | 206 => 135 | n => n, fun | 9 => 9 | 4 => 4 | 3 => 3 | n => n, fun | n => n⟩
theorem Tryz.lays99 : Go.Proofs.Lays.n99 Tryz.prog Tryz.lays99_ren := {
 mixed := by kernel_rfl
 f99 := Tryz.func82.trans (congrArg some (by kernel_rfl))
 f206 := Tryz.func135.trans (congrArg some (by kernel_rfl))
 t3 := Tryz.underlying3
 a3 := Tryz.isAgg3
 z3 := Tryz.sizeOf3
 v3 := Tryz.zeroValue3
 t4 := Tryz.underlying4
 a4 := Tryz.isAgg4
 z4 := Tryz.sizeOf4
 v4 := Tryz.zeroValue4
 t9 := Tryz.underlying9
 a9 := Tryz.isAgg9
 z9 := Tryz.sizeOf9
 v9 := Tryz.zeroValue9 }
open Go.RowKit Go.Lib in
theorem Tryz.strings_HasPrefix (s p : ByteArray) (w : World) :
 Calls Tryz.prog 82 #[.string s, .string p] w fun e w' => e = .returned (.bool (Lib.hasPrefix s.data.toList p.data.toList)) ∧ w' = w := Any.strings_HasPrefix Tryz.lays99 s p w
def Tryz.lays110_ren : Go.Shelf.Ren := ⟨fun | 110 => 130 | 109 => 163 | n => n, fun | 31 => 46 | 9 => 9 | 4 => 4 | 3 => 3 | 0 => 0 | n => n, fun | n => n⟩
theorem Tryz.lays110 : Go.Proofs.Lays.n110 Tryz.prog Tryz.lays110_ren := {
 mixed := by kernel_rfl
 f109 := Tryz.func163.trans (congrArg some (by kernel_rfl))
 f110 := Tryz.func130.trans (congrArg some (by kernel_rfl))
 t0 := Tryz.underlying0
 a0 := Tryz.isAgg0
 z0 := Tryz.sizeOf0
 v0 := Tryz.zeroValue0
 t3 := Tryz.underlying3
 a3 := Tryz.isAgg3
 z3 := Tryz.sizeOf3
 v3 := Tryz.zeroValue3
 t4 := Tryz.underlying4
 a4 := Tryz.isAgg4
 z4 := Tryz.sizeOf4
 v4 := Tryz.zeroValue4
 t9 := Tryz.underlying9
 a9 := Tryz.isAgg9
 z9 := Tryz.sizeOf9
 v9 := Tryz.zeroValue9
 t31 := Tryz.underlying46
 a31 := Tryz.isAgg46
 z31 := Tryz.sizeOf46
 v31 := Tryz.zeroValue46 }
open Go.Lib in
theorem Tryz.slices_Contains_string (b off n c : Nat) (zs : List ByteArray) (x : ByteArray) (w : World) (hz : n ≤ zs.length) (hbig : n ≤ 9223372036854775807) (hc : ∀ j, j < zs.length → w.cell? ⟨b, off + j, none⟩ = some (.string (zs.getD j ByteArray.empty))) :
 Calls Tryz.prog 130 #[.slice (some ⟨b, off, none⟩) n c, .string x] w fun e w' => e = .returned (.bool (Lib.containsS (zs.take n) x)) ∧ w' = w := Any.slices_Contains_string Tryz.lays110 b off n c zs x w hz hbig hc
end Go.Proofs
namespace Go.Proofs.YtdckddkalgnlpaaGreatDoor
open Go.RowKit
theorem setZero (w : World) : (zeroValue 151).run Tryz.prog w = .ok (.agg (Array.replicate 256 (.bool false))) w := by kernel_rfl
set_option maxRecDepth 100000 in
theorem trimLeft_any (s cs : ByteArray) (w : World) (h2 : 2 ≤ cs.size) (hcs : cs.size < 4294967281) (hascii : ∀ (j : Nat) b, cs.data.toList[j]? = some b → b.toNat < 128) :
 Calls Tryz.prog 81 #[.string s, .string cs] w fun e w' => e = .returned (.string ⟨(s.data.toList.dropWhile (cs.data.toList.contains ·)).toArray⟩) ∧ Below w.heap.size w w' := by
 by_cases h0 : 0 < s.size
 ·refine (Any.strings_TrimLeft_set Tryz.lays161 setZero (by kernel_rfl) s cs w h2 h0 hcs hascii).mono ?_
  rintro e w' ⟨rfl, rfl⟩
  exact ⟨rfl, ((Below.refl _ _).alloc (Nat.le_refl _) _).alloc (by simp) _⟩
 ·refine (Any.strings_TrimLeft_empty Tryz.lays161 s cs w (.inl (by omega))).mono ?_
  rintro e w' ⟨rfl, rfl⟩
  have h : s.data.toList = [] := List.eq_nil_of_length_eq_zero (by rw [← Lib.size_eq]; omega)
  refine ⟨?_, Below.refl _ _⟩
  rw [h]
  have : s = ⟨#[]⟩ := by rw [← Lib.mk_data s, h]
  rw [this]; rfl
theorem ret_str {a b : ByteArray} (h : a = b) : Ending.returned (.string a) = .returned (.string b) := by rw [h]
theorem bytes_eq {a b : ByteArray} (h : a.data.toList = b.data.toList) : a = b := by rw [← Lib.mk_data a, ← Lib.mk_data b, h]
theorem drop_take_while {α : Type} (p : α → Bool) (l : List α) : l.take (l.length - (l.dropWhile p).length) = l.takeWhile p := by
 have h := List.takeWhile_append_dropWhile (p := p) (l := l)
 have hl : l.length = (l.takeWhile p).length + (l.dropWhile p).length := by rw [← List.length_append, h]
 rw [hl, Nat.add_sub_cancel]
 exact take_takeWhile p l
theorem dropWhile_le {α : Type} (p : α → Bool) (l : List α) : (l.dropWhile p).length ≤ l.length := (List.dropWhile_sublist p).length_le
set_option maxHeartbeats 400000 in
theorem run_any (s cs : ByteArray) (w : World) (hs : s.size ≤ 9223372036854775807) (h2 : 2 ≤ cs.size) (hcs : cs.size < 4294967281) (hascii : ∀ (j : Nat) b, cs.data.toList[j]? = some b → b.toNat < 128) :
 Calls Tryz.prog 126 #[.string s, .string cs] w fun e w' => e = .returned (.string ⟨(s.data.toList.takeWhile (cs.data.toList.contains ·)).toArray⟩) ∧ Below w.heap.size w w' := by
 obtain ⟨D, hD⟩ : ∃ D, s.data.toList.dropWhile (cs.data.toList.contains ·) = D := ⟨_, rfl⟩
 have hle := dropWhile_le (cs.data.toList.contains ·) s.data.toList
 have htk := drop_take_while (cs.data.toList.contains ·) s.data.toList
 have hT := trimLeft_any s cs w h2 hcs hascii
 rw [hD, ← Lib.size_eq] at hle htk
 rw [hD] at hT
 have HT := Lib.hid hT
 have HK := Lib.hid htk
 clear hD hT htk hascii
 go_enter Tryz.func126, Tryz.ntmps126
 go_wp2_with (go_at_call 81; refine HT.out.mono ?_; rintro e w' ⟨rfl, hb⟩)
 go_ret
 refine ⟨ret_str (bytes_eq ?_), hb⟩
 rw [← HK.out, Lib.extract_data]
 simp
theorem indexByte_lt (l : List UInt8) (c : UInt8) : Lib.indexByte l c < l.length := by
 induction l with
 | nil => simp [Lib.indexByte]
 | cons b l ih =>
   unfold Lib.indexByte
   rw [List.length_cons]
   split
   ·omega
   ·split <;> omega
theorem skip_true_index : ∀ l : List UInt8, Lex.skip true l = if Lib.indexByte l 10 = -1 then [] else Lex.skip false (l.drop (Lib.indexByte l 10).toNat)
 | [] => by simp [Lex.skip, Lib.indexByte]
 | c :: r => by
   rw [skip_t]
   have ih := skip_true_index r
   have hge := Lib.indexByte_ge r 10
   by_cases h : c = 10
   ·subst h
    rw [if_pos (by rfl)]
    have : Lib.indexByte (10 :: r) 10 = 0 := by simp [Lib.indexByte]
    rw [this, if_neg (by omega), Int.toNat_zero, List.drop_zero, skip_f, if_pos (by rfl)]
   ·have hc : ¬ c.toNat = 10 := fun e => h (UInt8.toNat_inj.1 e)
    rw [if_neg hc, ih]
    by_cases h2 : Lib.indexByte r 10 = -1
    ·have : Lib.indexByte (c :: r) 10 = -1 := by simp [Lib.indexByte, h, h2]
     rw [if_pos h2, if_pos this]
    ·have : Lib.indexByte (c :: r) 10 = Lib.indexByte r 10 + 1 := by simp [Lib.indexByte, h, h2]
     rw [if_neg h2, this, if_neg (by omega), show (Lib.indexByte r 10 + 1).toNat = (Lib.indexByte r 10).toNat + 1 by omega, List.drop_succ_cons]
theorem spaces_contains (c : UInt8) : ([32, 9, 10, 13] : List UInt8).contains c = Lex.space c := by
 rw [Bool.eq_iff_iff, space_iff, List.contains_iff_mem]
 simp only [List.mem_cons, List.not_mem_nil, or_false, ← UInt8.toNat_inj]
 rfl
theorem skip_dropWhile : ∀ l : List UInt8, Lex.skip false l = Lex.skip false (l.dropWhile (([32, 9, 10, 13] : List UInt8).contains ·))
 | [] => rfl
 | c :: r => by
   rw [List.dropWhile_cons, spaces_contains]
   by_cases h : Lex.space c = true
   ·rw [if_pos h, skip_f, if_pos h]; exact skip_dropWhile r
   ·rw [if_neg h]
def strLen : Value → Nat | .string x => x.size | _ => 0
theorem dropWhile_head {α : Type} {p : α → Bool} {l : List α} {a : α} {r : List α} (h : l.dropWhile p = a :: r) : p a = false := by
 induction l with
 | nil => cases h
 | cons b l ih =>
   rw [List.dropWhile_cons] at h
   by_cases hb : p b = true
   ·rw [if_pos hb] at h; exact ih h
   ·rw [if_neg hb] at h; cases h; simpa using hb
theorem skip_step (l : List UInt8) (y : List UInt8) (hy : l.dropWhile (([32, 9, 10, 13] : List UInt8).contains ·) = y) :
 (Lib.hasPrefix y [35] = false ∧ Lex.skip false l = y) ∨
 (Lib.hasPrefix y [35] = true ∧ 1 ≤ y.length ∧ ((Lib.indexByte y 10 = -1 ∧ Lex.skip false l = []) ∨ (1 ≤ Lib.indexByte y 10 ∧ Lib.indexByte y 10 < y.length ∧ Lex.skip false l = Lex.skip false (y.drop (Lib.indexByte y 10).toNat)))) := by
 have h0 := skip_dropWhile l
 rw [hy] at h0
 rw [h0]
 cases y with
 | nil => exact .inl ⟨rfl, rfl⟩
 | cons c r =>
   have hns : Lex.space c = false := by
    have := dropWhile_head hy
    rwa [spaces_contains] at this
   by_cases h : c = 35
   ·subst h
    refine .inr ⟨by simp [Lib.hasPrefix], by simp, ?_⟩
    rw [skip_f, hns, if_neg (by simp), if_pos (by rfl), skip_true_index r]
    have hge := Lib.indexByte_ge r 10
    by_cases h2 : Lib.indexByte r 10 = -1
    ·have : Lib.indexByte (35 :: r) 10 = -1 := by simp [Lib.indexByte, h2]
     exact .inl ⟨this, by rw [if_pos h2]⟩
    ·have : Lib.indexByte (35 :: r) 10 = Lib.indexByte r 10 + 1 := by simp [Lib.indexByte, h2]
     refine .inr ⟨by omega, ?_, ?_⟩
     ·have hlt := indexByte_lt r 10
      rw [this, List.length_cons]; omega
     ·rw [if_neg h2, this, show (Lib.indexByte r 10 + 1).toNat = (Lib.indexByte r 10).toNat + 1 by omega, List.drop_succ_cons]
   ·refine .inl ⟨by simp only [Lib.hasPrefix, List.isPrefixOf, Bool.and_eq_false_iff]; exact .inl (beq_eq_false_iff_ne.2 fun e => h e.symm), ?_⟩
    have h35 : ¬ c.toNat = 35 := fun e => h (UInt8.toNat_inj.1 e)
    rw [skip_f, hns, if_neg (by simp), if_neg h35]
def spcs : ByteArray := ⟨#[32, 9, 10, 13]⟩
theorem spcs_ascii (j : Nat) (b : UInt8) (h : spcs.data.toList[j]? = some b) : b.toNat < 128 := by
 have := List.mem_of_getElem? h
 simp [spcs] at this
 rcases this with rfl | rfl | rfl | rfl <;> decide
set_option maxRecDepth 100000 in
set_option maxHeartbeats 1000000 in
theorem skip_any (s : ByteArray) (w : World) :
 Calls Tryz.prog 39 #[.string s] w fun e w' => e = .returned (.string ⟨(Lex.skip false s.data.toList).toArray⟩) ∧ Below w.heap.size w w' := by
 go_enter Tryz.func39, Tryz.ntmps39
 go_wp2
 go_loopw [0] (fun v wr => ∃ x : ByteArray, v = .string x ∧ x.size ≤ s.size ∧ Lex.skip false s.data.toList = Lex.skip false x.data.toList ∧ Below w.heap.size w wr) (fun v _ => strLen v)
 case atStart => exact ⟨s, rfl, Nat.le_refl _, rfl, Below.refl _ _⟩
 case round =>
  obtain ⟨x, rfl, hxs, hsk, hbel⟩ := hrel
  have HSK := Lib.hid hsk
  clear hsk
  obtain ⟨Y, hY⟩ : ∃ Y, x.data.toList.dropWhile (([32, 9, 10, 13] : List UInt8).contains ·) = Y := ⟨_, rfl⟩
  have hT : ∀ w0, Calls Tryz.prog 81 #[.string x, .string ⟨#[32, 9, 10, 13]⟩] w0 fun e w' => e = .returned (.string ⟨Y.toArray⟩) ∧ Below w0.heap.size w0 w' := by
   intro w0
   have h := trimLeft_any x spcs w0 (by decide) (by decide) spcs_ascii
   rw [← hY]
   exact h
  have hle := dropWhile_le (([32, 9, 10, 13] : List UInt8).contains ·) x.data.toList
  rw [hY, ← Lib.size_eq] at hle
  have hst := skip_step _ Y hY
  have HT := Lib.hid hT
  clear hT hY
  have hsz := hbel.size
  rcases hst with ⟨h1, h2⟩ | ⟨h1, h2, h3⟩
  ·have hP : ∀ w0, Calls Tryz.prog 82 #[.string ⟨Y.toArray⟩, .string ⟨#[35]⟩] w0 fun e w' => e = .returned (.bool false) ∧ w' = w0 := by
    intro w0
    have h := Tryz.strings_HasPrefix ⟨Y.toArray⟩ ⟨#[35]⟩ w0
    simp only [h1] at h
    exact h
   have HP := Lib.hid hP
   have H2 := Lib.hid h2
   clear hP h1 h2
   go_wp2_with (first | (go_at_call 81; refine (HT.out _).mono ?_; rintro e w1 ⟨rfl, hb⟩) | (go_at_call 82; refine (HP.out _).mono ?_; rintro e w' ⟨rfl, rfl⟩))
   go_ret
   exact ⟨ret_str (by rw [HSK.out, H2.out]), hbel.trans (hb.mono (by omega))⟩
  ·have hP : ∀ w0, Calls Tryz.prog 82 #[.string ⟨Y.toArray⟩, .string ⟨#[35]⟩] w0 fun e w' => e = .returned (.bool true) ∧ w' = w0 := by
    intro w0
    have h := Tryz.strings_HasPrefix ⟨Y.toArray⟩ ⟨#[35]⟩ w0
    simp only [h1] at h
    exact h
   have HP := Lib.hid hP
   have hY2 : (⟨Y.toArray⟩ : ByteArray).size = Y.length := by rw [Lib.size_eq]
   have HY2 := Lib.hid hY2
   clear hP h1 hY2
   rcases h3 with ⟨h4, h5⟩ | ⟨h4, h5, h6⟩
   ·have hI : ∀ w0, Calls Tryz.prog 83 #[.string ⟨Y.toArray⟩, .int .u8 10] w0 fun e w' => e = .returned (.int .i64 (-1)) ∧ w' = w0 := by
     intro w0
     have h := Tryz.strings_IndexByte ⟨Y.toArray⟩ 10 w0
     rw [← h4]
     exact h
    have HI := Lib.hid hI
    have H5 := Lib.hid h5
    clear hI h4 h5
    go_wp2_with (first | (go_at_call 81; refine (HT.out _).mono ?_; rintro e w1 ⟨rfl, hb⟩) | (go_at_call 82; refine (HP.out _).mono ?_; rintro e w' ⟨rfl, rfl⟩) | (go_at_call 83; refine (HI.out _).mono ?_; rintro e w' ⟨rfl, rfl⟩))
    go_roundw
    case rel => exact ⟨⟨#[]⟩, rfl, Nat.zero_le _, by rw [HSK.out, H5.out]; rfl, hbel.trans (hb.mono (by omega))⟩
    case measure => show (⟨#[]⟩ : ByteArray).size < x.size; rw [show (⟨#[]⟩ : ByteArray).size = 0 from rfl]; omega
   ·obtain ⟨n, hn⟩ := Int.eq_ofNat_of_zero_le (show 0 ≤ Lib.indexByte Y 10 by omega)
    rw [hn] at h4 h5 h6
    rw [Int.toNat_natCast] at h6
    have hI : ∀ w0, Calls Tryz.prog 83 #[.string ⟨Y.toArray⟩, .int .u8 10] w0 fun e w' => e = .returned (.int .i64 n) ∧ w' = w0 := by
     intro w0
     have h := Tryz.strings_IndexByte ⟨Y.toArray⟩ 10 w0
     rw [← hn]
     exact h
    have HI := Lib.hid hI
    have H6 := Lib.hid h6
    clear hI h6 hn
    go_wp2_with (first | (go_at_call 81; refine (HT.out _).mono ?_; rintro e w1 ⟨rfl, hb⟩) | (go_at_call 82; refine (HP.out _).mono ?_; rintro e w' ⟨rfl, rfl⟩) | (go_at_call 83; refine (HI.out _).mono ?_; rintro e w' ⟨rfl, rfl⟩))
    have hx : ((⟨Y.toArray⟩ : ByteArray).extract n Y.length) = ⟨(Y.drop n).toArray⟩ := by
     apply bytes_eq
     rw [Lib.extract_data]
     show (Y.drop n).take _ = Y.drop n
     exact List.take_of_length_le (by rw [List.length_drop]; omega)
    have hy : (⟨(Y.drop n).toArray⟩ : ByteArray).size = Y.length - n := by rw [Lib.size_eq]; simp
    rw [hx]
    go_roundw
    case rel => exact ⟨_, rfl, by rw [hy]; omega, by rw [HSK.out, H6.out], hbel.trans (hb.mono (by omega))⟩
    case measure => show (⟨(Y.drop n).toArray⟩ : ByteArray).size < x.size; rw [hy]; omega
end Go.Proofs.YtdckddkalgnlpaaGreatDoor
namespace Go.Proofs.YtdckddkalgnlpaaGreatDoor
theorem bl_trans : ∀ a b c : List UInt8, Op.bytesLess a b = true → Op.bytesLess b c = true → Op.bytesLess a c = true
 | _, [], _, h, _ => by simp [Op.bytesLess] at h
 | _, _ :: _, [], _, h => by simp [Op.bytesLess] at h
 | [], _ :: _, _ :: _, _, _ => by simp [Op.bytesLess]
 | x :: a, y :: b, z :: c, h1, h2 => by
   simp only [Op.bytesLess, Bool.or_eq_true, Bool.and_eq_true, decide_eq_true_eq, beq_iff_eq] at h1 h2 ⊢
   rcases h1 with h1 | ⟨rfl, h1⟩
   ·rcases h2 with h2 | ⟨rfl, _⟩
    ·exact .inl (UInt8.lt_trans h1 h2)
    ·exact .inl h1
   ·rcases h2 with h2 | ⟨rfl, h2⟩
    ·exact .inl h2
    ·exact .inr ⟨rfl, bl_trans a b c h1 h2⟩
theorem bl_irrefl : ∀ a : List UInt8, Op.bytesLess a a = false
 | [] => rfl
 | x :: a => by
   simp only [Op.bytesLess, Bool.or_eq_false_iff, decide_eq_false_iff_not, Bool.and_eq_false_iff]
   exact ⟨UInt8.lt_irrefl x, .inr (bl_irrefl a)⟩
theorem bs_inv (less : Nat → Bool) (n : Nat) (hm : ∀ a b, a ≤ b → b < n → less b = true → less a = true) : ∀ f lo hi, hi - lo ≤ f → lo ≤ hi → hi ≤ n →
 (∀ t, t < lo → less t = true) → (∀ t, hi ≤ t → t < n → less t = false) →
 Lib.bsGo less f lo hi ≤ n ∧ (∀ t, t < Lib.bsGo less f lo hi → less t = true) ∧ (∀ t, Lib.bsGo less f lo hi ≤ t → t < n → less t = false)
 | 0, lo, hi, hf, h1, h2, h3, h4 => by
   have e : lo = hi := by omega
   subst e
   exact ⟨h2, h3, h4⟩
 | f + 1, lo, hi, hf, h1, h2, h3, h4 => by
   unfold Lib.bsGo
   by_cases h : lo < hi
   ·rw [if_pos h]
    cases hl : less ((lo + hi) / 2)
    ·rw [if_neg (by simp)]
     refine bs_inv less n hm f lo _ (by omega) (by omega) (by omega) h3 fun t ht htn => ?_
     cases hx : less t
     ·rfl
     ·rw [hm _ t ht htn hx] at hl; cases hl
    ·rw [if_pos rfl]
     refine bs_inv less n hm f _ hi (by omega) (by omega) h2 (fun t ht => hm t _ (by omega) (by omega) hl) h4
   ·rw [if_neg h]
    have e : lo = hi := by omega
    subst e
    exact ⟨h2, h3, h4⟩
theorem bs_found (ls : List (List UInt8)) (hs : ∀ a b, a < b → b < ls.length → Op.bytesLess (ls.getD a []) (ls.getD b []) = true) (x : List UInt8) (I : Nat)
 (hI : I = Lib.bsGo (fun t => Op.bytesLess (ls.getD t []) x) ls.length 0 ls.length) : decide (I < ls.length ∧ ls.getD I [] = x) = ls.contains x := by
 have hmono : ∀ a b, a ≤ b → b < ls.length → (fun t => Op.bytesLess (ls.getD t []) x) b = true → (fun t => Op.bytesLess (ls.getD t []) x) a = true := by
  intro a b hab hb h
  by_cases e : a = b
  ·subst e; exact h
  ·exact bl_trans _ _ _ (hs a b (by omega) hb) h
 obtain ⟨i1, i2, i3⟩ := bs_inv _ ls.length hmono ls.length 0 ls.length (by omega) (by omega) (Nat.le_refl _) (fun t ht => by omega) (fun t h1 h2 => by omega)
 rw [← hI] at i1 i2 i3
 rw [Bool.eq_iff_iff, decide_eq_true_eq, List.contains_iff_mem]
 constructor
 ·rintro ⟨h1, h2⟩
  rw [← h2, List.getD_eq_getElem?_getD, List.getElem?_eq_getElem h1]
  exact List.getElem_mem h1
 ·intro h
  obtain ⟨k, hk, he⟩ := List.getElem_of_mem h
  have hek : ls.getD k [] = x := by rw [List.getD_eq_getElem?_getD, List.getElem?_eq_getElem hk]; exact he
  have hIk : I ≤ k := by
   apply Nat.le_of_not_lt
   intro hlt
   have := i2 k hlt
   simp only [hek, bl_irrefl] at this
   cases this
  have hlt : I < ls.length := by omega
  refine ⟨hlt, ?_⟩
  by_cases e : I = k
  ·rw [e]; exact hek
  ·have h5 := hs I k (by omega) hk
   rw [hek] at h5
   have h6 := i3 I (Nat.le_refl _) hlt
   simp only [h5] at h6
   cases h6
theorem kw_sorted : ∀ a b, a < b → b < Lex.keywords.length → Op.bytesLess (Lex.keywords.getD a []) (Lex.keywords.getD b []) = true := by
 intro a b hab hb
 have h : ∀ b, b < 24 → ∀ a, a < b → Op.bytesLess (Lex.keywords.getD a []) (Lex.keywords.getD b []) = true := by decide +kernel
 exact h b hb a hab
end Go.Proofs.YtdckddkalgnlpaaGreatDoor
namespace Go.Proofs
open Go.Shelf
def Tryz.laysNm226_ren : Go.Shelf.Ren := ⟨fun | 26 => 161 | 33 => 184 | 34 => 185 | 38 => 205 | n => n, fun | 24 => 46 | 9 => 9 | 3 => 3 | 4 => 4 | 40 => 189 | 0 => 0 | n => n, fun | n => n⟩
theorem Tryz.laysNm226 : Go.Proofs.Lays2.n26 Tryz.prog Tryz.laysNm226_ren := {
 mixed := by kernel_rfl
 f26 := Tryz.func161.trans (congrArg some (by kernel_rfl))
 f33 := Tryz.func184.trans (congrArg some (by kernel_rfl))
 f34 := Tryz.func185.trans (congrArg some (by kernel_rfl))
 f38 := Tryz.func205.trans (congrArg some (by kernel_rfl))
 t0 := Tryz.underlying0
 a0 := Tryz.isAgg0
 z0 := Tryz.sizeOf0
 v0 := Tryz.zeroValue0
 t3 := Tryz.underlying3
 a3 := Tryz.isAgg3
 z3 := Tryz.sizeOf3
 v3 := Tryz.zeroValue3
 t4 := Tryz.underlying4
 a4 := Tryz.isAgg4
 z4 := Tryz.sizeOf4
 v4 := Tryz.zeroValue4
 t9 := Tryz.underlying9
 a9 := Tryz.isAgg9
 z9 := Tryz.sizeOf9
 v9 := Tryz.zeroValue9
 t24 := Tryz.underlying46
 a24 := Tryz.isAgg46
 z24 := Tryz.sizeOf46
 v24 := Tryz.zeroValue46
 t40 := Tryz.underlying189
 a40 := Tryz.isAgg189
 z40 := Tryz.sizeOf189
 v40 := Tryz.zeroValue189 }
theorem Tryz.slices_BinarySearch_string (b off n c : Nat) (Sx : Nat → ByteArray) (x : ByteArray) (w : World) (hbig : n < 4611686018427387904) (hc : ∀ j, j < n → w.cell? ⟨b, off + j, none⟩ = some (.string (Sx j))) :
 Calls Tryz.prog 161 #[.slice (some ⟨b, off, none⟩) n c, .string x] w fun e w' =>
  e = .returned (.tuple #[.int .i64 (Lib.bsGo (fun t => Op.bytesLess (Sx t).toList x.toList) n 0 n : Nat), .bool (decide (Lib.bsGo (fun t => Op.bytesLess (Sx t).toList x.toList) n 0 n < n ∧ Sx (Lib.bsGo (fun t => Op.bytesLess (Sx t).toList x.toList) n 0 n) = x))]) ∧ ∃ q, w' = w.drewN q := Any2.slices_BinarySearch_string Tryz.laysNm226 b off n c Sx x w hbig hc
end Go.Proofs
namespace Go.Proofs.YtdckddkalgnlpaaGreatDoor
open Go.RowKit
structure LexEnv (w : World) : Prop where
 kw : ∃ b o c, w.cell? ⟨3, 0, none⟩ = some (.slice (some ⟨b, o, none⟩) 24 c) ∧ ∀ j, j < 24 → w.cell? ⟨b, o + j, none⟩ = some (.string (kwz j))
 sy : ∃ b o c, w.cell? ⟨1, 0, none⟩ = some (.slice (some ⟨b, o, none⟩) 19 c) ∧ ∀ j, j < 19 → w.cell? ⟨b, o + j, none⟩ = some (.string (syz j))
 er : ∃ te pe, w.cell? ⟨6, 0, none⟩ = some (.iface te pe)
theorem cell_keep {w w' : World} (hb : Below w.heap.size w w') {a : Addr} {v : Value} (h : w.cell? a = some v) : w'.cell? a = some v := by
 rw [hb.cell (World.block_lt_of_cell? w a h)]; exact h
theorem LexEnv.keep {w w' : World} (h : LexEnv w) (hb : Below w.heap.size w w') : LexEnv w' := by
 obtain ⟨⟨b1, o1, c1, h1, k1⟩, ⟨b2, o2, c2, h2, k2⟩, te, pe, h3⟩ := h
 exact ⟨⟨b1, o1, c1, cell_keep hb h1, fun j hj => cell_keep hb (k1 j hj)⟩, ⟨b2, o2, c2, cell_keep hb h2, fun j hj => cell_keep hb (k2 j hj)⟩, te, pe, cell_keep hb h3⟩
def kwB (l : List UInt8) : Bool := Lex.keywords.contains l
def syB (l : List UInt8) : Bool := Lex.symbols.contains l
theorem toList_mk (l : List UInt8) : (⟨l.toArray⟩ : ByteArray).toList = l := by rw [Lib.toList_data]
set_option maxHeartbeats 400000 in
theorem isKeyword_any (x : ByteArray) (w : World) (hE : LexEnv w) :
 Calls Tryz.prog 128 #[.string x] w fun e w' => e = .returned (.bool (kwB x.data.toList)) ∧ Below w.heap.size w w' := by
 obtain ⟨b, o, c, h1, h2⟩ := hE.kw
 have hB : ∀ w0, (∀ j, j < 24 → w0.cell? ⟨b, o + j, none⟩ = some (.string (kwz j))) → Calls Tryz.prog 161 #[.slice (some ⟨b, o, none⟩) 24 c, .string x] w0 fun e w' =>
  ∃ I : Int, e = .returned (.tuple #[.int .i64 I, .bool (kwB x.data.toList)]) ∧ Below w0.heap.size w0 w' := by
  intro w0 h
  refine (Tryz.slices_BinarySearch_string b o 24 c kwz x w0 (by omega) h).mono ?_
  rintro e w' ⟨rfl, q, rfl⟩
  refine ⟨((Lib.bsGo (fun t => Op.bytesLess (kwz t).toList x.toList) 24 0 24 : Nat) : Int), ?_, below_drewN (Below.refl _ _) q⟩
  have hI : Lib.bsGo (fun t => Op.bytesLess (kwz t).toList x.toList) 24 0 24 = Lib.bsGo (fun t => Op.bytesLess (Lex.keywords.getD t []) x.data.toList) Lex.keywords.length 0 Lex.keywords.length := by
   congr 1
   funext t
   unfold kwz
   rw [toList_mk, Lib.toList_data]
  have hf := bs_found Lex.keywords kw_sorted x.data.toList _ hI
  unfold kwB
  rw [← hf]
  congr 3
  have hx : ∀ I, (kwz I = x) = (Lex.keywords.getD I [] = x.data.toList) := by
   intro I
   apply propext
   unfold kwz
   constructor
   ·intro e; rw [← e]
   ·intro e; apply bytes_eq; exact e
  simp only [hx]
  rfl
 have HB := Lib.hid hB
 have H2 := Lib.hid h2
 clear hB h2 hE
 go_enter Tryz.func128, Tryz.ntmps128
 go_wp2_with (go_at_call 161; refine (HB.out _ H2.out).mono ?_; rintro e w' ⟨I, rfl, hb⟩)
 go_ret
 exact ⟨rfl, hb⟩
def wordSet : List UInt8 := [97, 98, 99, 100, 101, 102, 103, 104, 105, 106, 107, 108, 109, 110, 111, 112, 113, 114, 115, 116, 117, 118, 119, 120, 121, 122, 65, 66, 67, 68, 69, 70, 71, 72, 73, 74, 75, 76, 77, 78, 79, 80, 81, 82, 83, 84, 85, 86, 87, 88, 89, 90, 48, 49, 50, 51, 52, 53, 54, 55, 56, 57, 95]
def digitSet : List UInt8 := [48, 49, 50, 51, 52, 53, 54, 55, 56, 57]
def tailSet : List UInt8 := [97, 98, 99, 100, 101, 102, 103, 104, 105, 106, 107, 108, 109, 110, 111, 112, 113, 114, 115, 116, 117, 118, 119, 120, 121, 122, 65, 66, 67, 68, 69, 70, 71, 72, 73, 74, 75, 76, 77, 78, 79, 80, 81, 82, 83, 84, 85, 86, 87, 88, 89, 90, 95]
def upperSet : List UInt8 := [65, 66, 67, 68, 69, 70, 71, 72, 73, 74, 75, 76, 77, 78, 79, 80, 81, 82, 83, 84, 85, 86, 87, 88, 89, 90]
theorem all_bytes {p : UInt8 → Prop} (h : ∀ n, n < 256 → p (UInt8.ofNat n)) (c : UInt8) : p c := by
 have := h c.toNat c.toNat_lt
 rwa [UInt8.ofNat_toNat] at this
theorem wordSet_contains (c : UInt8) : wordSet.contains c = Lex.wordc c := by
 revert c; apply all_bytes; decide +kernel
theorem digitSet_contains (c : UInt8) : digitSet.contains c = Lex.digit c := by
 revert c; apply all_bytes; decide +kernel
theorem tailSet_contains (c : UInt8) : tailSet.contains c = Lex.tailc c := by
 revert c; apply all_bytes; decide +kernel
theorem upper_index (c : UInt8) : Lex.letter c = true → decide (0 ≤ Lib.indexByte upperSet c) = decide (c.toNat ≤ 90) := by
 revert c; apply all_bytes; decide +kernel
theorem set_ascii (l : List UInt8) (h : ∀ b ∈ l, b.toNat < 128) (j : Nat) (b : UInt8) (hj : l[j]? = some b) : b.toNat < 128 := h b (List.mem_of_getElem? hj)
theorem run_set (s : ByteArray) (l : List UInt8) (p : UInt8 → Bool) (hp : ∀ c, l.contains c = p c) (ha : ∀ b ∈ l, b.toNat < 128) (h2 : 2 ≤ l.length) (h3 : l.length < 4294967281) (w : World) (hs : s.size ≤ 9223372036854775807) :
 Calls Tryz.prog 126 #[.string s, .string ⟨l.toArray⟩] w fun e w' => e = .returned (.string ⟨(s.data.toList.takeWhile p).toArray⟩) ∧ Below w.heap.size w w' := by
 have h := run_any s ⟨l.toArray⟩ w hs (by rw [Lib.size_eq]; exact h2) (by rw [Lib.size_eq]; exact h3) (fun j b hj => set_ascii l ha j b hj)
 have e : (fun x => List.contains (⟨l.toArray⟩ : ByteArray).data.toList x) = p := by funext c; exact hp c
 rw [e] at h
 exact h
theorem run_word (s : ByteArray) (w : World) (hs : s.size ≤ 9223372036854775807) :
 Calls Tryz.prog 126 #[.string s, .string ⟨#[97, 98, 99, 100, 101, 102, 103, 104, 105, 106, 107, 108, 109, 110, 111, 112, 113, 114, 115, 116, 117, 118, 119, 120, 121, 122, 65, 66, 67, 68, 69, 70, 71, 72, 73, 74, 75, 76, 77, 78, 79, 80, 81, 82, 83, 84, 85, 86, 87, 88, 89, 90, 48, 49, 50, 51, 52, 53, 54, 55, 56, 57, 95]⟩] w fun e w' => e = .returned (.string ⟨(s.data.toList.takeWhile Lex.wordc).toArray⟩) ∧ Below w.heap.size w w' :=
 run_set s wordSet Lex.wordc wordSet_contains (by decide) (by decide) (by decide) w hs
theorem run_digit (s : ByteArray) (w : World) (hs : s.size ≤ 9223372036854775807) :
 Calls Tryz.prog 126 #[.string s, .string ⟨#[48, 49, 50, 51, 52, 53, 54, 55, 56, 57]⟩] w fun e w' => e = .returned (.string ⟨(s.data.toList.takeWhile Lex.digit).toArray⟩) ∧ Below w.heap.size w w' :=
 run_set s digitSet Lex.digit digitSet_contains (by decide) (by decide) (by decide) w hs
theorem run_tail (s : ByteArray) (w : World) (hs : s.size ≤ 9223372036854775807) :
 Calls Tryz.prog 126 #[.string s, .string ⟨#[97, 98, 99, 100, 101, 102, 103, 104, 105, 106, 107, 108, 109, 110, 111, 112, 113, 114, 115, 116, 117, 118, 119, 120, 121, 122, 65, 66, 67, 68, 69, 70, 71, 72, 73, 74, 75, 76, 77, 78, 79, 80, 81, 82, 83, 84, 85, 86, 87, 88, 89, 90, 95]⟩] w fun e w' => e = .returned (.string ⟨(s.data.toList.takeWhile Lex.tailc).toArray⟩) ∧ Below w.heap.size w w' :=
 run_set s tailSet Lex.tailc tailSet_contains (by decide) (by decide) (by decide) w hs
end Go.Proofs.YtdckddkalgnlpaaGreatDoor
