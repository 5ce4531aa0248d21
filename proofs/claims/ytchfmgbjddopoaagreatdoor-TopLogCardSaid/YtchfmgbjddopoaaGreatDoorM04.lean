import Derived.Shelf.Strings.BuilderX
import Derived.Shelf.Lays
import Derived.Shelf.Strings.Builder1
import Derived.Shelf.Small.Bits
import Derived.Shelf.Small.Strs
import Derived.Shelf.Small.Wraps
import Derived.Shelf.Strconv.Atoi
import Derived.Shelf.Strconv.Itoa3
import Derived.Shelf.Strconv.Itoa4
import Derived.Shelf.LaysC
import Derived.Shelf.Strconv.ParseIntPublic10
import Derived.Shelf.Strings.Cut
import Derived.Shelf.Strings.Prefix
import Derived.Shelf.Strings.Split
import Derived.Test.YtchfmgbjddopoaaGreatDoorProg
import Derived.Test.YtchfmgbjddopoaaGreatDoorM03
set_option linter.unusedVariables false
set_option linter.unusedSimpArgs false
set_option maxHeartbeats 6400000
set_option maxRecDepth 100000
namespace Go.Proofs
open Go.Shelf
def Tryz.lays169_ren : Go.Shelf.Ren := ⟨fun | 169 => 64 | n => n, fun | 70 => 135 | 9 => 9 | 0 => 0 | 72 => 137 | 37 => 39 | 127 => 198 | 3 => 3 | 5 => 5 | n => n, fun | n => n⟩
theorem Tryz.lays169 : Go.Proofs.Lays.n169 Tryz.prog Tryz.lays169_ren := {
 mixed := by kernel_rfl
 f169 := Tryz.func64.trans (congrArg some (by kernel_rfl))
 t0 := Tryz.underlying0
 a0 := Tryz.isAgg0
 z0 := Tryz.sizeOf0
 v0 := Tryz.zeroValue0
 t3 := Tryz.underlying3
 a3 := Tryz.isAgg3
 z3 := Tryz.sizeOf3
 v3 := Tryz.zeroValue3
 t9 := Tryz.underlying9
 a9 := Tryz.isAgg9
 z9 := Tryz.sizeOf9
 v9 := Tryz.zeroValue9
 t37 := Tryz.underlying39
 a37 := Tryz.isAgg39
 z37 := Tryz.sizeOf39
 v37 := Tryz.zeroValue39
 t70 := Tryz.underlying135
 a70 := Tryz.isAgg135
 z70 := Tryz.sizeOf135
 v70 := Tryz.zeroValue135
 t72 := Tryz.underlying137
 a72 := Tryz.isAgg137
 z72 := Tryz.sizeOf137
 v72 := Tryz.zeroValue137
 t127 := Tryz.underlying198
 a127 := Tryz.isAgg198
 z127 := Tryz.sizeOf198
 v127 := Tryz.zeroValue198 }
theorem Tryz.Builder_Extra_169 : Builder.Extra Tryz.prog Tryz.lays169_ren := {
 sizeBuilder := by kernel_rfl
 liesBuilder := by kernel_rfl
 t5 := Tryz.underlying5
 a5 := Tryz.isAgg5
 z5 := Tryz.sizeOf5
 v5 := Tryz.zeroValue5
 infoByte := by kernel_rfl
 cellsByte := by kernel_rfl
 sizeByte := by kernel_rfl
 neB5 := by decide }
def Tryz.Qg : Go.Shelf.Ren := ⟨fun | 160 => 142 | 232 => 195 | 231 => 194 | 227 => 196 | 234 => 198 | 233 => 197 | 236 => 200 | 235 => 199 | 228 => 246 | 271 => 248 | 151 => 247 | 197 => 189 | 120 => 284 | 152 => 283 | 260 => 239 | 137 => 203 | 119 => 301 | 224 => 242 | 225 => 241 | 217 => 240 | 266 => 281 | n => n, fun | 9 => 9 | 4 => 4 | 3 => 3 | 5 => 5 | 117 => 284 | 116 => 283 | 0 => 0 | 124 => 287 | 21 => 21 | 105 => 278 | 46 => 153 | 119 => 348 | 139 => 351 | 138 => 350 | n => n, fun | 3 => 1 | 4 => 2 | n => n⟩
theorem Tryz.lays160 : Go.Proofs.Lays.n160 Tryz.prog Tryz.Qg := {
 mixed := by kernel_rfl
 f119 := Tryz.func301.trans (congrArg some (by kernel_rfl))
 f120 := Tryz.func284.trans (congrArg some (by kernel_rfl))
 f137 := Tryz.func203.trans (congrArg some (by kernel_rfl))
 f151 := Tryz.func247.trans (congrArg some (by kernel_rfl))
 f152 := Tryz.func283.trans (congrArg some (by kernel_rfl))
 f160 := Tryz.func142.trans (congrArg some (by kernel_rfl))
 f197 := Tryz.func189.trans (congrArg some (by kernel_rfl))
 f217 := Tryz.func240.trans (congrArg some (by kernel_rfl))
 f224 := Tryz.func242.trans (congrArg some (by kernel_rfl))
 f225 := Tryz.func241.trans (congrArg some (by kernel_rfl))
 f227 := Tryz.func196.trans (congrArg some (by kernel_rfl))
 f228 := Tryz.func246.trans (congrArg some (by kernel_rfl))
 f231 := Tryz.func194.trans (congrArg some (by kernel_rfl))
 f232 := Tryz.func195.trans (congrArg some (by kernel_rfl))
 f233 := Tryz.func197.trans (congrArg some (by kernel_rfl))
 f234 := Tryz.func198.trans (congrArg some (by kernel_rfl))
 f235 := Tryz.func199.trans (congrArg some (by kernel_rfl))
 f236 := Tryz.func200.trans (congrArg some (by kernel_rfl))
 f260 := Tryz.func239.trans (congrArg some (by kernel_rfl))
 f266 := Tryz.func281.trans (congrArg some (by kernel_rfl))
 f271 := Tryz.func248.trans (congrArg some (by kernel_rfl))
 t0 := Tryz.underlying0
 a0 := Tryz.isAgg0
 z0 := Tryz.sizeOf0
 v0 := Tryz.zeroValue0
 t3 := Tryz.underlying3
 a3 := Tryz.isAgg3
 z3 := Tryz.sizeOf3
 v3 := Tryz.zeroValue3
 t4 := Tryz.underlying4
 a4 := Tryz.isAgg4
 z4 := Tryz.sizeOf4
 v4 := Tryz.zeroValue4
 t5 := Tryz.underlying5
 a5 := Tryz.isAgg5
 z5 := Tryz.sizeOf5
 v5 := Tryz.zeroValue5
 t9 := Tryz.underlying9
 a9 := Tryz.isAgg9
 z9 := Tryz.sizeOf9
 v9 := Tryz.zeroValue9
 t21 := Tryz.underlying21
 a21 := Tryz.isAgg21
 z21 := Tryz.sizeOf21
 v21 := Tryz.zeroValue21
 t46 := Tryz.underlying153
 a46 := Tryz.isAgg153
 z46 := Tryz.sizeOf153
 v46 := Tryz.zeroValue153
 t105 := Tryz.underlying278
 a105 := Tryz.isAgg278
 z105 := Tryz.sizeOf278
 v105 := Tryz.zeroValue278
 t116 := Tryz.underlying283
 a116 := Tryz.isAgg283
 z116 := Tryz.sizeOf283
 t117 := Tryz.underlying284
 a117 := Tryz.isAgg284
 z117 := Tryz.sizeOf284
 v117 := Tryz.zeroValue284
 t119 := Tryz.underlying348
 a119 := Tryz.isAgg348
 z119 := Tryz.sizeOf348
 t124 := Tryz.underlying287
 a124 := Tryz.isAgg287
 z124 := Tryz.sizeOf287
 v124 := Tryz.zeroValue287
 t138 := Tryz.underlying350
 a138 := Tryz.isAgg350
 z138 := Tryz.sizeOf350
 v138 := Tryz.zeroValue350
 t139 := Tryz.underlying351
 a139 := Tryz.isAgg351
 z139 := Tryz.sizeOf351
 v139 := Tryz.zeroValue351
 g3 := by kernel_rfl
 g4 := by kernel_rfl }
def Tryz.Qj : Go.Shelf.Ren := ⟨fun | 125 => 182 | 128 => 236 | 129 => 237 | n => n, fun | 46 => 153 | 3 => 3 | 51 => 148 | 53 => 81 | 4 => 4 | 5 => 5 | 9 => 9 | n => n, fun | n => n⟩
theorem Tryz.lays125 : Go.Proofs.Lays.n125 Tryz.prog Tryz.Qj := {
 mixed := by kernel_rfl
 f125 := Tryz.func182.trans (congrArg some (by kernel_rfl))
 f128 := Tryz.func236.trans (congrArg some (by kernel_rfl))
 f129 := Tryz.func237.trans (congrArg some (by kernel_rfl))
 t3 := Tryz.underlying3
 a3 := Tryz.isAgg3
 z3 := Tryz.sizeOf3
 v3 := Tryz.zeroValue3
 t4 := Tryz.underlying4
 a4 := Tryz.isAgg4
 z4 := Tryz.sizeOf4
 v4 := Tryz.zeroValue4
 t5 := Tryz.underlying5
 a5 := Tryz.isAgg5
 z5 := Tryz.sizeOf5
 v5 := Tryz.zeroValue5
 t9 := Tryz.underlying9
 a9 := Tryz.isAgg9
 z9 := Tryz.sizeOf9
 v9 := Tryz.zeroValue9
 t46 := Tryz.underlying153
 a46 := Tryz.isAgg153
 z46 := Tryz.sizeOf153
 v46 := Tryz.zeroValue153
 t51 := Tryz.underlying148
 a51 := Tryz.isAgg148
 z51 := Tryz.sizeOf148
 v51 := Tryz.zeroValue148
 t53 := Tryz.underlying81
 a53 := Tryz.isAgg81
 z53 := Tryz.sizeOf81
 v53 := Tryz.zeroValue81 }
theorem Tryz.bits_Len (x : Int) (w : World) (h0 : 0 ≤ x) (h1 : x ≤ 18446744073709551615) :
 Calls Tryz.prog 182 #[.int .u64 x] w fun e w' => e = .returned (.int .i64 (Lib.bitLen x.toNat)) ∧ w' = w := Any.bits_Len Tryz.lays125 x w h0 h1
def Tryz.Qi : Go.Shelf.Ren := ⟨fun | 137 => 203 | 217 => 240 | 266 => 281 | n => n, fun | 9 => 9 | 5 => 5 | 3 => 3 | n => n, fun | n => n⟩
theorem Tryz.lays137 : Go.Proofs.Lays.n137 Tryz.prog Tryz.Qi := {
 mixed := by kernel_rfl
 f137 := Tryz.func203.trans (congrArg some (by kernel_rfl))
 f217 := Tryz.func240.trans (congrArg some (by kernel_rfl))
 f266 := Tryz.func281.trans (congrArg some (by kernel_rfl))
 t3 := Tryz.underlying3
 a3 := Tryz.isAgg3
 z3 := Tryz.sizeOf3
 v3 := Tryz.zeroValue3
 t5 := Tryz.underlying5
 a5 := Tryz.isAgg5
 z5 := Tryz.sizeOf5
 v5 := Tryz.zeroValue5
 t9 := Tryz.underlying9
 a9 := Tryz.isAgg9
 z9 := Tryz.sizeOf9
 v9 := Tryz.zeroValue9 }
open Go.RowKit in
theorem Tryz.strings_IndexByte (s : ByteArray) (c : Int) (w : World) :
 Calls Tryz.prog 203 #[.string s, .int .u8 c] w fun e w' => e = .returned (.int .i64 (Lib.indexByte s.data.toList c.toNat.toUInt8)) ∧ w' = w := Any.strings_IndexByte Tryz.lays137 s c w
def Tryz.Qk : Go.Shelf.Ren := ⟨fun | 103 => 271 | 210 => 298 | 206 => 245 | n => n, fun | 9 => 9 | 4 => 4 | 24 => 289 | 3 => 3 | n => n, fun | n => n⟩
theorem Tryz.X7 : Go.Proofs.Lays.n103 Tryz.prog Tryz.Qk := {
 mixed := by kernel_rfl
 f103 := Tryz.func271.trans (congrArg some (by kernel_rfl))
 f206 := Tryz.func245.trans (congrArg some (by kernel_rfl))
 f210 := Tryz.func298.trans (congrArg some (by kernel_rfl))
 t3 := Tryz.underlying3
 a3 := Tryz.isAgg3
 z3 := Tryz.sizeOf3
 v3 := Tryz.zeroValue3
 t4 := Tryz.underlying4
 a4 := Tryz.isAgg4
 z4 := Tryz.sizeOf4
 v4 := Tryz.zeroValue4
 t9 := Tryz.underlying9
 a9 := Tryz.isAgg9
 z9 := Tryz.sizeOf9
 v9 := Tryz.zeroValue9
 t24 := Tryz.underlying289
 a24 := Tryz.isAgg289
 z24 := Tryz.sizeOf289
 v24 := Tryz.zeroValue289 }
open Go.RowKit in
theorem Tryz.strings_CutPrefix (s p : ByteArray) (w : World) :
 Calls Tryz.prog 271 #[.string s, .string p] w fun e w' => e = .returned (.tuple #[.string ⟨(Lib.trimPrefix s.data.toList p.data.toList).toArray⟩, .bool (Lib.hasPrefix s.data.toList p.data.toList)]) ∧ w' = w := Any.strings_CutPrefix Tryz.X7 s p w
def Tryz.Qd : Go.Shelf.Ren := ⟨fun | 172 => 272 | 244 => 299 | 245 => 202 | 247 => 201 | 279 => 250 | 280 => 251 | 281 => 252 | 282 => 253 | 287 => 249 | 316 => 287 | 171 => 192 | 205 => 288 | 321 => 285 | 322 => 286 | 243 => 244 | 246 => 209 | 283 => 260 | 284 => 261 | 285 => 262 | 286 => 263 | 129 => 237 | 317 => 294 | 318 => 295 | 319 => 296 | 320 => 297 | 337 => 304 | 338 => 305 | n => n, fun | 9 => 9 | 3 => 3 | 75 => 139 | 76 => 140 | 4 => 4 | 5 => 5 | 167 => 323 | 37 => 39 | 0 => 0 | 85 => 221 | 2 => 2 | 168 => 326 | 53 => 81 | 175 => 324 | 46 => 153 | 210 => 357 | 127 => 198 | 145 => 372 | 143 => 370 | 21 => 21 | 171 => 335 | 173 => 337 | 212 => 364 | 51 => 148 | 20 => 20 | 213 => 365 | 232 => 380 | 233 => 381 | 80 => 142 | n => n, fun | 15 => 3 | 16 => 4 | 17 => 5 | 18 => 6 | 19 => 7 | n => n⟩
theorem Tryz.lays172 : Go.Proofs.Lays.n172 Tryz.prog Tryz.Qd := {
 mixed := by kernel_rfl
 f129 := Tryz.func237.trans (congrArg some (by kernel_rfl))
 f171 := Tryz.func192.trans (congrArg some (by kernel_rfl))
 f172 := Tryz.func272.trans (congrArg some (by kernel_rfl))
 f205 := Tryz.func288.trans (congrArg some (by kernel_rfl))
 f243 := Tryz.func244.trans (congrArg some (by kernel_rfl))
 f244 := Tryz.func299.trans (congrArg some (by kernel_rfl))
 f245 := Tryz.func202.trans (congrArg some (by kernel_rfl))
 f246 := Tryz.func209.trans (congrArg some (by kernel_rfl))
 f247 := Tryz.func201.trans (congrArg some (by kernel_rfl))
 f279 := Tryz.func250.trans (congrArg some (by kernel_rfl))
 f280 := Tryz.func251.trans (congrArg some (by kernel_rfl))
 f281 := Tryz.func252.trans (congrArg some (by kernel_rfl))
 f282 := Tryz.func253.trans (congrArg some (by kernel_rfl))
 f283 := Tryz.func260.trans (congrArg some (by kernel_rfl))
 f284 := Tryz.func261.trans (congrArg some (by kernel_rfl))
 f285 := Tryz.func262.trans (congrArg some (by kernel_rfl))
 f286 := Tryz.func263.trans (congrArg some (by kernel_rfl))
 f287 := Tryz.func249.trans (congrArg some (by kernel_rfl))
 f316 := Tryz.func287.trans (congrArg some (by kernel_rfl))
 f317 := Tryz.func294.trans (congrArg some (by kernel_rfl))
 f318 := Tryz.func295.trans (congrArg some (by kernel_rfl))
 f319 := Tryz.func296.trans (congrArg some (by kernel_rfl))
 f320 := Tryz.func297.trans (congrArg some (by kernel_rfl))
 f321 := Tryz.func285.trans (congrArg some (by kernel_rfl))
 f322 := Tryz.func286.trans (congrArg some (by kernel_rfl))
 f337 := Tryz.func304.trans (congrArg some (by kernel_rfl))
 f338 := Tryz.func305.trans (congrArg some (by kernel_rfl))
 t0 := Tryz.underlying0
 a0 := Tryz.isAgg0
 z0 := Tryz.sizeOf0
 v0 := Tryz.zeroValue0
 t2 := Tryz.underlying2
 a2 := Tryz.isAgg2
 z2 := Tryz.sizeOf2
 v2 := Tryz.zeroValue2
 t3 := Tryz.underlying3
 a3 := Tryz.isAgg3
 z3 := Tryz.sizeOf3
 v3 := Tryz.zeroValue3
 t4 := Tryz.underlying4
 a4 := Tryz.isAgg4
 z4 := Tryz.sizeOf4
 v4 := Tryz.zeroValue4
 t5 := Tryz.underlying5
 a5 := Tryz.isAgg5
 z5 := Tryz.sizeOf5
 v5 := Tryz.zeroValue5
 t9 := Tryz.underlying9
 a9 := Tryz.isAgg9
 z9 := Tryz.sizeOf9
 v9 := Tryz.zeroValue9
 t20 := Tryz.underlying20
 a20 := Tryz.isAgg20
 z20 := Tryz.sizeOf20
 v20 := Tryz.zeroValue20
 t21 := Tryz.underlying21
 a21 := Tryz.isAgg21
 z21 := Tryz.sizeOf21
 v21 := Tryz.zeroValue21
 t37 := Tryz.underlying39
 a37 := Tryz.isAgg39
 z37 := Tryz.sizeOf39
 v37 := Tryz.zeroValue39
 t46 := Tryz.underlying153
 a46 := Tryz.isAgg153
 z46 := Tryz.sizeOf153
 v46 := Tryz.zeroValue153
 t51 := Tryz.underlying148
 a51 := Tryz.isAgg148
 z51 := Tryz.sizeOf148
 v51 := Tryz.zeroValue148
 t53 := Tryz.underlying81
 a53 := Tryz.isAgg81
 z53 := Tryz.sizeOf81
 v53 := Tryz.zeroValue81
 t75 := Tryz.underlying139
 a75 := Tryz.isAgg139
 z75 := Tryz.sizeOf139
 v75 := Tryz.zeroValue139
 t76 := Tryz.underlying140
 a76 := Tryz.isAgg140
 z76 := Tryz.sizeOf140
 v76 := Tryz.zeroValue140
 t85 := Tryz.underlying221
 a85 := Tryz.isAgg221
 z85 := Tryz.sizeOf221
 v85 := Tryz.zeroValue221
 t127 := Tryz.underlying198
 a127 := Tryz.isAgg198
 z127 := Tryz.sizeOf198
 v127 := Tryz.zeroValue198
 t143 := Tryz.underlying370
 a143 := Tryz.isAgg370
 z143 := Tryz.sizeOf370
 v143 := Tryz.zeroValue370
 t145 := Tryz.underlying372
 a145 := Tryz.isAgg372
 z145 := Tryz.sizeOf372
 v145 := Tryz.zeroValue372
 t167 := Tryz.underlying323
 a167 := Tryz.isAgg323
 z167 := Tryz.sizeOf323
 v167 := Tryz.zeroValue323
 t168 := Tryz.underlying326
 a168 := Tryz.isAgg326
 z168 := Tryz.sizeOf326
 v168 := Tryz.zeroValue326
 t171 := Tryz.underlying335
 a171 := Tryz.isAgg335
 z171 := Tryz.sizeOf335
 v171 := Tryz.zeroValue335
 t173 := Tryz.underlying337
 a173 := Tryz.isAgg337
 z173 := Tryz.sizeOf337
 v173 := Tryz.zeroValue337
 t175 := Tryz.underlying324
 a175 := Tryz.isAgg324
 z175 := Tryz.sizeOf324
 v175 := Tryz.zeroValue324
 t210 := Tryz.underlying357
 a210 := Tryz.isAgg357
 z210 := Tryz.sizeOf357
 v210 := Tryz.zeroValue357
 t212 := Tryz.underlying364
 a212 := Tryz.isAgg364
 z212 := Tryz.sizeOf364
 v212 := Tryz.zeroValue364
 t213 := Tryz.underlying365
 a213 := Tryz.isAgg365
 z213 := Tryz.sizeOf365
 t232 := Tryz.underlying380
 a232 := Tryz.isAgg380
 z232 := Tryz.sizeOf380
 v232 := Tryz.zeroValue380
 t233 := Tryz.underlying381
 a233 := Tryz.isAgg381
 z233 := Tryz.sizeOf381
 v233 := Tryz.zeroValue381
 g15 := by kernel_rfl
 g16 := by kernel_rfl
 g17 := by kernel_rfl
 g18 := by kernel_rfl
 g19 := by kernel_rfl }
open Go.RowKit in
theorem Tryz.strconv_Atoi (s : ByteArray) (n : Int) (hl : s.size ≤ 18) (h : Lib.atoi s.data.toList = some n) (w : World) :
 Calls Tryz.prog 272 #[.string s] w fun e w' => e = .returned (.tuple #[.int .i64 n, .nilIface]) ∧ ∃ t, w' = Lib.bytesWorld w 5 t := Any.strconv_Atoi Tryz.lays172 s n hl h w
def Tryz.Qe : Go.Shelf.Ren := ⟨fun | 171 => 192 | 243 => 244 | 246 => 209 | 283 => 260 | 284 => 261 | 285 => 262 | 286 => 263 | 129 => 237 | 317 => 294 | 318 => 295 | 319 => 296 | 320 => 297 | 337 => 304 | 338 => 305 | n => n, fun | 3 => 3 | 9 => 9 | 2 => 2 | 4 => 4 | 171 => 335 | 0 => 0 | 53 => 81 | 37 => 39 | 5 => 5 | 173 => 337 | 212 => 364 | 51 => 148 | 20 => 20 | 213 => 365 | 46 => 153 | 232 => 380 | 233 => 381 | n => n, fun | 17 => 5 | 18 => 6 | 19 => 7 | n => n⟩
theorem Tryz.lays171 : Go.Proofs.Lays.n171 Tryz.prog Tryz.Qe := {
 mixed := by kernel_rfl
 f129 := Tryz.func237.trans (congrArg some (by kernel_rfl))
 f171 := Tryz.func192.trans (congrArg some (by kernel_rfl))
 f243 := Tryz.func244.trans (congrArg some (by kernel_rfl))
 f246 := Tryz.func209.trans (congrArg some (by kernel_rfl))
 f283 := Tryz.func260.trans (congrArg some (by kernel_rfl))
 f284 := Tryz.func261.trans (congrArg some (by kernel_rfl))
 f285 := Tryz.func262.trans (congrArg some (by kernel_rfl))
 f286 := Tryz.func263.trans (congrArg some (by kernel_rfl))
 f317 := Tryz.func294.trans (congrArg some (by kernel_rfl))
 f318 := Tryz.func295.trans (congrArg some (by kernel_rfl))
 f319 := Tryz.func296.trans (congrArg some (by kernel_rfl))
 f320 := Tryz.func297.trans (congrArg some (by kernel_rfl))
 f337 := Tryz.func304.trans (congrArg some (by kernel_rfl))
 f338 := Tryz.func305.trans (congrArg some (by kernel_rfl))
 t0 := Tryz.underlying0
 a0 := Tryz.isAgg0
 z0 := Tryz.sizeOf0
 v0 := Tryz.zeroValue0
 t2 := Tryz.underlying2
 a2 := Tryz.isAgg2
 z2 := Tryz.sizeOf2
 v2 := Tryz.zeroValue2
 t3 := Tryz.underlying3
 a3 := Tryz.isAgg3
 z3 := Tryz.sizeOf3
 v3 := Tryz.zeroValue3
 t4 := Tryz.underlying4
 a4 := Tryz.isAgg4
 z4 := Tryz.sizeOf4
 v4 := Tryz.zeroValue4
 t5 := Tryz.underlying5
 a5 := Tryz.isAgg5
 z5 := Tryz.sizeOf5
 v5 := Tryz.zeroValue5
 t9 := Tryz.underlying9
 a9 := Tryz.isAgg9
 z9 := Tryz.sizeOf9
 v9 := Tryz.zeroValue9
 t20 := Tryz.underlying20
 a20 := Tryz.isAgg20
 z20 := Tryz.sizeOf20
 v20 := Tryz.zeroValue20
 t37 := Tryz.underlying39
 a37 := Tryz.isAgg39
 z37 := Tryz.sizeOf39
 v37 := Tryz.zeroValue39
 t46 := Tryz.underlying153
 a46 := Tryz.isAgg153
 z46 := Tryz.sizeOf153
 v46 := Tryz.zeroValue153
 t51 := Tryz.underlying148
 a51 := Tryz.isAgg148
 z51 := Tryz.sizeOf148
 v51 := Tryz.zeroValue148
 t53 := Tryz.underlying81
 a53 := Tryz.isAgg81
 z53 := Tryz.sizeOf81
 v53 := Tryz.zeroValue81
 t171 := Tryz.underlying335
 a171 := Tryz.isAgg335
 z171 := Tryz.sizeOf335
 v171 := Tryz.zeroValue335
 t173 := Tryz.underlying337
 a173 := Tryz.isAgg337
 z173 := Tryz.sizeOf337
 v173 := Tryz.zeroValue337
 t212 := Tryz.underlying364
 a212 := Tryz.isAgg364
 z212 := Tryz.sizeOf364
 v212 := Tryz.zeroValue364
 t213 := Tryz.underlying365
 a213 := Tryz.isAgg365
 z213 := Tryz.sizeOf365
 t232 := Tryz.underlying380
 a232 := Tryz.isAgg380
 z232 := Tryz.sizeOf380
 v232 := Tryz.zeroValue380
 t233 := Tryz.underlying381
 a233 := Tryz.isAgg381
 z233 := Tryz.sizeOf381
 v233 := Tryz.zeroValue381
 g17 := by kernel_rfl
 g18 := by kernel_rfl
 g19 := by kernel_rfl }
open Go.RowKit Go.Sort Go.Lib in
theorem Tryz.strconv_Itoa_small (i : Nat) (hi : i < 100) (w : World) :
 Calls Tryz.prog 192 #[.int .i64 i] w fun e w' => e = .returned (.string ⟨(Lib.decDigits i).toArray⟩) ∧ w' = w := Any.strconv_Itoa_small Tryz.lays171 i hi w
def Tryz.Qc : Go.Shelf.Ren := ⟨fun | 173 => 158 | 246 => 209 | 283 => 260 | 284 => 261 | 285 => 262 | 286 => 263 | 129 => 237 | 317 => 294 | 318 => 295 | 319 => 296 | 320 => 297 | 337 => 304 | 338 => 305 | n => n, fun | 2 => 2 | 3 => 3 | 9 => 9 | 4 => 4 | 171 => 335 | 0 => 0 | 53 => 81 | 37 => 39 | 5 => 5 | 173 => 337 | 212 => 364 | 51 => 148 | 20 => 20 | 213 => 365 | 46 => 153 | 232 => 380 | 233 => 381 | n => n, fun | 17 => 5 | 18 => 6 | 19 => 7 | n => n⟩
theorem Tryz.lays173 : Go.Proofs.Lays.n173 Tryz.prog Tryz.Qc := {
 mixed := by kernel_rfl
 f129 := Tryz.func237.trans (congrArg some (by kernel_rfl))
 f173 := Tryz.func158.trans (congrArg some (by kernel_rfl))
 f246 := Tryz.func209.trans (congrArg some (by kernel_rfl))
 f283 := Tryz.func260.trans (congrArg some (by kernel_rfl))
 f284 := Tryz.func261.trans (congrArg some (by kernel_rfl))
 f285 := Tryz.func262.trans (congrArg some (by kernel_rfl))
 f286 := Tryz.func263.trans (congrArg some (by kernel_rfl))
 f317 := Tryz.func294.trans (congrArg some (by kernel_rfl))
 f318 := Tryz.func295.trans (congrArg some (by kernel_rfl))
 f319 := Tryz.func296.trans (congrArg some (by kernel_rfl))
 f320 := Tryz.func297.trans (congrArg some (by kernel_rfl))
 f337 := Tryz.func304.trans (congrArg some (by kernel_rfl))
 f338 := Tryz.func305.trans (congrArg some (by kernel_rfl))
 t0 := Tryz.underlying0
 a0 := Tryz.isAgg0
 z0 := Tryz.sizeOf0
 v0 := Tryz.zeroValue0
 t2 := Tryz.underlying2
 a2 := Tryz.isAgg2
 z2 := Tryz.sizeOf2
 v2 := Tryz.zeroValue2
 t3 := Tryz.underlying3
 a3 := Tryz.isAgg3
 z3 := Tryz.sizeOf3
 v3 := Tryz.zeroValue3
 t4 := Tryz.underlying4
 a4 := Tryz.isAgg4
 z4 := Tryz.sizeOf4
 v4 := Tryz.zeroValue4
 t5 := Tryz.underlying5
 a5 := Tryz.isAgg5
 z5 := Tryz.sizeOf5
 v5 := Tryz.zeroValue5
 t9 := Tryz.underlying9
 a9 := Tryz.isAgg9
 z9 := Tryz.sizeOf9
 v9 := Tryz.zeroValue9
 t20 := Tryz.underlying20
 a20 := Tryz.isAgg20
 z20 := Tryz.sizeOf20
 v20 := Tryz.zeroValue20
 t37 := Tryz.underlying39
 a37 := Tryz.isAgg39
 z37 := Tryz.sizeOf39
 v37 := Tryz.zeroValue39
 t46 := Tryz.underlying153
 a46 := Tryz.isAgg153
 z46 := Tryz.sizeOf153
 v46 := Tryz.zeroValue153
 t51 := Tryz.underlying148
 a51 := Tryz.isAgg148
 z51 := Tryz.sizeOf148
 v51 := Tryz.zeroValue148
 t53 := Tryz.underlying81
 a53 := Tryz.isAgg81
 z53 := Tryz.sizeOf81
 v53 := Tryz.zeroValue81
 t171 := Tryz.underlying335
 a171 := Tryz.isAgg335
 z171 := Tryz.sizeOf335
 v171 := Tryz.zeroValue335
 t173 := Tryz.underlying337
 a173 := Tryz.isAgg337
 z173 := Tryz.sizeOf337
 v173 := Tryz.zeroValue337
 t212 := Tryz.underlying364
 a212 := Tryz.isAgg364
 z212 := Tryz.sizeOf364
 v212 := Tryz.zeroValue364
 t213 := Tryz.underlying365
 a213 := Tryz.isAgg365
 z213 := Tryz.sizeOf365
 t232 := Tryz.underlying380
 a232 := Tryz.isAgg380
 z232 := Tryz.sizeOf380
 v232 := Tryz.zeroValue380
 t233 := Tryz.underlying381
 a233 := Tryz.isAgg381
 z233 := Tryz.sizeOf381
 v233 := Tryz.zeroValue381
 g17 := by kernel_rfl
 g18 := by kernel_rfl
 g19 := by kernel_rfl }
open Go.RowKit Go.Sort Go.Lib in
theorem Tryz.strconv_FormatInt_10_small (i : Nat) (hi : i < 100) (w : World) :
 Calls Tryz.prog 158 #[.int .i64 i, .int .i64 10] w fun e w' => e = .returned (.string ⟨(Lib.decDigits i).toArray⟩) ∧ w' = w := Any.strconv_FormatInt_10_small Tryz.lays173 i hi w
def Tryz.OE : Go.Shelf.Ren := ⟨fun | 174 => 143 | 247 => 201 | 245 => 202 | 287 => 249 | 279 => 250 | 280 => 251 | 281 => 252 | 282 => 253 | 321 => 285 | 322 => 286 | 316 => 287 | 171 => 192 | 205 => 288 | 243 => 244 | 246 => 209 | 283 => 260 | 284 => 261 | 285 => 262 | 286 => 263 | 129 => 237 | 317 => 294 | 318 => 295 | 319 => 296 | 320 => 297 | 337 => 304 | 338 => 305 | n => n, fun | 9 => 9 | 3 => 3 | 2 => 2 | 75 => 139 | 85 => 221 | 4 => 4 | 167 => 323 | 5 => 5 | 53 => 81 | 175 => 324 | 46 => 153 | 168 => 326 | 37 => 39 | 0 => 0 | 210 => 357 | 21 => 21 | 127 => 198 | 145 => 372 | 143 => 370 | 171 => 335 | 173 => 337 | 212 => 364 | 51 => 148 | 20 => 20 | 213 => 365 | 232 => 380 | 233 => 381 | 80 => 142 | n => n, fun | 15 => 3 | 16 => 4 | 17 => 5 | 18 => 6 | 19 => 7 | n => n⟩
theorem Tryz.V8 : Go.Proofs.LaysC.n174 Tryz.prog Tryz.OE := {
 mixed := by kernel_rfl
 f129 := Tryz.func237.trans (congrArg some (by kernel_rfl))
 f171 := Tryz.func192.trans (congrArg some (by kernel_rfl))
 f174 := Tryz.func143.trans (congrArg some (by kernel_rfl))
 f205 := Tryz.func288.trans (congrArg some (by kernel_rfl))
 f243 := Tryz.func244.trans (congrArg some (by kernel_rfl))
 f245 := Tryz.func202.trans (congrArg some (by kernel_rfl))
 f246 := Tryz.func209.trans (congrArg some (by kernel_rfl))
 f247 := Tryz.func201.trans (congrArg some (by kernel_rfl))
 f279 := Tryz.func250.trans (congrArg some (by kernel_rfl))
 f280 := Tryz.func251.trans (congrArg some (by kernel_rfl))
 f281 := Tryz.func252.trans (congrArg some (by kernel_rfl))
 f282 := Tryz.func253.trans (congrArg some (by kernel_rfl))
 f283 := Tryz.func260.trans (congrArg some (by kernel_rfl))
 f284 := Tryz.func261.trans (congrArg some (by kernel_rfl))
 f285 := Tryz.func262.trans (congrArg some (by kernel_rfl))
 f286 := Tryz.func263.trans (congrArg some (by kernel_rfl))
 f287 := Tryz.func249.trans (congrArg some (by kernel_rfl))
 f316 := Tryz.func287.trans (congrArg some (by kernel_rfl))
 f317 := Tryz.func294.trans (congrArg some (by kernel_rfl))
 f318 := Tryz.func295.trans (congrArg some (by kernel_rfl))
 f319 := Tryz.func296.trans (congrArg some (by kernel_rfl))
 f320 := Tryz.func297.trans (congrArg some (by kernel_rfl))
 f321 := Tryz.func285.trans (congrArg some (by kernel_rfl))
 f322 := Tryz.func286.trans (congrArg some (by kernel_rfl))
 f337 := Tryz.func304.trans (congrArg some (by kernel_rfl))
 f338 := Tryz.func305.trans (congrArg some (by kernel_rfl))
 t0 := Tryz.underlying0
 a0 := Tryz.isAgg0
 z0 := Tryz.sizeOf0
 v0 := Tryz.zeroValue0
 t2 := Tryz.underlying2
 a2 := Tryz.isAgg2
 z2 := Tryz.sizeOf2
 v2 := Tryz.zeroValue2
 t3 := Tryz.underlying3
 a3 := Tryz.isAgg3
 z3 := Tryz.sizeOf3
 v3 := Tryz.zeroValue3
 t4 := Tryz.underlying4
 a4 := Tryz.isAgg4
 z4 := Tryz.sizeOf4
 v4 := Tryz.zeroValue4
 t5 := Tryz.underlying5
 a5 := Tryz.isAgg5
 z5 := Tryz.sizeOf5
 v5 := Tryz.zeroValue5
 t9 := Tryz.underlying9
 a9 := Tryz.isAgg9
 z9 := Tryz.sizeOf9
 v9 := Tryz.zeroValue9
 t20 := Tryz.underlying20
 a20 := Tryz.isAgg20
 z20 := Tryz.sizeOf20
 v20 := Tryz.zeroValue20
 t21 := Tryz.underlying21
 a21 := Tryz.isAgg21
 z21 := Tryz.sizeOf21
 v21 := Tryz.zeroValue21
 t37 := Tryz.underlying39
 a37 := Tryz.isAgg39
 z37 := Tryz.sizeOf39
 v37 := Tryz.zeroValue39
 t46 := Tryz.underlying153
 a46 := Tryz.isAgg153
 z46 := Tryz.sizeOf153
 v46 := Tryz.zeroValue153
 t51 := Tryz.underlying148
 a51 := Tryz.isAgg148
 z51 := Tryz.sizeOf148
 v51 := Tryz.zeroValue148
 t53 := Tryz.underlying81
 a53 := Tryz.isAgg81
 z53 := Tryz.sizeOf81
 v53 := Tryz.zeroValue81
 t75 := Tryz.underlying139
 a75 := Tryz.isAgg139
 z75 := Tryz.sizeOf139
 v75 := Tryz.zeroValue139
 t85 := Tryz.underlying221
 a85 := Tryz.isAgg221
 z85 := Tryz.sizeOf221
 v85 := Tryz.zeroValue221
 t127 := Tryz.underlying198
 a127 := Tryz.isAgg198
 z127 := Tryz.sizeOf198
 v127 := Tryz.zeroValue198
 t143 := Tryz.underlying370
 a143 := Tryz.isAgg370
 z143 := Tryz.sizeOf370
 v143 := Tryz.zeroValue370
 t145 := Tryz.underlying372
 a145 := Tryz.isAgg372
 z145 := Tryz.sizeOf372
 v145 := Tryz.zeroValue372
 t167 := Tryz.underlying323
 a167 := Tryz.isAgg323
 z167 := Tryz.sizeOf323
 v167 := Tryz.zeroValue323
 t168 := Tryz.underlying326
 a168 := Tryz.isAgg326
 z168 := Tryz.sizeOf326
 v168 := Tryz.zeroValue326
 t171 := Tryz.underlying335
 a171 := Tryz.isAgg335
 z171 := Tryz.sizeOf335
 v171 := Tryz.zeroValue335
 t173 := Tryz.underlying337
 a173 := Tryz.isAgg337
 z173 := Tryz.sizeOf337
 v173 := Tryz.zeroValue337
 t175 := Tryz.underlying324
 a175 := Tryz.isAgg324
 z175 := Tryz.sizeOf324
 v175 := Tryz.zeroValue324
 t210 := Tryz.underlying357
 a210 := Tryz.isAgg357
 z210 := Tryz.sizeOf357
 v210 := Tryz.zeroValue357
 t212 := Tryz.underlying364
 a212 := Tryz.isAgg364
 z212 := Tryz.sizeOf364
 v212 := Tryz.zeroValue364
 t213 := Tryz.underlying365
 a213 := Tryz.isAgg365
 z213 := Tryz.sizeOf365
 t232 := Tryz.underlying380
 a232 := Tryz.isAgg380
 z232 := Tryz.sizeOf380
 v232 := Tryz.zeroValue380
 t233 := Tryz.underlying381
 a233 := Tryz.isAgg381
 z233 := Tryz.sizeOf381
 v233 := Tryz.zeroValue381
 g15 := by kernel_rfl
 g16 := by kernel_rfl
 g17 := by kernel_rfl
 g18 := by kernel_rfl
 g19 := by kernel_rfl
 t80 := Tryz.underlying142
 a80 := Tryz.isAgg142
 z80 := Tryz.sizeOf142
 v80 := Tryz.zeroValue142
 i0 := by kernel_rfl
 i2 := by kernel_rfl
 i3 := by kernel_rfl
 i4 := by kernel_rfl
 i5 := by kernel_rfl
 i9 := by kernel_rfl
 i20 := by kernel_rfl
 i21 := by kernel_rfl
 i37 := by kernel_rfl
 i46 := by kernel_rfl
 i51 := by kernel_rfl
 i53 := by kernel_rfl
 i75 := by kernel_rfl
 i80 := by kernel_rfl
 i85 := by kernel_rfl
 i127 := by kernel_rfl
 i143 := by kernel_rfl
 i145 := by kernel_rfl
 i167 := by kernel_rfl
 i168 := by kernel_rfl
 i171 := by kernel_rfl
 i173 := by kernel_rfl
 i175 := by kernel_rfl
 i210 := by kernel_rfl
 i212 := by kernel_rfl
 i232 := by kernel_rfl
 i233 := by kernel_rfl
 m15 := by kernel_rfl
 m16 := by kernel_rfl
 m17 := by kernel_rfl
 m18 := by kernel_rfl
 m19 := by kernel_rfl
 c0 := by kernel_rfl
 c2 := by kernel_rfl
 c3 := by kernel_rfl
 c4 := by kernel_rfl
 c5 := by kernel_rfl
 c9 := by kernel_rfl
 c20 := by kernel_rfl
 c21 := by kernel_rfl
 c37 := by kernel_rfl
 c46 := by kernel_rfl
 c51 := by kernel_rfl
 c53 := by kernel_rfl
 c75 := by kernel_rfl
 c80 := by kernel_rfl
 c85 := by kernel_rfl
 c127 := by kernel_rfl
 c143 := by kernel_rfl
 c145 := by kernel_rfl
 c167 := by kernel_rfl
 c168 := by kernel_rfl
 c171 := by kernel_rfl
 c173 := by kernel_rfl
 c175 := by kernel_rfl
 c210 := by kernel_rfl
 c212 := by kernel_rfl
 c213 := by kernel_rfl
 c232 := by kernel_rfl
 c233 := by kernel_rfl }
open Go.RowKit in
theorem Tryz.strconv_ParseInt_10_at64_ok (s : ByteArray) (hmax : s.size ≤ 9223372036854775806) (v : Int) (h : Lib.parseIntB 64 s.data.toList = .ok v) (w : World) :
 Calls Tryz.prog 143 #[.string s, .int .i64 10, .int .i64 64] w fun e w' => e = .returned (.tuple #[.int .i64 v, .nilIface]) ∧ (w' = w ∨ ∃ t, w' = Lib.bytesWorld w 5 t) := Any.strconv_ParseInt_10_at64_ok Tryz.V8 s hmax v h w
def Tryz.Qh : Go.Shelf.Ren := ⟨fun | 145 => 221 | 220 => 270 | 219 => 191 | 217 => 240 | 225 => 241 | 224 => 242 | 267 => 243 | 266 => 281 | 314 => 282 | n => n, fun | 9 => 9 | 4 => 4 | 59 => 305 | 3 => 3 | 5 => 5 | 46 => 153 | 146 => 352 | 51 => 148 | n => n, fun | 1 => 0 | n => n⟩
theorem Tryz.lays145 : Go.Proofs.Lays.n145 Tryz.prog Tryz.Qh := {
 mixed := by kernel_rfl
 f145 := Tryz.func221.trans (congrArg some (by kernel_rfl))
 f217 := Tryz.func240.trans (congrArg some (by kernel_rfl))
 f219 := Tryz.func191.trans (congrArg some (by kernel_rfl))
 f220 := Tryz.func270.trans (congrArg some (by kernel_rfl))
 f224 := Tryz.func242.trans (congrArg some (by kernel_rfl))
 f225 := Tryz.func241.trans (congrArg some (by kernel_rfl))
 f266 := Tryz.func281.trans (congrArg some (by kernel_rfl))
 f267 := Tryz.func243.trans (congrArg some (by kernel_rfl))
 f314 := Tryz.func282.trans (congrArg some (by kernel_rfl))
 t3 := Tryz.underlying3
 a3 := Tryz.isAgg3
 z3 := Tryz.sizeOf3
 v3 := Tryz.zeroValue3
 t4 := Tryz.underlying4
 a4 := Tryz.isAgg4
 z4 := Tryz.sizeOf4
 v4 := Tryz.zeroValue4
 t5 := Tryz.underlying5
 a5 := Tryz.isAgg5
 z5 := Tryz.sizeOf5
 v5 := Tryz.zeroValue5
 t9 := Tryz.underlying9
 a9 := Tryz.isAgg9
 z9 := Tryz.sizeOf9
 v9 := Tryz.zeroValue9
 t46 := Tryz.underlying153
 a46 := Tryz.isAgg153
 z46 := Tryz.sizeOf153
 v46 := Tryz.zeroValue153
 t51 := Tryz.underlying148
 a51 := Tryz.isAgg148
 z51 := Tryz.sizeOf148
 v51 := Tryz.zeroValue148
 t59 := Tryz.underlying305
 a59 := Tryz.isAgg305
 z59 := Tryz.sizeOf305
 v59 := Tryz.zeroValue305
 t146 := Tryz.underlying352
 a146 := Tryz.isAgg352
 z146 := Tryz.sizeOf352
 v146 := Tryz.zeroValue352
 g1 := by kernel_rfl }
open Go.RowKit Go.Lib in
theorem Tryz.strings_Cut (s sep : ByteArray) (m : Int) (w : World) (hs : s.size < 4294967281) (hm : w.cell? ⟨0, 0, none⟩ = some (.int .i64 m)) :
 Calls Tryz.prog 221 #[.string s, .string sep] w fun e w' => e = .returned (.tuple #[.string ⟨(Lib.cut s.data.toList sep.data.toList).1.toArray⟩, .string ⟨(Lib.cut s.data.toList sep.data.toList).2.1.toArray⟩, .bool (Lib.cut s.data.toList sep.data.toList).2.2]) ∧ ∃ n, w' = w.drewN n := Any.strings_Cut Tryz.lays145 s sep m w hs hm
def Tryz.lays101_ren : Go.Shelf.Ren := ⟨fun | 101 => 141 | 208 => 193 | 206 => 245 | n => n, fun | 9 => 9 | 4 => 4 | 3 => 3 | n => n, fun | n => n⟩
theorem Tryz.lays101 : Go.Proofs.Lays.n101 Tryz.prog Tryz.lays101_ren := {
 mixed := by kernel_rfl
 f101 := Tryz.func141.trans (congrArg some (by kernel_rfl))
 f206 := Tryz.func245.trans (congrArg some (by kernel_rfl))
 f208 := Tryz.func193.trans (congrArg some (by kernel_rfl))
 t3 := Tryz.underlying3
 a3 := Tryz.isAgg3
 z3 := Tryz.sizeOf3
 v3 := Tryz.zeroValue3
 t4 := Tryz.underlying4
 a4 := Tryz.isAgg4
 z4 := Tryz.sizeOf4
 v4 := Tryz.zeroValue4
 t9 := Tryz.underlying9
 a9 := Tryz.isAgg9
 z9 := Tryz.sizeOf9
 v9 := Tryz.zeroValue9 }
open Go.RowKit Go.Lib in
theorem Tryz.strings_TrimPrefix (s p : ByteArray) (w : World) :
 Calls Tryz.prog 141 #[.string s, .string p] w fun e w' => e = .returned (.string ⟨(Lib.trimPrefix s.data.toList p.data.toList).toArray⟩) ∧ w' = w := Any.strings_TrimPrefix Tryz.lays101 s p w
def Tryz.lays146_ren : Go.Shelf.Ren := ⟨fun | 146 => 58 | 221 => 96 | 268 => 136 | 138 => 137 | 143 => 138 | 195 => 188 | 197 => 189 | 218 => 190 | 219 => 191 | 260 => 239 | 217 => 240 | 225 => 241 | 224 => 242 | 267 => 243 | 266 => 281 | 314 => 282 | n => n, fun | 9 => 9 | 31 => 118 | 3 => 3 | 4 => 4 | 0 => 0 | 105 => 278 | 21 => 21 | 5 => 5 | 46 => 153 | 119 => 348 | 139 => 351 | 138 => 350 | 146 => 352 | 51 => 148 | n => n, fun | 1 => 0 | 3 => 1 | 4 => 2 | n => n⟩
theorem Tryz.lays146 : Go.Proofs.Lays.n146 Tryz.prog Tryz.lays146_ren := {
 mixed := by kernel_rfl
 f138 := Tryz.func137.trans (congrArg some (by kernel_rfl))
 f143 := Tryz.func138.trans (congrArg some (by kernel_rfl))
 f146 := Tryz.func58.trans (congrArg some (by kernel_rfl))
 f195 := Tryz.func188.trans (congrArg some (by kernel_rfl))
 f197 := Tryz.func189.trans (congrArg some (by kernel_rfl))
 f217 := Tryz.func240.trans (congrArg some (by kernel_rfl))
 f218 := Tryz.func190.trans (congrArg some (by kernel_rfl))
 f219 := Tryz.func191.trans (congrArg some (by kernel_rfl))
 f221 := Tryz.func96.trans (congrArg some (by kernel_rfl))
 f224 := Tryz.func242.trans (congrArg some (by kernel_rfl))
 f225 := Tryz.func241.trans (congrArg some (by kernel_rfl))
 f260 := Tryz.func239.trans (congrArg some (by kernel_rfl))
 f266 := Tryz.func281.trans (congrArg some (by kernel_rfl))
 f267 := Tryz.func243.trans (congrArg some (by kernel_rfl))
 f268 := Tryz.func136.trans (congrArg some (by kernel_rfl))
 f314 := Tryz.func282.trans (congrArg some (by kernel_rfl))
 t0 := Tryz.underlying0
 a0 := Tryz.isAgg0
 z0 := Tryz.sizeOf0
 v0 := Tryz.zeroValue0
 t3 := Tryz.underlying3
 a3 := Tryz.isAgg3
 z3 := Tryz.sizeOf3
 v3 := Tryz.zeroValue3
 t4 := Tryz.underlying4
 a4 := Tryz.isAgg4
 z4 := Tryz.sizeOf4
 v4 := Tryz.zeroValue4
 t5 := Tryz.underlying5
 a5 := Tryz.isAgg5
 z5 := Tryz.sizeOf5
 v5 := Tryz.zeroValue5
 t9 := Tryz.underlying9
 a9 := Tryz.isAgg9
 z9 := Tryz.sizeOf9
 v9 := Tryz.zeroValue9
 t21 := Tryz.underlying21
 a21 := Tryz.isAgg21
 z21 := Tryz.sizeOf21
 v21 := Tryz.zeroValue21
 t31 := Tryz.underlying118
 a31 := Tryz.isAgg118
 z31 := Tryz.sizeOf118
 v31 := Tryz.zeroValue118
 t46 := Tryz.underlying153
 a46 := Tryz.isAgg153
 z46 := Tryz.sizeOf153
 v46 := Tryz.zeroValue153
 t51 := Tryz.underlying148
 a51 := Tryz.isAgg148
 z51 := Tryz.sizeOf148
 v51 := Tryz.zeroValue148
 t105 := Tryz.underlying278
 a105 := Tryz.isAgg278
 z105 := Tryz.sizeOf278
 v105 := Tryz.zeroValue278
 t119 := Tryz.underlying348
 a119 := Tryz.isAgg348
 z119 := Tryz.sizeOf348
 t138 := Tryz.underlying350
 a138 := Tryz.isAgg350
 z138 := Tryz.sizeOf350
 v138 := Tryz.zeroValue350
 t139 := Tryz.underlying351
 a139 := Tryz.isAgg351
 z139 := Tryz.sizeOf351
 v139 := Tryz.zeroValue351
 t146 := Tryz.underlying352
 a146 := Tryz.isAgg352
 z146 := Tryz.sizeOf352
 v146 := Tryz.zeroValue352
 g1 := by kernel_rfl
 g3 := by kernel_rfl
 g4 := by kernel_rfl }
open Go.RowKit Go.Lib in
theorem Tryz.strings_Split (s sep : ByteArray) (m : Int) (w : World) (hs : s.size < 4294967281) (hm : w.cell? ⟨0, 0, none⟩ = some (.int .i64 m)) (h1 : 1 ≤ sep.size) :
 Calls Tryz.prog 58 #[.string s, .string sep] w fun e w' =>
   e = .returned (.slice (some ⟨w.heap.size, 0, none⟩) (Lib.countB s sep + 1) (Lib.countB s sep + 1)) ∧ w' = w.alloc (.cells ((Lib.splitB sep 0 (Lib.countB s sep) s).map Value.string).toArray 9) := Any.strings_Split Tryz.lays146 (by kernel_rfl) s sep m w hs hm h1
end Go.Proofs
namespace Go.Proofs.YtchfmgbjddopoaaGreatDoor.Hand
open Go.RowKit Go.Proofs.YtchfmgbjddopoaaGreatDoorW.PrintWords Go.Proofs.YtchfmgbjddopoaaGreatDoorW.PrintLast Go.Proofs.YtchfmgbjddopoaaGreatDoorW.PrintMore
theorem NU (w : World) : Calls Tryz.prog 203 #[.string ⟨#[97]⟩, .int .u8 0] w fun e w1 => e = .returned (.int .i64 (-1)) ∧ Az w w1 :=
 (Tryz.strings_IndexByte ⟨#[97]⟩ 0 w).mono fun _ _ h => ⟨h.1, 0, h.2⟩
theorem Zi (w : World) : Calls Tryz.prog 145 #[.string ⟨#[97]⟩] w fun e w' => e = .returned (.tuple #[.agg KA, .int .i64 0]) ∧ Below w.heap.size w w' := of_a w NU
theorem Wh (w : World) : Calls Tryz.prog 120 #[.agg KA] w fun e w' => e = .returned (.bool true) ∧ Below w.heap.size w w' := Zm w NU
theorem Fp : over Z18 0 WA.toList = WA := by kernel_rfl
theorem IV : WA.all (·.oneCell') = true := by kernel_rfl
theorem Ny : (WA.extract 0 (0 + 18)).toList = WA.toList := by kernel_rfl
theorem FO : (WA.extract 0 (0 + 16)).toList = KA.toList := by kernel_rfl
theorem YJ : WA[16]? = some (.string ⟨#[120]⟩) := by kernel_rfl
theorem YI : WA[17]? = some (.bool false) := by kernel_rfl
theorem TZ (W : World) : (zeroValue 4).run Tryz.prog W = .ok (.bool false) W := by kernel_rfl
theorem J7 (w : World) (g c : Nat) {C : Array Value} (hC : (C.extract 0 (0 + 18)).toList = WA.toList) (hb : Bk w g C 105) : Calls Tryz.prog 81 #[.slice (some ⟨g, 0, none⟩) 1 c] w fun e w' => e = .returned (.bool true) ∧ Below w.heap.size w w' := by
 replace hb := Aa.mk hb
 go_enter Tryz.func81, Tryz.ntmps81
 go_wp2_with (first
   | ((with_reducible refine Ac (N := 6) rfl ?_); refine Ih (N := 6) rfl rfl (by first | (go_simp; done) | (go_simp; rfl)) ?_; intro m w1 hm bm f1; have hb1 := Aa.mk (hb.out.Ad f1.out)))
 refine wp_loop_rounds 3 ?_
 rw [rounds_succ]
 go_wp2_with (first
   | ((with_reducible refine Ac (N := 12) rfl ?_); refine Au (N := 12) rfl rfl rfl rfl hb1.out Tryz.underlying105 rfl Bl WA.toList hC rfl ?_)
   | ((with_reducible refine Ac (N := 5) rfl ?_); refine Aj (N := 5) (C := Z18) rfl rfl (by first | (go_simp; done) | (go_simp; rfl)) ?_; intro g5 w2 h5 b5 f2; have bm2 := Aa.mk (bm.out.Ad f2.out))
   | ((with_reducible refine Af (t := 105) (p := 5) (v := .tmp 12) rfl ?_); refine Ak rfl (ty := 105) (x := .tmp 5) (y := .tmp 12) rfl rfl rfl b5.out Bl IV (by decide) WA Fp ?_; intro w3 b3 f3; have bm3 := Aa.mk (bm2.out.fr f3.out (by have := bm.out.lt; have := h5.out; omega)))
   | ((with_reducible refine Ac (N := 14) rfl ?_); refine Au (N := 14) rfl rfl rfl rfl b3.out Tryz.underlying103 rfl AB KA.toList FO rfl ?_)
   | (go_at_call 120; refine (Wh _).mono ?_; rintro e w4 ⟨rfl, f4⟩; replace f4 := Aa.mk f4; have b4 := Aa.mk (b3.out.Ad f4.out); have bm4 := Aa.mk (bm3.out.Ad f4.out); have c16 := Bk.cell b4.out YJ; have c17 := Bk.cell b4.out YI; have hlk := CV (ok := false) bm4.out Tryz.underlying204 (Xg _) Ed TZ; have hup := DJ (val := .bool true) bm4.out Tryz.underlying204 (Xg _) Ed)
   | ((with_reducible refine Ac (N := 20) rfl ?_); refine BO (N := 20) rfl (by rfl) rfl rfl b4.out Tryz.underlying103 rfl AB KA.toList FO rfl ?_)
   | ((with_reducible refine Ac (N := 40) rfl ?_); refine Au (N := 40) rfl rfl rfl rfl b4.out Tryz.underlying103 rfl AB KA.toList FO rfl ?_))
 rw [rounds_succ]
 go_wp2_with fail
 go_returns
 have := f1.out.size
 have := f2.out.size
 have := f3.out.size
 have := hm.out
 have := h5.out
 exact ⟨rfl, (Fr.trans (T := fun k => k = m ∨ k = g5) (Fr.of_below f1.out) ((Fr.of_below f2.out).trans ((f3.out.weaken (fun _ _ h => .inr h)).trans (Fr.put (Fr.of_below f4.out) m _ (.inl (.inl rfl)))))).below (by omega) (Nat.le_refl _)⟩
end Go.Proofs.YtchfmgbjddopoaaGreatDoor.Hand
namespace Go.Proofs.YtchfmgbjddopoaaGreatDoor.Hand
open Go.RowKit Go.Proofs.YtchfmgbjddopoaaGreatDoorW.PrintWords Go.Proofs.YtchfmgbjddopoaaGreatDoorW.PrintLast Go.Proofs.YtchfmgbjddopoaaGreatDoorW.PrintMore
attribute [local go_sem ↓] Go.wp_at_zero Go.wp_at_succ
abbrev V0 : Array Value := #[.int .i64 0, .int .u8 0, .string ⟨#[]⟩, .bool false]
theorem Ip (w : World) (c : Nat) (hc : Bk w c #[.slice none 0 0] 213) : Calls Tryz.prog 224 #[.pointer (some ⟨c, 0, none⟩)] w fun e w' => e = .returned (.tuple #[.agg V0, .bool false]) ∧ Below w.heap.size w w' := by
 replace hc := Aa.mk hc
 go_enter Tryz.func224, Tryz.ntmps224
 go_wp2_with (first
   | ((with_reducible refine Ac (N := 2) rfl ?_); refine Aj (N := 2) (C := V0) rfl rfl (by first | (go_simp; done) | (go_simp; rfl)) ?_; intro g2 w1 h2 b2 f1; have c0 : w1.cell? ⟨c, 0, none⟩ = some (.slice none 0 0) := Bk.cell (hc.out.Ad f1.out) (j := 0) rfl)
   | ((with_reducible refine Af (t := 116) (p := 2) (v := .tmp 10) rfl ?_); refine Ak rfl (ty := 116) (x := .tmp 2) (y := .tmp 10) rfl rfl rfl b2.out (by kernel_rfl) (by kernel_rfl) (by decide) V0 (by kernel_rfl) ?_; intro w5 b5 f5))
 refine AO (Tryz.results224) rfl b5.out Tryz.underlying116 rfl (n := 4) (by kernel_rfl) rfl rfl ⟨rfl, ?_⟩
 have := h2.out
 exact ((Fr.of_below f1.out).trans f5.out).below (by omega) (Nat.le_refl _)
theorem XW {w' : World} {st ch g : Nat} (hs : Bk w' st #[.map (some ch)] 158) (hm : Mp w' ch #[] 0) (h : Bk w' g KA 103) :
   w'.cell? ⟨st, 0, none⟩ = some (.map (some ch)) ∧ w'.rangeAt g 0 KA.toList ∧ (Instr.lookup 156 (.map (some ch)) (.agg KA) false).run Tryz.prog w' = .ok (.pointer none) w' ∧ Bk w' st #[.map (some ch)] 158 ∧ Mp w' ch #[] 0 ∧ Bk w' g KA 103 :=
 ⟨hs.cell rfl, h.range 0 16 Ib, CV (ok := false) hm Tryz.underlying156 (Xg _) Ed (z := .pointer none) (fun _ => by kernel_rfl), hs, hm, h⟩
theorem D5 (w : World) (st ch : Nat) (hs : Bk w st #[.map (some ch)] 158) (hm : Mp w ch #[] 0) :
   Calls Tryz.prog 92 #[.pointer (some ⟨st, 0, none⟩), .agg KA] w fun e w' => ∃ p, e = .returned (.pointer (some ⟨p, 0, none⟩)) ∧ w.heap.size ≤ p ∧ Bk w' p #[.slice none 0 0] 213 ∧ Below w.heap.size w w' := by
 replace hs := Aa.mk hs
 replace hm := Aa.mk hm
 go_enter Tryz.func92, Tryz.ntmps92
 go_wp2_with (first
   | ((with_reducible refine Ac (N := 3) rfl ?_); refine Aj (N := 3) (C := KA) rfl rfl (by first | (go_simp; done) | (go_simp; rfl)) ?_; intro g w1 h1 b1 f1; have hs1 := Aa.mk (hs.out.Ad f1.out); have hm1 := Aa.mk (hm.out.Ad f1.out)))
 have u79 := Tryz.underlying103
 have i79 : (Tryz.prog.info? 103).map (·.size) = some KA.toList.length := AB
 refine wp_region_noPanic ?_
 go_region_held_law (fun w' => w'.cell? ⟨st, 0, none⟩ = some (.map (some ch)) ∧ w'.rangeAt g 0 KA.toList ∧ (Instr.lookup 156 (.map (some ch)) (.agg KA) false).run Tryz.prog w' = .ok (.pointer none) w' ∧ Bk w' st #[.map (some ch)] 158 ∧ Mp w' ch #[] 0 ∧ Bk w' g KA 103)
   ((first | exact XW hs1.out.drew hm1.out.drew b1.out.drew))
   (fail)
 refine NoPanic.normal ?_
 clear u79 i79
 go_wp2_with (go_at_call 94; refine (Jr _).mono ?_; rintro e w2 ⟨p, rfl, hp, bp, f2⟩)
 go_returns
 have h := f1.out.size
 exact ⟨p, rfl, Nat.le_trans h hp, bp, f1.out.trans ((Ag (Below.refl _ _)).trans (f2.mono h))⟩
theorem Oo (w : World) (st ch : Nat) (hs : Bk w st #[.map (some ch)] 158) (hm : Mp w ch #[] 0) :
   Calls Tryz.prog 174 #[.pointer (some ⟨st, 0, none⟩), .agg KA] w fun e w' => e = .returned (.tuple #[.agg #[.int .i64 0, .int .u8 0], .bool false]) ∧ Below w.heap.size w w' := by
 replace hs := Aa.mk hs
 replace hm := Aa.mk hm
 go_enter Tryz.func174, Tryz.ntmps174
 go_wp2_with (first
   | ((with_reducible refine Ac (N := 3) rfl ?_); refine Aj (N := 3) (C := KA) rfl rfl (by first | (go_simp; done) | (go_simp; rfl)) ?_; intro g3 w1 h3 b3 f1; have hs1 := Aa.mk (hs.out.Ad f1.out); have hm1 := Aa.mk (hm.out.Ad f1.out))
   | ((with_reducible refine Ac (N := 4) rfl ?_); refine Aj (N := 4) (C := #[.int .i64 0, .int .u8 0]) rfl rfl (by first | (go_simp; done) | (go_simp; rfl)) ?_; intro g4 w2 h4 b4 f2; have hs2 := Aa.mk (hs1.out.Ad f2.out); have hm2 := Aa.mk (hm1.out.Ad f2.out); have b32 := Aa.mk (b3.out.Ad f2.out))
   | ((with_reducible refine Ac (N := 10) rfl ?_); refine Au (N := 10) rfl rfl rfl rfl b32.out Tryz.underlying103 rfl AB KA.toList Ib rfl ?_)
   | (go_at_call 92; refine (D5 _ _ _ hs2.out hm2.out).mono ?_; rintro e w3 ⟨p, rfl, hp, bp, f3⟩; replace f3 := Aa.mk f3; replace bp := Aa.mk bp; have b43 := Aa.mk (b4.out.Ad f3.out))
   | (go_at_call 224; refine (Ip _ _ bp.out).mono ?_; rintro e w4 ⟨rfl, f4⟩; replace f4 := Aa.mk f4; have b44 := Aa.mk (b43.out.Ad f4.out))
   | ((with_reducible refine Ac (N := 6) rfl ?_); refine Aj (N := 6) (C := V0) rfl rfl (by first | (go_simp; done) | (go_simp; rfl)) ?_; intro g6 w5 h6 b6 f5; have b45 := Aa.mk (b44.out.Ad f5.out))
   | ((with_reducible refine Af (t := 116) (p := 6) (v := .tmp 13) rfl ?_); refine Ak rfl (ty := 116) (x := .tmp 6) (y := .tmp 13) rfl rfl rfl b6.out (by kernel_rfl) (by kernel_rfl) (by decide) V0 (by kernel_rfl) ?_; intro w6 b66 f6; have b46 := Aa.mk (b45.out.fr f6.out (by have := b44.out.lt; have := h6.out; omega)); have c0 : w6.cell? ⟨g6, 0, none⟩ = some (.int .i64 0) := Bk.cell b66.out (j := 0) rfl; have c1 : w6.cell? ⟨g6, 1, none⟩ = some (.int .u8 0) := Bk.cell b66.out (j := 1) rfl)
   | ((with_reducible refine Af (t := 32) (p := 4) (v := .tmp 16) rfl ?_); refine Ak rfl (ty := 32) (x := .tmp 4) (y := .tmp 16) rfl rfl rfl b46.out (by kernel_rfl) (by kernel_rfl) (by decide) #[.int .i64 0, .int .u8 0] (by kernel_rfl) ?_; intro w7 b7 f7))
 refine AO (Tryz.results174) rfl b7.out Tryz.underlying32 rfl (n := 2) (by kernel_rfl) rfl rfl ⟨rfl, ?_⟩
 have := h4.out
 have := h6.out
 have := f1.out.size
 have := f2.out.size
 have := f3.out.size
 have := f4.out.size
 exact (Fr.trans (T := fun k => k = g4 ∨ k = g6) (Fr.of_below f1.out) ((Fr.of_below f2.out).trans ((Fr.of_below f3.out).trans ((Fr.of_below f4.out).trans ((Fr.of_below f5.out).trans ((f6.out.weaken (fun _ _ h => .inr h)).trans (f7.out.weaken (fun _ _ h => .inl h)))))))).below (by omega) (Nat.le_refl _)
end Go.Proofs.YtchfmgbjddopoaaGreatDoor.Hand
