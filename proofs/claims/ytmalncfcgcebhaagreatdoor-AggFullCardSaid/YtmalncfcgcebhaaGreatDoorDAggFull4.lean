/- Part. No condition. -/
import Derived.Test.YtmalncfcgcebhaaGreatDoorDAggFull1
import Derived.Test.YtmalncfcgcebhaaGreatDoorDAggFull3
import Derived.Shelf.Strings.BuilderK
import Derived.Shelf.Small.Strs
import Derived.Shelf.Strconv.Itoa4
import Derived.Shelf.Unicode.DecodeAny
import Derived.Shelf.Strconv.ErrVarParseInt
import Derived.Lib.RuneCountTail
import Derived.Lib.OthersKept
import Derived.Deep.CutBlock
import Derived.Lib.ParseIntB
import Derived.Lib.ItoaMem
namespace Go.Proofs.YtmalncfcgcebhaaGreatDoor
set_option linter.unusedVariables false
open Go.Proofs Go.Shelf Go.RowKit Go.Sort
def Tryz.bstL_ren : Go.Shelf.Ren := ⟨fun | 169 => 94 | n => n, fun | 70 => 186 | 9 => 9 | 0 => 0 | 72 => 188 | 37 => 44 | 127 => 260 | 3 => 3 | 5 => 5 | n => n, fun | n => n⟩
theorem Tryz.bstL : Go.Proofs.Lays.n169 Tryz.prog Tryz.bstL_ren := {
  mixed := by kernel_rfl
  f169 := Tryz.func94.trans (congrArg some (by kernel_rfl))
  t0 := Tryz.underlying0
  a0 := Tryz.isAgg0
  z0 := Tryz.sizeOf0
  v0 := Tryz.zeroValue0
  t3 := Tryz.underlying3
  a3 := Tryz.isAgg3
  z3 := Tryz.sizeOf3
  v3 := Tryz.zeroValue3
  t9 := Tryz.underlying9
  a9 := Tryz.isAgg9
  z9 := Tryz.sizeOf9
  v9 := Tryz.zeroValue9
  t37 := Tryz.underlying44
  a37 := Tryz.isAgg44
  z37 := Tryz.sizeOf44
  v37 := Tryz.zeroValue44
  t70 := Tryz.underlying186
  a70 := Tryz.isAgg186
  z70 := Tryz.sizeOf186
  v70 := Tryz.zeroValue186
  t72 := Tryz.underlying188
  a72 := Tryz.isAgg188
  z72 := Tryz.sizeOf188
  v72 := Tryz.zeroValue188
  t127 := Tryz.underlying260
  a127 := Tryz.isAgg260
  z127 := Tryz.sizeOf260
  v127 := Tryz.zeroValue260 }
def Tryz.ixbL_ren : Go.Shelf.Ren := ⟨fun | 137 => 117 | 217 => 162 | 266 => 204 | n => n, fun | 9 => 9 | 5 => 5 | 3 => 3 | n => n, fun | n => n⟩
theorem Tryz.ixbL : Go.Proofs.Lays.n137 Tryz.prog Tryz.ixbL_ren := {
  mixed := by kernel_rfl
  f137 := Tryz.func117.trans (congrArg some (by kernel_rfl))
  f217 := Tryz.func162.trans (congrArg some (by kernel_rfl))
  f266 := Tryz.func204.trans (congrArg some (by kernel_rfl))
  t3 := Tryz.underlying3
  a3 := Tryz.isAgg3
  z3 := Tryz.sizeOf3
  v3 := Tryz.zeroValue3
  t5 := Tryz.underlying5
  a5 := Tryz.isAgg5
  z5 := Tryz.sizeOf5
  v5 := Tryz.zeroValue5
  t9 := Tryz.underlying9
  a9 := Tryz.isAgg9
  z9 := Tryz.sizeOf9
  v9 := Tryz.zeroValue9 }
def Tryz.itoaL_ren : Go.Shelf.Ren := ⟨fun | 171 => 49 | 243 => 97 | 246 => 140 | 283 => 182 | 284 => 183 | 285 => 184 | 286 => 185 | 129 => 151 | 317 => 231 | 318 => 232 | 319 => 233 | 320 => 234 | 337 => 265 | 338 => 266 | n => n, fun | 3 => 3 | 9 => 9 | 2 => 2 | 4 => 4 | 171 => 299 | 0 => 0 | 53 => 22 | 37 => 44 | 5 => 5 | 173 => 301 | 212 => 364 | 51 => 105 | 20 => 20 | 213 => 365 | 46 => 49 | 232 => 403 | 233 => 404 | n => n, fun | 17 => 4 | 18 => 6 | 19 => 7 | n => n⟩
theorem Tryz.itoaL : Go.Proofs.LaysM.n171 Tryz.prog Tryz.itoaL_ren := {
  mixed := by kernel_rfl
  f129 := Tryz.func151.trans (congrArg some (by kernel_rfl))
  f171 := Tryz.func49.trans (congrArg some (by kernel_rfl))
  f243 := Tryz.func97.trans (congrArg some (by kernel_rfl))
  f246 := Tryz.func140.trans (congrArg some (by kernel_rfl))
  f283 := Tryz.func182.trans (congrArg some (by kernel_rfl))
  f284 := Tryz.func183.trans (congrArg some (by kernel_rfl))
  f285 := Tryz.func184.trans (congrArg some (by kernel_rfl))
  f286 := Tryz.func185.trans (congrArg some (by kernel_rfl))
  f317 := Tryz.func231.trans (congrArg some (by kernel_rfl))
  f318 := Tryz.func232.trans (congrArg some (by kernel_rfl))
  f319 := Tryz.func233.trans (congrArg some (by kernel_rfl))
  f320 := Tryz.func234.trans (congrArg some (by kernel_rfl))
  f337 := Tryz.func265.trans (congrArg some (by kernel_rfl))
  f338 := Tryz.func266.trans (congrArg some (by kernel_rfl))
  t0 := Tryz.underlying0
  a0 := Tryz.isAgg0
  z0 := Tryz.sizeOf0
  v0 := Tryz.zeroValue0
  t2 := Tryz.underlying2
  a2 := Tryz.isAgg2
  z2 := Tryz.sizeOf2
  v2 := Tryz.zeroValue2
  t3 := Tryz.underlying3
  a3 := Tryz.isAgg3
  z3 := Tryz.sizeOf3
  v3 := Tryz.zeroValue3
  t4 := Tryz.underlying4
  a4 := Tryz.isAgg4
  z4 := Tryz.sizeOf4
  v4 := Tryz.zeroValue4
  t5 := Tryz.underlying5
  a5 := Tryz.isAgg5
  z5 := Tryz.sizeOf5
  v5 := Tryz.zeroValue5
  t9 := Tryz.underlying9
  a9 := Tryz.isAgg9
  z9 := Tryz.sizeOf9
  v9 := Tryz.zeroValue9
  t20 := Tryz.underlying20
  a20 := Tryz.isAgg20
  z20 := Tryz.sizeOf20
  v20 := Tryz.zeroValue20
  t37 := Tryz.underlying44
  a37 := Tryz.isAgg44
  z37 := Tryz.sizeOf44
  v37 := Tryz.zeroValue44
  t46 := Tryz.underlying49
  a46 := Tryz.isAgg49
  z46 := Tryz.sizeOf49
  v46 := Tryz.zeroValue49
  t51 := Tryz.underlying105
  a51 := Tryz.isAgg105
  z51 := Tryz.sizeOf105
  v51 := Tryz.zeroValue105
  t53 := Tryz.underlying22
  a53 := Tryz.isAgg22
  z53 := Tryz.sizeOf22
  v53 := Tryz.zeroValue22
  t171 := Tryz.underlying299
  a171 := Tryz.isAgg299
  z171 := Tryz.sizeOf299
  v171 := Tryz.zeroValue299
  t173 := Tryz.underlying301
  a173 := Tryz.isAgg301
  z173 := Tryz.sizeOf301
  v173 := Tryz.zeroValue301
  t212 := Tryz.underlying364
  a212 := Tryz.isAgg364
  z212 := Tryz.sizeOf364
  v212 := Tryz.zeroValue364
  t213 := Tryz.underlying365
  a213 := Tryz.isAgg365
  z213 := Tryz.sizeOf365
  t232 := Tryz.underlying403
  a232 := Tryz.isAgg403
  z232 := Tryz.sizeOf403
  v232 := Tryz.zeroValue403
  t233 := Tryz.underlying404
  a233 := Tryz.isAgg404
  z233 := Tryz.sizeOf404
  v233 := Tryz.zeroValue404
  g17 := by kernel_rfl
  g18 := by kernel_rfl
  g19 := by kernel_rfl
  i0 := by kernel_rfl
  i2 := by kernel_rfl
  i3 := by kernel_rfl
  i4 := by kernel_rfl
  i5 := by kernel_rfl
  i9 := by kernel_rfl
  i20 := by kernel_rfl
  i37 := by kernel_rfl
  i46 := by kernel_rfl
  i51 := by kernel_rfl
  i53 := by kernel_rfl
  i171 := by kernel_rfl
  i173 := by kernel_rfl
  i212 := by kernel_rfl
  i232 := by kernel_rfl
  i233 := by kernel_rfl
  m17 := by kernel_rfl
  m18 := by kernel_rfl
  m19 := by kernel_rfl }
def Tryz.fmtL_ren : Go.Shelf.Ren := ⟨fun | 173 => 89 | 246 => 140 | 283 => 182 | 284 => 183 | 285 => 184 | 286 => 185 | 129 => 151 | 317 => 231 | 318 => 232 | 319 => 233 | 320 => 234 | 337 => 265 | 338 => 266 | n => n, fun | 2 => 2 | 3 => 3 | 9 => 9 | 4 => 4 | 171 => 299 | 0 => 0 | 53 => 22 | 37 => 44 | 5 => 5 | 173 => 301 | 212 => 364 | 51 => 105 | 20 => 20 | 213 => 365 | 46 => 49 | 232 => 403 | 233 => 404 | n => n, fun | 17 => 4 | 18 => 6 | 19 => 7 | n => n⟩
theorem Tryz.fmtL : Go.Proofs.LaysM.n173 Tryz.prog Tryz.fmtL_ren := {
  mixed := by kernel_rfl
  f129 := Tryz.func151.trans (congrArg some (by kernel_rfl))
  f173 := Tryz.func89.trans (congrArg some (by kernel_rfl))
  f246 := Tryz.func140.trans (congrArg some (by kernel_rfl))
  f283 := Tryz.func182.trans (congrArg some (by kernel_rfl))
  f284 := Tryz.func183.trans (congrArg some (by kernel_rfl))
  f285 := Tryz.func184.trans (congrArg some (by kernel_rfl))
  f286 := Tryz.func185.trans (congrArg some (by kernel_rfl))
  f317 := Tryz.func231.trans (congrArg some (by kernel_rfl))
  f318 := Tryz.func232.trans (congrArg some (by kernel_rfl))
  f319 := Tryz.func233.trans (congrArg some (by kernel_rfl))
  f320 := Tryz.func234.trans (congrArg some (by kernel_rfl))
  f337 := Tryz.func265.trans (congrArg some (by kernel_rfl))
  f338 := Tryz.func266.trans (congrArg some (by kernel_rfl))
  t0 := Tryz.underlying0
  a0 := Tryz.isAgg0
  z0 := Tryz.sizeOf0
  v0 := Tryz.zeroValue0
  t2 := Tryz.underlying2
  a2 := Tryz.isAgg2
  z2 := Tryz.sizeOf2
  v2 := Tryz.zeroValue2
  t3 := Tryz.underlying3
  a3 := Tryz.isAgg3
  z3 := Tryz.sizeOf3
  v3 := Tryz.zeroValue3
  t4 := Tryz.underlying4
  a4 := Tryz.isAgg4
  z4 := Tryz.sizeOf4
  v4 := Tryz.zeroValue4
  t5 := Tryz.underlying5
  a5 := Tryz.isAgg5
  z5 := Tryz.sizeOf5
  v5 := Tryz.zeroValue5
  t9 := Tryz.underlying9
  a9 := Tryz.isAgg9
  z9 := Tryz.sizeOf9
  v9 := Tryz.zeroValue9
  t20 := Tryz.underlying20
  a20 := Tryz.isAgg20
  z20 := Tryz.sizeOf20
  v20 := Tryz.zeroValue20
  t37 := Tryz.underlying44
  a37 := Tryz.isAgg44
  z37 := Tryz.sizeOf44
  v37 := Tryz.zeroValue44
  t46 := Tryz.underlying49
  a46 := Tryz.isAgg49
  z46 := Tryz.sizeOf49
  v46 := Tryz.zeroValue49
  t51 := Tryz.underlying105
  a51 := Tryz.isAgg105
  z51 := Tryz.sizeOf105
  v51 := Tryz.zeroValue105
  t53 := Tryz.underlying22
  a53 := Tryz.isAgg22
  z53 := Tryz.sizeOf22
  v53 := Tryz.zeroValue22
  t171 := Tryz.underlying299
  a171 := Tryz.isAgg299
  z171 := Tryz.sizeOf299
  v171 := Tryz.zeroValue299
  t173 := Tryz.underlying301
  a173 := Tryz.isAgg301
  z173 := Tryz.sizeOf301
  v173 := Tryz.zeroValue301
  t212 := Tryz.underlying364
  a212 := Tryz.isAgg364
  z212 := Tryz.sizeOf364
  v212 := Tryz.zeroValue364
  t213 := Tryz.underlying365
  a213 := Tryz.isAgg365
  z213 := Tryz.sizeOf365
  t232 := Tryz.underlying403
  a232 := Tryz.isAgg403
  z232 := Tryz.sizeOf403
  v232 := Tryz.zeroValue403
  t233 := Tryz.underlying404
  a233 := Tryz.isAgg404
  z233 := Tryz.sizeOf404
  v233 := Tryz.zeroValue404
  g17 := by kernel_rfl
  g18 := by kernel_rfl
  g19 := by kernel_rfl
  i0 := by kernel_rfl
  i2 := by kernel_rfl
  i3 := by kernel_rfl
  i4 := by kernel_rfl
  i5 := by kernel_rfl
  i9 := by kernel_rfl
  i20 := by kernel_rfl
  i37 := by kernel_rfl
  i46 := by kernel_rfl
  i51 := by kernel_rfl
  i53 := by kernel_rfl
  i171 := by kernel_rfl
  i173 := by kernel_rfl
  i212 := by kernel_rfl
  i232 := by kernel_rfl
  i233 := by kernel_rfl
  m17 := by kernel_rfl
  m18 := by kernel_rfl
  m19 := by kernel_rfl }
def Tryz.pintL_ren : Go.Shelf.Ren := ⟨fun | 174 => 205 | 247 => 244 | 245 => 245 | 287 => 269 | 279 => 270 | 280 => 271 | 281 => 272 | 282 => 273 | 321 => 279 | 322 => 280 | 316 => 281 | 171 => 49 | 205 => 282 | 243 => 97 | 246 => 140 | 283 => 182 | 284 => 183 | 285 => 184 | 286 => 185 | 129 => 151 | 317 => 231 | 318 => 232 | 319 => 233 | 320 => 234 | 337 => 265 | 338 => 266 | n => n, fun | 9 => 9 | 3 => 3 | 2 => 2 | 75 => 199 | 85 => 333 | 4 => 4 | 167 => 393 | 5 => 5 | 53 => 22 | 175 => 394 | 46 => 49 | 168 => 396 | 37 => 44 | 0 => 0 | 210 => 408 | 21 => 21 | 127 => 260 | 145 => 412 | 143 => 410 | 171 => 299 | 173 => 301 | 212 => 364 | 51 => 105 | 20 => 20 | 213 => 365 | 232 => 403 | 233 => 404 | 80 => 92 | n => n, fun | 15 => 8 | 16 => 9 | 17 => 4 | 18 => 6 | 19 => 7 | n => n⟩
theorem Tryz.pintL : Go.Proofs.LaysC.n174 Tryz.prog Tryz.pintL_ren := {
  mixed := by kernel_rfl
  f129 := Tryz.func151.trans (congrArg some (by kernel_rfl))
  f171 := Tryz.func49.trans (congrArg some (by kernel_rfl))
  f174 := Tryz.func205.trans (congrArg some (by kernel_rfl))
  f205 := Tryz.func282.trans (congrArg some (by kernel_rfl))
  f243 := Tryz.func97.trans (congrArg some (by kernel_rfl))
  f245 := Tryz.func245.trans (congrArg some (by kernel_rfl))
  f246 := Tryz.func140.trans (congrArg some (by kernel_rfl))
  f247 := Tryz.func244.trans (congrArg some (by kernel_rfl))
  f279 := Tryz.func270.trans (congrArg some (by kernel_rfl))
  f280 := Tryz.func271.trans (congrArg some (by kernel_rfl))
  f281 := Tryz.func272.trans (congrArg some (by kernel_rfl))
  f282 := Tryz.func273.trans (congrArg some (by kernel_rfl))
  f283 := Tryz.func182.trans (congrArg some (by kernel_rfl))
  f284 := Tryz.func183.trans (congrArg some (by kernel_rfl))
  f285 := Tryz.func184.trans (congrArg some (by kernel_rfl))
  f286 := Tryz.func185.trans (congrArg some (by kernel_rfl))
  f287 := Tryz.func269.trans (congrArg some (by kernel_rfl))
  f316 := Tryz.func281.trans (congrArg some (by kernel_rfl))
  f317 := Tryz.func231.trans (congrArg some (by kernel_rfl))
  f318 := Tryz.func232.trans (congrArg some (by kernel_rfl))
  f319 := Tryz.func233.trans (congrArg some (by kernel_rfl))
  f320 := Tryz.func234.trans (congrArg some (by kernel_rfl))
  f321 := Tryz.func279.trans (congrArg some (by kernel_rfl))
  f322 := Tryz.func280.trans (congrArg some (by kernel_rfl))
  f337 := Tryz.func265.trans (congrArg some (by kernel_rfl))
  f338 := Tryz.func266.trans (congrArg some (by kernel_rfl))
  t0 := Tryz.underlying0
  a0 := Tryz.isAgg0
  z0 := Tryz.sizeOf0
  v0 := Tryz.zeroValue0
  t2 := Tryz.underlying2
  a2 := Tryz.isAgg2
  z2 := Tryz.sizeOf2
  v2 := Tryz.zeroValue2
  t3 := Tryz.underlying3
  a3 := Tryz.isAgg3
  z3 := Tryz.sizeOf3
  v3 := Tryz.zeroValue3
  t4 := Tryz.underlying4
  a4 := Tryz.isAgg4
  z4 := Tryz.sizeOf4
  v4 := Tryz.zeroValue4
  t5 := Tryz.underlying5
  a5 := Tryz.isAgg5
  z5 := Tryz.sizeOf5
  v5 := Tryz.zeroValue5
  t9 := Tryz.underlying9
  a9 := Tryz.isAgg9
  z9 := Tryz.sizeOf9
  v9 := Tryz.zeroValue9
  t20 := Tryz.underlying20
  a20 := Tryz.isAgg20
  z20 := Tryz.sizeOf20
  v20 := Tryz.zeroValue20
  t21 := Tryz.underlying21
  a21 := Tryz.isAgg21
  z21 := Tryz.sizeOf21
  v21 := Tryz.zeroValue21
  t37 := Tryz.underlying44
  a37 := Tryz.isAgg44
  z37 := Tryz.sizeOf44
  v37 := Tryz.zeroValue44
  t46 := Tryz.underlying49
  a46 := Tryz.isAgg49
  z46 := Tryz.sizeOf49
  v46 := Tryz.zeroValue49
  t51 := Tryz.underlying105
  a51 := Tryz.isAgg105
  z51 := Tryz.sizeOf105
  v51 := Tryz.zeroValue105
  t53 := Tryz.underlying22
  a53 := Tryz.isAgg22
  z53 := Tryz.sizeOf22
  v53 := Tryz.zeroValue22
  t75 := Tryz.underlying199
  a75 := Tryz.isAgg199
  z75 := Tryz.sizeOf199
  v75 := Tryz.zeroValue199
  t85 := Tryz.underlying333
  a85 := Tryz.isAgg333
  z85 := Tryz.sizeOf333
  v85 := Tryz.zeroValue333
  t127 := Tryz.underlying260
  a127 := Tryz.isAgg260
  z127 := Tryz.sizeOf260
  v127 := Tryz.zeroValue260
  t143 := Tryz.underlying410
  a143 := Tryz.isAgg410
  z143 := Tryz.sizeOf410
  v143 := Tryz.zeroValue410
  t145 := Tryz.underlying412
  a145 := Tryz.isAgg412
  z145 := Tryz.sizeOf412
  v145 := Tryz.zeroValue412
  t167 := Tryz.underlying393
  a167 := Tryz.isAgg393
  z167 := Tryz.sizeOf393
  v167 := Tryz.zeroValue393
  t168 := Tryz.underlying396
  a168 := Tryz.isAgg396
  z168 := Tryz.sizeOf396
  v168 := Tryz.zeroValue396
  t171 := Tryz.underlying299
  a171 := Tryz.isAgg299
  z171 := Tryz.sizeOf299
  v171 := Tryz.zeroValue299
  t173 := Tryz.underlying301
  a173 := Tryz.isAgg301
  z173 := Tryz.sizeOf301
  v173 := Tryz.zeroValue301
  t175 := Tryz.underlying394
  a175 := Tryz.isAgg394
  z175 := Tryz.sizeOf394
  v175 := Tryz.zeroValue394
  t210 := Tryz.underlying408
  a210 := Tryz.isAgg408
  z210 := Tryz.sizeOf408
  v210 := Tryz.zeroValue408
  t212 := Tryz.underlying364
  a212 := Tryz.isAgg364
  z212 := Tryz.sizeOf364
  v212 := Tryz.zeroValue364
  t213 := Tryz.underlying365
  a213 := Tryz.isAgg365
  z213 := Tryz.sizeOf365
  t232 := Tryz.underlying403
  a232 := Tryz.isAgg403
  z232 := Tryz.sizeOf403
  v232 := Tryz.zeroValue403
  t233 := Tryz.underlying404
  a233 := Tryz.isAgg404
  z233 := Tryz.sizeOf404
  v233 := Tryz.zeroValue404
  g15 := by kernel_rfl
  g16 := by kernel_rfl
  g17 := by kernel_rfl
  g18 := by kernel_rfl
  g19 := by kernel_rfl
  t80 := Tryz.underlying92
  a80 := Tryz.isAgg92
  z80 := Tryz.sizeOf92
  v80 := Tryz.zeroValue92
  i0 := by kernel_rfl
  i2 := by kernel_rfl
  i3 := by kernel_rfl
  i4 := by kernel_rfl
  i5 := by kernel_rfl
  i9 := by kernel_rfl
  i20 := by kernel_rfl
  i21 := by kernel_rfl
  i37 := by kernel_rfl
  i46 := by kernel_rfl
  i51 := by kernel_rfl
  i53 := by kernel_rfl
  i75 := by kernel_rfl
  i80 := by kernel_rfl
  i85 := by kernel_rfl
  i127 := by kernel_rfl
  i143 := by kernel_rfl
  i145 := by kernel_rfl
  i167 := by kernel_rfl
  i168 := by kernel_rfl
  i171 := by kernel_rfl
  i173 := by kernel_rfl
  i175 := by kernel_rfl
  i210 := by kernel_rfl
  i212 := by kernel_rfl
  i232 := by kernel_rfl
  i233 := by kernel_rfl
  m15 := by kernel_rfl
  m16 := by kernel_rfl
  m17 := by kernel_rfl
  m18 := by kernel_rfl
  m19 := by kernel_rfl
  c0 := by kernel_rfl
  c2 := by kernel_rfl
  c3 := by kernel_rfl
  c4 := by kernel_rfl
  c5 := by kernel_rfl
  c9 := by kernel_rfl
  c20 := by kernel_rfl
  c21 := by kernel_rfl
  c37 := by kernel_rfl
  c46 := by kernel_rfl
  c51 := by kernel_rfl
  c53 := by kernel_rfl
  c75 := by kernel_rfl
  c80 := by kernel_rfl
  c85 := by kernel_rfl
  c127 := by kernel_rfl
  c143 := by kernel_rfl
  c145 := by kernel_rfl
  c167 := by kernel_rfl
  c168 := by kernel_rfl
  c171 := by kernel_rfl
  c173 := by kernel_rfl
  c175 := by kernel_rfl
  c210 := by kernel_rfl
  c212 := by kernel_rfl
  c213 := by kernel_rfl
  c232 := by kernel_rfl
  c233 := by kernel_rfl }
def Tryz.decL_ren : Go.Shelf.Ren := ⟨fun | 197 => 116 | 260 => 161 | n => n, fun | 9 => 9 | 21 => 21 | 3 => 3 | 4 => 4 | 5 => 5 | 105 => 229 | 119 => 329 | 0 => 0 | 46 => 49 | 139 => 332 | 138 => 331 | n => n, fun | 3 => 2 | 4 => 3 | n => n⟩
theorem Tryz.decL : Go.Proofs.Lays.n197 Tryz.prog Tryz.decL_ren := {
  mixed := by kernel_rfl
  f197 := Tryz.func116.trans (congrArg some (by kernel_rfl))
  f260 := Tryz.func161.trans (congrArg some (by kernel_rfl))
  t0 := Tryz.underlying0
  a0 := Tryz.isAgg0
  z0 := Tryz.sizeOf0
  v0 := Tryz.zeroValue0
  t3 := Tryz.underlying3
  a3 := Tryz.isAgg3
  z3 := Tryz.sizeOf3
  v3 := Tryz.zeroValue3
  t4 := Tryz.underlying4
  a4 := Tryz.isAgg4
  z4 := Tryz.sizeOf4
  v4 := Tryz.zeroValue4
  t5 := Tryz.underlying5
  a5 := Tryz.isAgg5
  z5 := Tryz.sizeOf5
  v5 := Tryz.zeroValue5
  t9 := Tryz.underlying9
  a9 := Tryz.isAgg9
  z9 := Tryz.sizeOf9
  v9 := Tryz.zeroValue9
  t21 := Tryz.underlying21
  a21 := Tryz.isAgg21
  z21 := Tryz.sizeOf21
  v21 := Tryz.zeroValue21
  t46 := Tryz.underlying49
  a46 := Tryz.isAgg49
  z46 := Tryz.sizeOf49
  v46 := Tryz.zeroValue49
  t105 := Tryz.underlying229
  a105 := Tryz.isAgg229
  z105 := Tryz.sizeOf229
  v105 := Tryz.zeroValue229
  t119 := Tryz.underlying329
  a119 := Tryz.isAgg329
  z119 := Tryz.sizeOf329
  t138 := Tryz.underlying331
  a138 := Tryz.isAgg331
  z138 := Tryz.sizeOf331
  v138 := Tryz.zeroValue331
  t139 := Tryz.underlying332
  a139 := Tryz.isAgg332
  z139 := Tryz.sizeOf332
  v139 := Tryz.zeroValue332
  g3 := by kernel_rfl
  g4 := by kernel_rfl }
theorem Tryz.bstX : Builder.Extra Tryz.prog Tryz.bstL_ren := {
  sizeBuilder := by kernel_rfl
  liesBuilder := by kernel_rfl
  t5 := Tryz.underlying5
  a5 := Tryz.isAgg5
  z5 := Tryz.sizeOf5
  v5 := Tryz.zeroValue5
  infoByte := by kernel_rfl
  cellsByte := by kernel_rfl
  sizeByte := by kernel_rfl
  neB5 := by decide }
/-- A text. -/
def strV (l : List UInt8) : Value := .string ⟨l.toArray⟩
/-- The library's tables and errors, as the program's text lays them. -/
structure Tabs (w : World) : Prop where
  pow : Lib.TabIs Tryz.prog w "internal/strconv.uint64pow10" .u64 Lib.pow10Tab
  utf : Lib.Utf8Tabs 2 3 w
  syn : ∃ te pe, w.cell? ⟨8, 0, none⟩ = some (.iface te pe)
  rng : ∃ te pe, w.cell? ⟨9, 0, none⟩ = some (.iface te pe)
theorem lt_of_cell {w : World} {a : Addr} {v : Value} (hc : w.cell? a = some v) : a.block < w.heap.size := by
  rcases Nat.lt_or_ge a.block w.heap.size with h' | h'
  · exact h'
  · simp [World.cell?, Array.getElem?_eq_none h'] at hc
theorem tabIs_ext {n : String} {g : Nat} {k : IntKind} {zs : List Int} {w w' : World} (hg : Tryz.prog.globalNamed n = some g) (h : Lib.TabIs Tryz.prog w n k zs) (hb : Ext w w') : Lib.TabIs Tryz.prog w' n k zs := by
  unfold Lib.TabIs World.var? at h ⊢
  rw [hg] at h ⊢
  simp only [Option.bind_some] at h ⊢
  have hlt : g < w.heap.size := by
    rcases Nat.lt_or_ge g w.heap.size with h' | h'
    · exact h'
    · rw [Array.getElem?_eq_none h'] at h; cases h
  rw [hb.block g hlt]
  exact h
theorem powNamed : Tryz.prog.globalNamed "internal/strconv.uint64pow10" = some 4 := by kernel_rfl
theorem Tabs.ext {w w' : World} (h : Tabs w) (hb : Ext w w') : Tabs w' := by
  obtain ⟨te, pe, h1⟩ := h.syn
  obtain ⟨te', pe', h2⟩ := h.rng
  exact ⟨tabIs_ext powNamed h.pow hb, Utf8Tabs_below h.utf hb, ⟨te, pe, (hb.cell (lt_of_cell h1)).trans h1⟩, ⟨te', pe', (hb.cell (lt_of_cell h2)).trans h2⟩⟩
theorem IndexByte_c (s : ByteArray) (c : Int) (w : World) :
    Calls Tryz.prog 117 #[.string s, .int .u8 c] w fun e w' => e = .returned (.int .i64 (Lib.indexByte s.data.toList c.toNat.toUInt8)) ∧ w' = w := Any.strings_IndexByte Tryz.ixbL s c w
theorem ext_grow' {w : World} {k : Nat} {os : Array Obj} : Ext w (grow (w.drewN k) os) := by
  refine ⟨rfl, rfl, rfl, ?_, fun i hi => ?_⟩
  · show _ ≤ ((w.drewN k).heap ++ os).size
    rw [Array.size_append]
    exact Nat.le_add_right _ _
  · show ((w.drewN k).heap ++ os)[i]? = _
    rw [Array.getElem?_append_left (by exact hi)]
    rfl
theorem Itoa_c (n : Int) (hn : I64 n) (w : World) (hT : Tabs w) :
    Calls Tryz.prog 49 #[.int .i64 n] w fun e w' => e = .returned (strV (Lib.itoa n)) ∧ Ext w w' :=
  (Any.strconv_Itoa Tryz.itoaL n hn.1 hn.2 w hT.pow).mono fun e w' h => by
    obtain ⟨h1, k, os, rfl⟩ := h
    exact ⟨h1, ext_grow'⟩
theorem FormatInt_c (n : Int) (hn : I64 n) (w : World) (hT : Tabs w) :
    Calls Tryz.prog 89 #[.int .i64 n, .int .i64 10] w fun e w' => e = .returned (strV (Lib.itoa n)) ∧ Ext w w' :=
  (Any.strconv_FormatInt_10 Tryz.fmtL n hn.1 hn.2 w hT.pow).mono fun e w' h => by
    obtain ⟨h1, k, os, rfl⟩ := h
    exact ⟨h1, ext_grow'⟩
theorem ext_bytesWorld {w : World} {t : TypeId} {s : ByteArray} : Ext w (Lib.bytesWorld w t s) := by
  unfold Lib.bytesWorld
  exact Lib.below_freeze ((Ext.refl w).drewR.allocR _) (p := ⟨w.heap.size, _, none⟩) (Nat.le_refl _) 1
theorem parseB_range {l : List UInt8} {n : Int} (h : Lib.parseIntB 64 l = .ok n) : I64 n := by
  unfold Lib.parseIntB at h
  cases l with
  | nil => cases h
  | cons c r =>
    dsimp only at h
    generalize Lib.parseUintB 64 _ = q at h
    rcases q with u | _ | _
    rotate_left
    · cases h
    · cases h
    · dsimp only at h
      by_cases h1 : ¬ c.toNat = 45 ∧ 2 ^ (64 - 1) ≤ u
      · rw [if_pos h1] at h; cases h
      · rw [if_neg h1] at h
        by_cases h2 : c.toNat = 45 ∧ 2 ^ (64 - 1) < u
        · rw [if_pos h2] at h; cases h
        · rw [if_neg h2] at h
          injection h with h
          subst h
          unfold I64
          by_cases h3 : c.toNat = 45
          · rw [if_pos h3]; omega
          · rw [if_neg h3]; omega
theorem intSat_range (l : List UInt8) : I64 (Lib.intSat 64 l) := by
  unfold Lib.intSat I64
  split <;> omega
/-- What ParseInt answers: the number, or 0, or the greatest or the least, and whether there is an error. -/
theorem ParseInt_c (s : ByteArray) (hs : s.size ≤ 100000000) (w : World) (hT : Tabs w) :
    Calls Tryz.prog 205 #[.string s, .int .i64 10, .int .i64 64] w fun e w' => (∃ n er, e = .returned (.tuple #[.int .i64 n, er]) ∧ I64 n ∧ ((er = .nilIface ∧ Lib.parseIntB 64 s.data.toList = .ok n) ∨ ((∃ N, er = .iface 396 (.pointer (some ⟨N, 0, none⟩))) ∧ ∀ m, Lib.parseIntB 64 s.data.toList ≠ .ok m))) ∧ Ext w w' := by
  obtain ⟨te, pe, h1⟩ := hT.syn
  obtain ⟨te', pe', h2⟩ := hT.rng
  rcases hp : Lib.parseIntB 64 s.data.toList with v | _ | _
  · refine (Any.strconv_ParseInt_10_at64_ok Tryz.pintL s (by omega) v hp w).mono fun e w' h => ?_
    obtain ⟨h3, h4⟩ := h
    refine ⟨⟨v, _, h3, parseB_range hp, .inl ⟨rfl, rfl⟩⟩, ?_⟩
    rcases h4 with rfl | ⟨t, rfl⟩
    · exact Ext.refl _
    · exact ext_bytesWorld
  · refine (Any.strconv_ParseInt_10_at64_syntax Tryz.pintL s (by omega) hp _ w h1 (.inr ⟨_, _, rfl⟩)).mono fun e w' h => ?_
    obtain ⟨N, h3, _, _, h4⟩ := h
    exact ⟨⟨0, _, h3, by unfold I64; omega, .inr ⟨⟨N, rfl⟩, fun m hm => by cases hm⟩⟩, h4⟩
  · refine (Any.strconv_ParseInt_10_at64_range Tryz.pintL s (by omega) hp _ w h2 (.inr ⟨_, _, rfl⟩)).mono fun e w' h => ?_
    obtain ⟨N, h3, _, _, h4⟩ := h
    exact ⟨⟨_, _, h3, intSat_range _, .inr ⟨⟨N, rfl⟩, fun m hm => by cases hm⟩⟩, h4⟩
theorem DecodeRune_c (s : ByteArray) (pos : Nat) (h : pos < s.size) (w : World) (hT : Tabs w) :
    Calls Tryz.prog 116 #[.string (s.extract pos s.size)] w fun e w' => e = .returned (.tuple #[.int .i32 (Utf8.decode s pos).1, .int .i64 (Utf8.decode s pos).2]) ∧ Ext w w' := by
  have h1 : Lib.decodeGo (s.extract pos s.size) = Utf8.decode s pos := by
    unfold Lib.decodeGo
    rw [if_neg (by rw [Lib.tail_size]; omega), Lib.tail_decode, Nat.add_zero]
  rw [← h1]
  exact Any.utf8_DecodeRuneInString Tryz.decL _ w hT.utf
end Go.Proofs.YtmalncfcgcebhaaGreatDoor
namespace Go.Proofs.YtmalncfcgcebhaaGreatDoor
set_option linter.unusedVariables false
open Go.Proofs Go.RowKit
/-- The place of the first byte that is no part of a character, from a place on. -/
def tornFrom (s : ByteArray) : Nat → Nat → Int
  | 0, _ => -1
  | f + 1, pos => if pos < s.size then (if Utf8.decode s pos = (65533, 1) then (pos : Int) else tornFrom s f (pos + (Utf8.decode s pos).2)) else -1
def tornS (s : ByteArray) : Int := tornFrom s s.size 0
theorem tornFrom_end (s : ByteArray) (f pos : Nat) (h : ¬ pos < s.size) : tornFrom s f pos = -1 := by
  cases f with
  | zero => rfl
  | succ f => simp [tornFrom, h]
theorem width_pos (s : ByteArray) (pos : Nat) (h : pos < s.size) : 1 ≤ (Utf8.decode s pos).2 := by
  by_cases ha : (s[pos]'h).toNat < 128
  · rw [decode_ascii s pos h ha]
    exact Nat.le_refl _
  · exact (decode_high s pos h (by omega)).2
theorem Ext.iterAt {a w : World} (h : Ext a w) {k : Nat} (hk : a.heap.size ≤ k) (s : ByteArray) (pos : Nat) : Ext a (w.iterAt k s pos) := Lib.below_iterAt h hk s pos
set_option maxRecDepth 20000 in
set_option maxHeartbeats 4000000 in
theorem Torn_c (s : ByteArray) (hs : s.size ≤ 1000000000) (w : World) (hT : Tabs w) :
    Calls Tryz.prog 78 #[.string s] w fun e w' => e = .returned (.int .i64 (tornS s)) ∧ Ext w w' := by
  go_enter Tryz.func78, Tryz.ntmps78
  go_wp2
  go_loopw [3, 4, 5, 6] (fun _ _ _ _ wr => ∃ pos fuel, wr.heap[w.heap.size]? = some (.stringIter s pos) ∧ Ext w wr ∧ tornFrom s fuel pos = tornS s ∧ s.size ≤ pos + fuel) (fun _ _ _ _ wr => s.size - wr.iterPos w.heap.size)
  case atStart =>
    refine ⟨0, s.size, ?_, (Ext.refl w).allocR _, rfl, by omega⟩
    exact World.iter_heap w s 0
  case round =>
    obtain ⟨pos, fuel, hit, hE, htf, hfu⟩ := hrel
    have hmu : wr.iterPos w.heap.size = pos := by simp [World.iterPos, hit]
    by_cases hp : pos < s.size
    · have hnx : ∀ ty, (Instr.next (.pointer (some ⟨w.heap.size, 0, none⟩)) true ty).run Tryz.prog wr = _ := fun ty => Lib.run_next_any_at wr w.heap.size s pos ty hit hp
      have hwd := width_pos s pos hp
      have hd1 := decode_le s pos
      have hit2 := Lib.iterAt_heap wr w.heap.size s pos (pos + (Utf8.decode s pos).2) hit
      have hE2 := hE.iterAt (Nat.le_refl _) s (pos + (Utf8.decode s pos).2)
      have hT2 := hT.ext hE2
      obtain ⟨f, rfl⟩ : ∃ f, fuel = f + 1 := ⟨fuel - 1, by omega⟩
      rw [tornFrom, if_pos hp] at htf
      have HTF := Lib.hid htf
      clear htf
      generalize hW : wr.iterAt w.heap.size s (pos + (Utf8.decode s pos).2) = W1 at hnx hit2 hE2 hT2
      have hdc := DecodeRune_c s pos hp
      generalize hdd : Utf8.decode s pos = D at *
      obtain ⟨r, k⟩ := D
      dsimp only at *
      by_cases hr : r = 65533
      · subst hr
        go_wp2_with fail
        refine Calls.mono (hdc _ hT2) ?_
        rintro e w2 ⟨rfl, hx2⟩
        by_cases hk : k = 1
        · subst hk
          go_wp2
          go_ret
          exact ⟨by rw [← HTF.out]; rfl, hE2.trans' hx2⟩
        · have hk1 : ((k : Int) == 1) = false := beq_eq_false_iff_ne.2 (by omega)
          have hit3 := hx2.keep hit2
          have hE3 := hE2.trans' hx2
          clear hx2
          go_wp2
          go_roundw
          case rel => exact ⟨pos + k, f, hit3, hE3, by rw [← HTF.out, if_neg (by intro h; cases h; exact hk rfl)], by omega⟩
          case measure => simp only [World.iterPos, hit3, hit]; omega
      · go_wp2
        go_roundw
        case rel => exact ⟨pos + k, f, hit2, hE2, by rw [← HTF.out, if_neg (by intro h; cases h; exact hr rfl)], by omega⟩
        case measure => simp only [World.iterPos, hit2, hit]; omega
    · have hnx : ∀ ty, (Instr.next (.pointer (some ⟨w.heap.size, 0, none⟩)) true ty).run Tryz.prog wr = _ := fun ty => Lib.run_next_end_at wr w.heap.size s pos ty hit hp
      rw [tornFrom_end s fuel pos hp] at htf
      have HTF := Lib.hid htf
      clear htf
      go_wp2
      go_ret
      exact ⟨by rw [← HTF.out]; rfl, hE⟩
end Go.Proofs.YtmalncfcgcebhaaGreatDoor
namespace Go.Proofs.YtmalncfcgcebhaaGreatDoor
set_option linter.unusedVariables false
open Go.Proofs Go.RowKit
/-- Where a word ends that goes on at a place. -/
def wordEnd (s : ByteArray) : Nat → Nat → Nat
  | 0, e => e
  | f + 1, e => if e < s.size ∧ s.data.toList.getD e 0 ≠ 32 then wordEnd s f (e + 1) else e
/-- From where on a word is gone through: behind a quote's text. -/
def wordSkip (s : ByteArray) (at_ : Nat) : Nat :=
  if s.data.toList.getD at_ 0 = 34 then (if Lib.indexByte (s.data.toList.drop (at_ + 1)) 34 < 0 then s.size else at_ + 1 + (Lib.indexByte (s.data.toList.drop (at_ + 1)) 34).toNat) else at_
/-- Begin and end of the words from a place on. -/
def wordsFrom (s : ByteArray) : Nat → Nat → List (Nat × Nat)
  | 0, _ => []
  | f + 1, at_ => if at_ < s.size then (if s.data.toList.getD at_ 0 = 32 then wordsFrom s f (at_ + 1) else (at_, wordEnd s s.size (wordSkip s at_)) :: wordsFrom s f (wordEnd s s.size (wordSkip s at_))) else []
def wordsS (s : ByteArray) : List (Nat × Nat) := wordsFrom s (s.size + 1) 0
def wordV (s : ByteArray) (l : List (Nat × Nat)) : List Value := l.flatMap fun p => [.string (s.extract p.1 p.2), .int .i64 p.1]
theorem wordEnd_le (s : ByteArray) : ∀ (f e : Nat), e ≤ s.size → e ≤ wordEnd s f e ∧ wordEnd s f e ≤ s.size
  | 0, e, h => ⟨Nat.le_refl _, h⟩
  | f + 1, e, h => by
    unfold wordEnd
    split
    · rename_i h1
      have := wordEnd_le s f (e + 1) h1.1
      omega
    · exact ⟨Nat.le_refl _, h⟩
theorem ixb_le (c : UInt8) : ∀ l : List UInt8, Lib.indexByte l c ≤ l.length
  | [] => by simp [Lib.indexByte]
  | b :: l => by
    have := ixb_le c l
    unfold Lib.indexByte
    rw [List.length_cons]
    split
    · omega
    · split <;> omega
theorem wordSkip_le (s : ByteArray) (a : Nat) (h : a < s.size) : a ≤ wordSkip s a ∧ wordSkip s a ≤ s.size ∧ (s.data.toList.getD a 0 = 34 → a < wordSkip s a) := by
  unfold wordSkip
  have h1 := ixb_le 34 (s.data.toList.drop (a + 1))
  rw [List.length_drop, ← Lib.size_eq] at h1
  split
  · rename_i h34
    split
    · exact ⟨by omega, by omega, fun _ => by omega⟩
    · exact ⟨by omega, by omega, fun _ => by omega⟩
  · rename_i h34
    exact ⟨by omega, by omega, fun e => absurd e h34⟩
theorem wordEnd_gt (s : ByteArray) (a : Nat) (h : a < s.size) (h32 : s.data.toList.getD a 0 ≠ 32) : a < wordEnd s s.size (wordSkip s a) := by
  obtain ⟨h1, h2, h3⟩ := wordSkip_le s a h
  by_cases h34 : s.data.toList.getD a 0 = 34
  · have := wordEnd_le s s.size _ h2
    have := h3 h34
    omega
  · have e : wordSkip s a = a := by unfold wordSkip; rw [if_neg h34]
    rw [e]
    obtain ⟨m, hm⟩ : ∃ m, s.size = m + 1 := ⟨s.size - 1, by omega⟩
    conv => rhs; rw [hm]
    rw [wordEnd, if_pos ⟨h, h32⟩]
    have := wordEnd_le s m (a + 1) h
    omega
theorem info_word : ∃ i z, Tryz.prog.info? 233 = some i ∧ i.zero = some z ∧ i.size = 2 ∧ i.bytes = 24 ∧ z.cells.size = 2 := by
  have h : (Tryz.prog.info? 233).map (fun i => (i.zero, i.size, i.bytes)) = some (some (.agg #[.string ⟨#[]⟩, .int .i64 0]), 2, 24) := by kernel_rfl
  match hi : Tryz.prog.info? 233, h with
  | some i, h =>
    simp only [Option.map_some, Option.some.injEq, Prod.mk.injEq] at h
    exact ⟨i, _, rfl, h.1, h.2.1, h.2.2, rfl⟩
theorem bt_t {s : ByteArray} {i : Nat} (h : i < s.size) {c : UInt8} (hc : s.data.toList.getD i 0 = c) {n : Int} (hn : (c.toNat : Int) = n) : (((s[i]'h).toNat : Int) == n) = true := by
  rw [Lib.getD_at s i h, hc, hn]
  exact beq_self_eq_true n
theorem bt_f {s : ByteArray} {i : Nat} (h : i < s.size) {c : UInt8} (hc : s.data.toList.getD i 0 ≠ c) {n : Int} (hn : (c.toNat : Int) = n) : (((s[i]'h).toNat : Int) == n) = false := by
  rw [Lib.getD_at s i h, ← hn]
  refine beq_eq_false_iff_ne.2 fun e => hc ?_
  have : (s.data.toList.getD i 0).toNat = c.toNat := by omega
  exact UInt8.toNat_inj.1 this
set_option maxRecDepth 20000 in
set_option maxHeartbeats 4000000 in
theorem Words_c (s : ByteArray) (hs : s.size ≤ 100000000) (w : World) (hT : Tabs w) :
    Calls Tryz.prog 79 #[.string s] w fun e w' => (∃ v, e = .returned v ∧ w'.ownsRow w.heap.size 233 2 v (wordsS s).length (wordV s (wordsS s))) ∧ Ext w w' := by
  go_enter Tryz.func79, Tryz.ntmps79
  go_wp2
  go_loopw [2, 3, 4, 5] (fun u2 u3 _ _ wr => ∃ at_ fuel done, at_ ≤ s.size ∧ u3 = .int .i64 at_ ∧ wr.ownsRow w.heap.size 233 2 u2 done.length (wordV s done) ∧ Ext w wr ∧ done ++ wordsFrom s fuel at_ = wordsS s ∧ s.size < at_ + fuel ∧ done.length ≤ at_) (fun _ u3 _ _ wr => s.size - (intOf u3).toNat)
  case atStart => exact ⟨0, s.size + 1, [], by omega, rfl, ⟨rfl, .inl ⟨rfl, rfl⟩⟩, Ext.refl _, rfl, by omega, Nat.zero_le _⟩
  case round =>
    obtain ⟨at_, fuel, done, hat, rfl, hown, hE, hw, hfu, hdl⟩ := hrel
    by_cases hp : at_ < s.size
    · obtain ⟨f, rfl⟩ : ∃ f, fuel = f + 1 := ⟨fuel - 1, by omega⟩
      rw [wordsFrom, if_pos hp] at hw
      have HW := Lib.hid hw
      have HO := Lib.hid hown
      clear hw hown
      by_cases h32 : s.data.toList.getD at_ 0 = 32
      · have e32 := bt_t hp h32 (n := 32) rfl
        have hw := HW.out
        rw [if_pos h32] at hw
        have HW2 := Lib.hid hw
        clear hw HW
        go_wp2
        go_roundw
        case rel => exact ⟨at_ + 1, f, done, by omega, by go_num, HO.out, hE, HW2.out, by omega, by omega⟩
        case measure => simp [intOf]; omega
      · have e32 := bt_f hp h32 (n := 32) rfl
        have hw := HW.out
        rw [if_neg h32] at hw
        have HW2 := Lib.hid hw
        clear hw HW
        go_upto_if 20 with (fail)
        go_cut [4, 5] (fun s4 _ wx => s4 = .int .i64 (wordSkip s at_) ∧ wx = wr)
        case first =>
          by_cases h34 : s.data.toList.getD at_ 0 = 34
          · have e34 := bt_t hp h34 (n := 34) rfl
            have hge := Lib.indexByte_ge (s.data.toList.drop (at_ + 1)) 34
            have hlt := ixb_le 34 (s.data.toList.drop (at_ + 1))
            rw [List.length_drop, ← Lib.size_eq] at hlt
            have hx : (s.extract (at_ + 1) s.size).data.toList = s.data.toList.drop (at_ + 1) := by
              rw [Lib.extract_data, List.take_of_length_le (by rw [List.length_drop, ← Lib.size_eq]; omega)]
            have hws : wordSkip s at_ = (if Lib.indexByte (s.data.toList.drop (at_ + 1)) 34 < 0 then s.size else at_ + 1 + (Lib.indexByte (s.data.toList.drop (at_ + 1)) 34).toNat) := by unfold wordSkip; rw [if_pos h34]
            have hq : ∀ W, Calls Tryz.prog 117 #[.string (s.extract (at_ + 1) s.size), .int .u8 34] W fun e w' => e = .returned (.int .i64 (Lib.indexByte (s.data.toList.drop (at_ + 1)) 34)) ∧ w' = W := by
              intro W
              have := IndexByte_c (s.extract (at_ + 1) s.size) 34 W
              rw [hx] at this
              exact this
            have HWS := Lib.hid hws
            clear hws hx
            generalize Lib.indexByte (s.data.toList.drop (at_ + 1)) 34 = q at *
            go_wp2_with fail
            refine Calls.mono (hq _) ?_
            rintro e w2 ⟨rfl, rfl⟩
            by_cases hq0 : q < 0
            · go_wp2_with fail
              go_meet
              exact ⟨by rw [HWS.out, if_pos hq0], rfl⟩
            · obtain ⟨q, rfl⟩ : ∃ m : Nat, q = (m : Int) := ⟨q.toNat, by omega⟩
              go_wp2_with fail
              go_meet
              exact ⟨by rw [HWS.out, if_neg (by omega)]; go_num, rfl⟩
          · have e34 := bt_f hp h34 (n := 34) rfl
            have hws : wordSkip s at_ = at_ := by unfold wordSkip; rw [if_neg h34]
            go_wp2_with fail
            go_meet
            exact ⟨by rw [hws], rfl⟩
        case rest =>
          obtain ⟨rfl, rfl⟩ := hcut
          obtain ⟨hk1, hk2, _⟩ := wordSkip_le s at_ hp
          have hgt := wordEnd_gt s at_ hp h32
          have hend := wordEnd_le s s.size _ hk2
          generalize hK : wordSkip s at_ = kk at *
          generalize hEN : wordEnd s s.size kk = en at *
          clear e32
          go_upto_block 2 with (fail)
          go_cut [4] (fun s4 wx => s4 = .int .i64 (en : Nat) ∧ wx = wc)
          case first =>
            go_wp2_with fail
            go_loopw [4] (fun u4 wi => ∃ e f2, e ≤ s.size ∧ u4 = .int .i64 (e : Nat) ∧ wi = wc ∧ wordEnd s f2 e = en ∧ s.size ≤ e + f2) (fun u4 _ => s.size - (intOf u4).toNat)
            case atStart => exact ⟨kk, s.size, hk2, rfl, by first | rfl | trivial, hEN, by omega⟩
            case round =>
              obtain ⟨e, f2, he, rfl, rfl, hwe, hf2⟩ := hrel
              by_cases hes : e < s.size
              · obtain ⟨f3, rfl⟩ : ∃ f3, f2 = f3 + 1 := ⟨f2 - 1, by omega⟩
                by_cases h32' : s.data.toList.getD e 0 = 32
                · have e32 := bt_t hes h32' (n := 32) rfl
                  have hee : e = en := by rw [← hwe, wordEnd, if_neg (fun h => h.2 h32')]
                  have HEE := Lib.hid hee
                  clear hee hwe
                  go_wp2_with fail
                  go_meet
                  exact ⟨by rw [HEE.out], rfl⟩
                · have e32 := bt_f hes h32' (n := 32) rfl
                  rw [wordEnd, if_pos ⟨hes, h32'⟩] at hwe
                  have HWE := Lib.hid hwe
                  clear hwe
                  go_wp2_with fail
                  go_roundw
                  case rel => exact ⟨e + 1, f3, by omega, by go_num, by first | rfl | trivial, HWE.out, by omega⟩
                  case measure => simp [intOf]; omega
              · have hee : e = en := by
                  rw [← hwe]
                  cases f2 with
                  | zero => rfl
                  | succ f3 => rw [wordEnd, if_neg (fun h => hes h.1)]
                have HEE := Lib.hid hee
                clear hee hwe
                go_wp2_with fail
                go_meet
                exact ⟨by rw [HEE.out], rfl⟩
          case rest =>
            obtain ⟨rfl, rfl⟩ := hcut
            have hsz := hE.size
            go_wp2_with (at_builtin; refine wpList_appK wc 2 24 1 (by decide) (by decide) [.string (s.extract at_ en), .int .i64 (at_ : Nat)] rfl (by simp [Value.oneCell']) _ done.length _ w.heap.size 233 _ HO.out 161 rfl _ _ rfl info_word Tryz.underlying161 _ rfl (by rfl) (by rfl) (by omega) hsz ?_)
            intro v' w' hw1 hw2 hw3
            have hE2 : Ext w w' := ext_grown hE hw2 (fun j hj => own_geB HO.out hj)
            have hvv : wordV s (done ++ [(at_, en)]) = wordV s done ++ [.string (s.extract at_ en), .int .i64 (at_ : Nat)] := by
              unfold wordV; rw [List.flatMap_append]; rfl
            rw [← hvv] at hw1
            have H1 := Lib.hid hw1
            clear hw1 hw2 hw3 hvv
            go_wp2
            go_roundw
            case rel => exact ⟨en, f, done ++ [(at_, en)], by omega, rfl, by rw [List.length_append]; exact H1.out, hE2, by rw [List.append_assoc]; exact HW2.out, by omega, by rw [List.length_append, List.length_singleton]; omega⟩
            case measure => simp [intOf]; omega
    · have hw2 : done = wordsS s := by
        rw [← hw]
        cases fuel with
        | zero => simp [wordsFrom]
        | succ f => simp [wordsFrom, hp]
      subst hw2
      have HO := Lib.hid hown
      clear hown hw
      go_wp2
      go_ret
      exact ⟨⟨_, rfl, HO.out⟩, hE⟩
end Go.Proofs.YtmalncfcgcebhaaGreatDoor
namespace Go.Proofs.YtmalncfcgcebhaaGreatDoor
set_option linter.unusedVariables false
open Go.Lib
theorem dec_mem (u : Nat) : ∀ c ∈ decDigits u, 48 ≤ c.toNat ∧ c.toNat ≤ 57 := by
  induction u using Nat.strongRecOn with
  | _ u ih =>
    intro c hc
    unfold decDigits at hc
    split at hc
    · rename_i h
      simp only [List.mem_singleton] at hc
      subst hc
      rw [UInt8.toNat_ofNat']
      omega
    · rename_i h
      rcases List.mem_append.1 hc with hc | hc
      · exact ih (u / 10) (by omega) c hc
      · simp only [List.mem_singleton] at hc
        subst hc
        rw [UInt8.toNat_ofNat']
        omega
theorem dec_ne (u : Nat) : decDigits u ≠ [] := by
  unfold decDigits
  split <;> simp
theorem dig_nat {d : Nat} (h : d < 10) : (UInt8.ofNat (48 + d)).toNat = 48 + d := by rw [UInt8.toNat_ofNat']; omega
theorem parse_dec (u : Nat) (hu : u < 18446744073709551616) : ∀ r, parseUintM 18446744073709551615 0 (decDigits u ++ r) = parseUintM 18446744073709551615 u r := by
  induction u using Nat.strongRecOn with
  | _ u ih =>
    intro r
    unfold decDigits
    split
    · rename_i h
      show parseUintM _ 0 (UInt8.ofNat (48 + u) :: r) = _
      conv => lhs; unfold parseUintM
      rw [dig_nat h, if_pos (by omega), if_neg (by omega), if_neg (by omega)]
      congr 1
      omega
    · rename_i h
      have hd : u % 10 < 10 := Nat.mod_lt _ (by decide)
      rw [List.append_assoc, ih (u / 10) (by omega) (by omega)]
      show parseUintM _ (u / 10) (UInt8.ofNat (48 + u % 10) :: r) = _
      conv => lhs; unfold parseUintM
      rw [dig_nat hd, if_pos (by omega), if_neg (by omega), if_neg (by omega)]
      congr 1
      omega
theorem parse_decB {u : Nat} (hu : u < 18446744073709551616) : parseUintB 64 (decDigits u) = .ok u := by
  unfold parseUintB
  rw [if_neg (dec_ne u)]
  have h := parse_dec u hu []
  rw [List.append_nil] at h
  exact h
/-- What is written is read again. -/
theorem parse_itoa {n : Int} (h0 : -9223372036854775808 ≤ n) (h1 : n ≤ 9223372036854775807) : parseIntB 64 (itoa n) = .ok n := by
  by_cases hn : n < 0
  · obtain ⟨u, rfl⟩ : ∃ u : Nat, n = -(u : Int) := ⟨n.natAbs, by omega⟩
    rw [itoa_neg u (by omega)]
    unfold parseIntB
    dsimp only
    rw [if_pos (by simp), parse_decB (by omega)]
    dsimp only
    show (if _ then _ else if _ then _ else _) = _
    rw [if_neg (by simp), if_neg (by simp; omega)]
    rfl
  · obtain ⟨u, rfl⟩ : ∃ u : Nat, n = (u : Int) := ⟨n.natAbs, by omega⟩
    rw [itoa_nonneg]
    obtain ⟨c, r, hcr⟩ := List.exists_cons_of_ne_nil (dec_ne u)
    have hc := dec_mem u c (by rw [hcr]; simp)
    have hp := parse_decB (u := u) (by omega)
    rw [hcr] at hp ⊢
    unfold parseIntB
    simp only
    rw [if_neg (by omega), hp]
    simp only
    rw [if_neg (by omega), if_neg (by omega), if_neg (by omega)]
theorem itoa_mem (n : Int) : ∀ c ∈ itoa n, c.toNat = 45 ∨ (48 ≤ c.toNat ∧ c.toNat ≤ 57) := by
  intro c hc
  unfold itoa at hc
  split at hc
  · rcases List.mem_cons.1 hc with rfl | hc
    · exact .inl rfl
    · exact .inr (dec_mem _ c hc)
  · exact .inr (dec_mem _ c hc)
theorem itoa_ne (n : Int) : itoa n ≠ [] := by
  unfold itoa
  split
  · simp
  · exact dec_ne _
end Go.Proofs.YtmalncfcgcebhaaGreatDoor
namespace Go.Proofs.YtmalncfcgcebhaaGreatDoor
set_option linter.unusedVariables false
open Go.Proofs Go.RowKit
/-- The number that a word tells. -/
def numOf (l : List UInt8) : Option Int :=
  match Lib.parseIntB 64 l with
  | .ok n => if Lib.itoa n = l then some n else none
  | _ => none
theorem numOf_ok {l : List UInt8} {n : Int} (h : Lib.parseIntB 64 l = .ok n) : numOf l = if Lib.itoa n = l then some n else none := by unfold numOf; rw [h]
theorem numOf_no {l : List UInt8} (h : ∀ n, Lib.parseIntB 64 l ≠ .ok n) : numOf l = none := by
  unfold numOf
  rcases hp : Lib.parseIntB 64 l with v | _ | _
  · exact absurd hp (h v)
  · rfl
  · rfl
theorem numOf_range {l : List UInt8} {n : Int} (h : numOf l = some n) : I64 n := by
  unfold numOf at h
  split at h
  · rename_i m hp
    split at h
    · cases h; exact parseB_range hp
    · cases h
  · cases h
set_option maxRecDepth 20000 in
set_option maxHeartbeats 4000000 in
theorem Number_c (s : ByteArray) (hs : s.size ≤ 100000000) (w : World) (hT : Tabs w) :
    Calls Tryz.prog 165 #[.string s] w fun e w' => (∃ n, e = .returned (.tuple #[.int .i64 n, .bool (numOf s.data.toList).isSome]) ∧ I64 n ∧ ∀ m, numOf s.data.toList = some m → n = m) ∧ Ext w w' := by
  go_enter Tryz.func165, Tryz.ntmps165
  go_wp2_with fail
  refine Calls.mono (ParseInt_c s hs w hT) ?_
  rintro e w1 ⟨⟨n, er, rfl, hn, hc⟩, hx1⟩
  have hT1 := hT.ext hx1
  rcases hc with ⟨rfl, hp⟩ | ⟨⟨N, rfl⟩, hp⟩
  · have hno := numOf_ok hp
    go_wp2_with fail
    refine Calls.mono (FormatInt_c n hn w1 hT1) ?_
    rintro e w2 ⟨rfl, hx2⟩
    unfold strV
    go_wp2_with fail
    go_ret2
    have hb : (Lib.itoa n == s.toList) = (numOf s.data.toList).isSome := by
      rw [hno, Lib.toList_data]
      by_cases he : Lib.itoa n = s.data.toList
      · rw [if_pos he, he]; simp
      · rw [if_neg he]; simpa using he
    refine ⟨⟨n, by rw [hb]; rfl, hn, fun m h => ?_⟩, hx1.trans' hx2⟩
    rw [hno] at h
    split at h
    · cases h; rfl
    · cases h
  · have hno := numOf_no hp
    go_wp2
    go_ret2
    refine ⟨⟨n, ?_, hn, fun m h => by rw [hno] at h; cases h⟩, hx1⟩
    rw [hno]; rfl
/-- The text between a word's quotes. -/
def namedOf (s : ByteArray) : Bool := decide (2 ≤ s.size) && (decide (s.data.toList.getD 0 0 = 34) && decide (Lib.indexByte (s.data.toList.drop 1) 34 = (s.size : Int) - 2))
set_option maxRecDepth 20000 in
set_option maxHeartbeats 4000000 in
theorem Named_c (s : ByteArray) (hs : s.size ≤ 100000000) (w : World) :
    Calls Tryz.prog 163 #[.string s] w fun e w' => ∃ t, e = .returned (.tuple #[.string t, .bool (namedOf s)]) ∧ (namedOf s = true → t = s.extract 1 (s.size - 1)) ∧ w' = w := by
  by_cases h2 : s.size < 2
  · have hn : namedOf s = false := by unfold namedOf; rw [decide_eq_false (by omega)]; rfl
    generalize namedOf s = nb at hn ⊢
    subst hn
    have d2 : decide ((s.size : Int) < 2) = true := decide_eq_true (by omega)
    go_enter Tryz.func163, Tryz.ntmps163
    go_wp2
    go_ret2
    exact ⟨_, rfl, fun h => by (first | (cases h; done) | trivial), rfl⟩
  · have d2 : decide ((s.size : Int) < 2) = false := decide_eq_false (by omega)
    have h0 : 0 < s.size := by omega
    by_cases h34 : s.data.toList.getD 0 0 = 34
    · have hx : (s.extract 1 s.size).data.toList = s.data.toList.drop 1 := by
        rw [Lib.extract_data, List.take_of_length_le (by rw [List.length_drop, ← Lib.size_eq]; omega)]
      have hq : ∀ W, Calls Tryz.prog 117 #[.string (s.extract 1 s.size), .int .u8 34] W fun e w' => e = .returned (.int .i64 (Lib.indexByte (s.data.toList.drop 1) 34)) ∧ w' = W := by
        intro W
        have := IndexByte_c (s.extract 1 s.size) 34 W
        rw [hx] at this
        exact this
      have e34 := bt_t (s := s) (i := 0) h0 h34 (n := 34) rfl
      have f34 : (((s[0]'h0).toNat : Int) != 34) = false := by rw [bne, e34]; rfl
      have hn : namedOf s = decide (Lib.indexByte (s.data.toList.drop 1) 34 = (s.size : Int) - 2) := by unfold namedOf; rw [decide_eq_true (by omega), decide_eq_true h34]; rfl
      clear hx
      generalize Lib.indexByte (s.data.toList.drop 1) 34 = q at *
      generalize namedOf s = nb at hn ⊢
      by_cases hqe : q = (s.size : Int) - 2
      · rw [decide_eq_true hqe] at hn
        subst hn hqe
        clear h34 e34
        go_enter Tryz.func163, Tryz.ntmps163
        go_wp2_with fail
        refine Calls.mono (hq _) ?_
        rintro e w2 ⟨rfl, rfl⟩
        go_wp2
        go_ret2
        exact ⟨_, rfl, fun _ => rfl, rfl⟩
      · rw [decide_eq_false hqe] at hn
        subst hn
        have hne : (q == (s.size : Int) - 2) = false := beq_eq_false_iff_ne.2 hqe
        have hne2 : (q != (s.size : Int) - 2) = true := by rw [bne, hne]; rfl
        clear h34 e34
        go_enter Tryz.func163, Tryz.ntmps163
        go_wp2_with fail
        refine Calls.mono (hq _) ?_
        rintro e w2 ⟨rfl, rfl⟩
        go_wp2
        go_ret2
        exact ⟨_, rfl, fun h => by (first | (cases h; done) | trivial), rfl⟩
    · have e34 := bt_f (s := s) (i := 0) h0 h34 (n := 34) rfl
      have f34 : (((s[0]'h0).toNat : Int) != 34) = true := by rw [bne, e34]; rfl
      have hn : namedOf s = false := by unfold namedOf; rw [decide_eq_false h34]; simp
      generalize namedOf s = nb at hn ⊢
      subst hn
      clear h34 h2
      go_enter Tryz.func163, Tryz.ntmps163
      go_wp2
      go_ret2
      exact ⟨_, rfl, fun h => by (first | (cases h; done) | trivial), rfl⟩
end Go.Proofs.YtmalncfcgcebhaaGreatDoor
namespace Go.Proofs.YtmalncfcgcebhaaGreatDoor
set_option linter.unusedVariables false
open Go.Proofs Go.RowKit
def wdV (W : List (ByteArray × Nat)) : List Value := W.flatMap fun p => [.string p.1, .int .i64 (p.2 : Int)]
theorem wdV_at {W : List (ByteArray × Nat)} : ∀ {k : Nat} (h : k < W.length), (wdV W)[k * 2]? = some (.string W[k].1) ∧ (wdV W)[k * 2 + 1]? = some (.int .i64 (W[k].2 : Int)) := by
  induction W with
  | nil => intro k h; simp at h
  | cons a l ih =>
    intro k h
    have e : wdV (a :: l) = .string a.1 :: .int .i64 (a.2 : Int) :: wdV l := rfl
    cases k with
    | zero => exact ⟨rfl, rfl⟩
    | succ k =>
      have := ih (k := k) (by simpa using h)
      rw [e, show (k + 1) * 2 = k * 2 + 1 + 1 by omega]
      exact this
/-- The place of the first word that does not fit, as the program keeps it. -/
def badI : Option Nat → Int
  | none => -1
  | some n => (n : Int)
/-- A reader of the words W of a line of E bytes, at word a. -/
structure RdAt (base : Nat) (w : World) (r : Nat) (W : List (ByteArray × Nat)) (E a : Nat) (bad : Option Nat) : Prop where
  b10 : 10 ≤ base
  br : base ≤ r
  hr : ∃ v, w.heap[r]? = some (.cells #[v, .int .i64 (a : Int), .int .i64 (badI bad), .int .i64 (E : Int)] 164 (0, 0)) ∧ w.ownsRow base 233 2 v W.length (wdV W)
/-- The place that a word that does not fit leaves. -/
def failR (W : List (ByteArray × Nat)) (E a : Nat) : Option Nat → Option Nat
  | some b => some b
  | none => if h : a < W.length then some W[a].2 else some E
theorem RdAt.ext {base r E a : Nat} {w w' : World} {W : List (ByteArray × Nat)} {bad : Option Nat} (h : RdAt base w r W E a bad) (hx : Ext w w') : RdAt base w' r W E a bad := by
  obtain ⟨v, h1, h2⟩ := h.hr
  exact ⟨h.b10, h.br, v, hx.keep h1, own_ext h2 hx⟩
theorem RdAt.set {base r E a a' : Nat} {w : World} {W : List (ByteArray × Nat)} {bad bad' : Option Nat} {o : Nat} {u : Value} (h : RdAt base w r W E a bad) (ho : ∀ v, (#[v, .int .i64 (a : Int), .int .i64 (badI bad), .int .i64 (E : Int)] : Array Value).setIfInBounds o u = #[v, .int .i64 (a' : Int), .int .i64 (badI bad'), .int .i64 (E : Int)]) : RdAt base (w.setCell ⟨r, o, none⟩ u) r W E a' bad' ∧ Mod (fun k => k = r) w (w.setCell ⟨r, o, none⟩ u) := by
  obtain ⟨v, h1, h2⟩ := h.hr
  have hm : Mod (fun k => k = r) w (w.setCell ⟨r, o, none⟩ u) := ⟨rfl, rfl, rfl, by rw [size_setCell]; exact Nat.le_refl _, fun k hk hn => setCell_other o u hn⟩
  refine ⟨⟨h.b10, h.br, v, ?_, ?_⟩, hm⟩
  · rw [setCell_same h1, ho]
  · exact own_keepB h2 fun k hk => setCell_other o u fun e => own_notB h2 h1 (by decide) (e ▸ hk)
theorem Mod.extR {S : Nat → Prop} {a b c : World} (h : Mod S a b) (k : Ext b c) : Mod S a c := h.trans (k.mod S)
theorem Tabs.below {w w' : World} {B : Nat} (h : Tabs w) (hB : 10 ≤ B) (hb : Below B w w') : Tabs w' := by
  have hc : ∀ {a : Addr} {v : Value}, a.block < 10 → w.cell? a = some v → w'.cell? a = some v := fun h1 h2 => (hb.cell (Nat.lt_of_lt_of_le h1 hB)).trans h2
  obtain ⟨te, pe, h1⟩ := h.syn
  obtain ⟨te', pe', h2⟩ := h.rng
  refine ⟨?_, ⟨fun c hcc => hc (by show 2 < 10; decide) (h.utf.1 c hcc), fun i hi => ⟨hc (by show 3 < 10; decide) (h.utf.2 i hi).1, hc (by show 3 < 10; decide) (h.utf.2 i hi).2⟩⟩, ⟨te, pe, hc (by decide) h1⟩, ⟨te', pe', hc (by decide) h2⟩⟩
  have hp := h.pow
  unfold Lib.TabIs World.var? at hp ⊢
  rw [powNamed] at hp ⊢
  simp only [Option.bind_some] at hp ⊢
  rw [hb.block _ (by omega)]
  exact hp
set_option maxRecDepth 20000 in
set_option maxHeartbeats 4000000 in
theorem RFail_c (base r : Nat) (W : List (ByteArray × Nat)) (E a : Nat) (bad : Option Nat) (w : World) (h : RdAt base w r W E a bad) (hl : W.length ≤ 100000000) (ha : a ≤ 200000000) (hE : E ≤ 100000000) :
    Calls Tryz.prog 81 #[.pointer (some ⟨r, 0, none⟩)] w fun e w' => e = .returned (.tuple #[]) ∧ RdAt base w' r W E a (failR W E a bad) ∧ Mod (fun k => k = r) w w' := by
  have HH := Lib.hid h
  obtain ⟨v, h1, h2⟩ := h.hr
  have c0 := (cell_of h1 0).trans rfl
  have c1 := (cell_of h1 1).trans rfl
  have c2 := (cell_of h1 2).trans rfl
  have c3 := (cell_of h1 3).trans rfl
  have f2 := frozen_of h1 2
  have rl := lt_of h1
  clear h h1 h2
  cases bad with
  | some b =>
    unfold badI at c2
    go_enter Tryz.func81, Tryz.ntmps81
    go_wp2
    go_returns
    exact ⟨rfl, HH.out, Mod.refl _ _⟩
  | none =>
    unfold badI at c2
    obtain ⟨H1, M1⟩ := HH.out.set (a' := a) (bad' := some E) (o := 2) (u := .int .i64 (E : Int)) (fun v => rfl)
    have hf0 : ¬ a < W.length → failR W E a none = some E := fun h => by unfold failR; rw [dif_neg h]
    have hf1 : ∀ h : a < W.length, failR W E a none = some W[a].2 := fun h => by unfold failR; rw [dif_pos h]
    have HF0 := Lib.hid hf0
    have HF1 := Lib.hid hf1
    have HM1 := Lib.hid M1
    have HH1 := Lib.hid H1
    clear hf0 hf1 H1 M1 HH
    go_enter Tryz.func81, Tryz.ntmps81
    go_upto_region 2 with (fail)
    generalize hW1 : w.setCell ⟨r, 2, none⟩ (.int .i64 (E : Int)) = W1 at *
    obtain ⟨v', h1, h2⟩ := HH1.out.hr
    have c0 := (cell_of h1 0).trans rfl
    have c1 := (cell_of h1 1).trans rfl
    have f2 := frozen_of h1 2
    have rl := lt_of h1
    by_cases hlt : a < W.length
    · obtain ⟨g, cap, rfl, hbg, hgl, hcell⟩ := own_row_cells h2 (by omega)
      have k1 := (hcell (a * 2 + 1) (by omega)).trans (wdV_at hlt).2
      have HF := Lib.hid (HF1.out hlt)
      clear hcell HF0 HF1 h2
      generalize W[a].2 = p at *
      refine wp_region_after (by kernel_rfl) (by kernel_rfl) ?_
      repeat (go_big_quiet_step ((fail)))
      refine wpQuiet_nil ?_
      rintro _ ⟨xx, rfl⟩
      obtain ⟨w1, hb1⟩ := xx
      try dsimp only
      have bc := bcell hb1
      have d0 := (bc.1 r 0 rl).trans c0
      have d1 := (bc.1 r 1 rl).trans c1
      have d2 := (bc.1 g (a * 2 + 1) hgl).trans k1
      have HH2 := Lib.hid (HH1.out.ext hb1)
      have HB1 := Lib.hid hb1
      have rl1 : r < w1.heap.size := Nat.lt_of_lt_of_le rl hb1.size
      have gl1 : g < w1.heap.size := Nat.lt_of_lt_of_le hgl hb1.size
      clear bc c0 c1 k1 f2 hb1
      go_upto_region 3 with (fail)
      refine wp_region_after_tail 14 (by kernel_rfl) (by kernel_rfl) ?_
      simp only [List.take_succ_cons, List.take_zero, List.drop_succ_cons, List.drop_zero]
      repeat (go_big_quiet_step ((fail)))
      refine wpQuiet_nil ?_
      rintro _ ⟨xx, rfl⟩
      obtain ⟨w2, hb2⟩ := xx
      try dsimp only
      obtain ⟨H3, M3⟩ := (HH2.out.ext hb2).set (a' := a) (bad' := some p) (o := 2) (u := .int .i64 (p : Int)) (fun v => rfl)
      have HH3 := Lib.hid H3
      have HM3 := Lib.hid (((HM1.out.extR HB1.out).extR hb2).trans M3)
      obtain ⟨v2, h3, _⟩ := (HH2.out.ext hb2).hr
      have e2 := (cell_of h3 2).trans rfl
      have g2 := frozen_of h3 2
      clear H3 M3 hb2 h3 d0 d1 d2
      go_wp2
      go_returns
      exact ⟨rfl, by rw [HF.out]; exact HH3.out, HM3.out⟩
    · have HF := Lib.hid (HF0.out hlt)
      clear HF0 HF1
      obtain ⟨po, co, rfl⟩ := own_sl h2
      refine wp_region_after (by kernel_rfl) (by kernel_rfl) ?_
      repeat (go_big_quiet_step ((fail)))
      refine wpQuiet_nil ?_
      rintro _ ⟨xx, rfl⟩
      obtain ⟨w1, hb1⟩ := xx
      try dsimp only
      have HH2 := Lib.hid (HH1.out.ext hb1)
      go_wp2
      go_returns
      exact ⟨rfl, by rw [HF.out]; exact HH2.out, HM1.out.extR hb1⟩
end Go.Proofs.YtmalncfcgcebhaaGreatDoor
namespace Go.Proofs.YtmalncfcgcebhaaGreatDoor
set_option linter.unusedVariables false
open Go.Proofs Go.RowKit
def nextT (W : List (ByteArray × Nat)) (a : Nat) : Option Nat → ByteArray
  | some _ => ⟨#[]⟩
  | none => if h : a < W.length then W[a].1 else ⟨#[]⟩
def nextB (W : List (ByteArray × Nat)) (E a : Nat) : Option Nat → Option Nat
  | some b => some b
  | none => if a < W.length then none else some E
theorem next_no {W : List (ByteArray × Nat)} {E a : Nat} (h : ¬ a < W.length) : nextT W a none = ⟨#[]⟩ ∧ nextB W E a none = failR W E a none := by
  unfold nextT nextB failR
  rw [dif_neg h, if_neg h, dif_neg h]; exact ⟨rfl, rfl⟩
theorem next_yes {W : List (ByteArray × Nat)} {E a : Nat} (ha : a < W.length) : nextT W a none = W[a].1 ∧ nextB W E a none = none := by
  unfold nextT nextB
  rw [dif_pos ha, if_pos ha]; exact ⟨rfl, rfl⟩
set_option maxRecDepth 20000 in
set_option maxHeartbeats 4000000 in
theorem RNext_c (base r : Nat) (W : List (ByteArray × Nat)) (E a : Nat) (bad : Option Nat) (w : World) (h : RdAt base w r W E a bad) (hl : W.length ≤ 100000000) (ha : a ≤ 200000000) (hE : E ≤ 100000000) :
    Calls Tryz.prog 118 #[.pointer (some ⟨r, 0, none⟩)] w fun e w' => e = .returned (.string (nextT W a bad)) ∧ RdAt base w' r W E a (nextB W E a bad) ∧ Mod (fun k => k = r) w w' := by
  have HH := Lib.hid h
  obtain ⟨v, h1, h2⟩ := h.hr
  have c0 := (cell_of h1 0).trans rfl
  have c1 := (cell_of h1 1).trans rfl
  have c2 := (cell_of h1 2).trans rfl
  have rl := lt_of h1
  cases bad with
  | some b =>
    unfold badI at c2
    show Calls _ _ _ _ fun e w' => e = .returned (.string ⟨#[]⟩) ∧ RdAt base w' r W E a (failR W E a (some b)) ∧ Mod (fun k => k = r) w w'
    clear h h1 h2
    go_enter Tryz.func118, Tryz.ntmps118
    go_wp2_with fail
    refine wp_region_after (by kernel_rfl) (by kernel_rfl) ?_
    repeat (go_big_quiet_step ((fail)))
    refine wpQuiet_nil ?_
    rintro _ ⟨xx, rfl⟩
    obtain ⟨w1, hb1⟩ := xx
    try dsimp only
    have HX := Lib.hid hb1
    go_wp2_with fail
    refine Calls.mono (RFail_c base r W E a _ w1 (HH.out.ext HX.out) hl ha hE) ?_
    rintro e w2 ⟨rfl, h3, m3⟩
    go_wp2
    go_ret
    exact ⟨rfl, h3, ((Mod.refl _ _).extR HX.out).trans m3⟩
  | none =>
    unfold badI at c2
    by_cases hlt : a < W.length
    · obtain ⟨e1, e2⟩ := next_yes (E := E) hlt
      obtain ⟨g, cap, rfl, hbg, hgl, hcell⟩ := own_row_cells h2 (by omega)
      have k0 := (hcell (a * 2) (by omega)).trans (wdV_at hlt).1
      rw [e1, e2]
      clear h h1 h2 e1 e2 hcell
      generalize W[a].1 = t at *
      go_enter Tryz.func118, Tryz.ntmps118
      go_wp2_with fail
      refine wp_region_after (by kernel_rfl) (by kernel_rfl) ?_
      repeat (go_big_quiet_step ((fail)))
      refine wpQuiet_nil ?_
      rintro _ ⟨xx, rfl⟩
      obtain ⟨w1, hb1⟩ := xx
      try dsimp only
      have bc := bcell hb1
      have d0 := (bc.1 r 0 rl).trans c0
      have d1 := (bc.1 r 1 rl).trans c1
      have d2 := (bc.1 g (a * 2) hgl).trans k0
      have rl1 : r < w1.heap.size := Nat.lt_of_lt_of_le rl hb1.size
      have gl1 : g < w1.heap.size := Nat.lt_of_lt_of_le hgl hb1.size
      have HX := Lib.hid hb1
      clear bc c0 c1 c2 k0 hb1
      go_wp2_with fail
      refine wp_region_after (by kernel_rfl) (by kernel_rfl) ?_
      repeat (go_big_quiet_step ((fail)))
      refine wpQuiet_nil ?_
      rintro _ ⟨xx, rfl⟩
      obtain ⟨w2, hb2⟩ := xx
      try dsimp only
      have HX2 := Lib.hid (HX.out.trans' hb2)
      clear hb2 d0 d1 d2
      go_wp2
      go_ret
      exact ⟨rfl, HH.out.ext HX2.out, (Mod.refl _ _).extR HX2.out⟩
    · obtain ⟨e1, e2⟩ := next_no (W := W) (E := E) (a := a) hlt
      obtain ⟨po, co, rfl⟩ := own_sl h2
      rw [e1, e2]
      clear h h1 h2 e1 e2
      go_enter Tryz.func118, Tryz.ntmps118
      go_wp2_with fail
      refine wp_region_after (by kernel_rfl) (by kernel_rfl) ?_
      repeat (go_big_quiet_step ((fail)))
      refine wpQuiet_nil ?_
      rintro _ ⟨xx, rfl⟩
      obtain ⟨w1, hb1⟩ := xx
      try dsimp only
      have HX := Lib.hid hb1
      go_wp2_with fail
      refine Calls.mono (RFail_c base r W E a _ w1 (HH.out.ext HX.out) hl ha hE) ?_
      rintro e w2 ⟨rfl, h3, m3⟩
      go_wp2
      go_ret
      exact ⟨rfl, h3, ((Mod.refl _ _).extR HX.out).trans m3⟩
/-- The next number, and the reader behind it. -/
def numR (W : List (ByteArray × Nat)) (E a : Nat) (bad : Option Nat) : Int × Nat × Option Nat :=
  match numOf (nextT W a bad).data.toList with
  | some n => (n, a + 1, nextB W E a bad)
  | none => (0, a, failR W E a (nextB W E a bad))
theorem numR_range (W : List (ByteArray × Nat)) (E a : Nat) (bad : Option Nat) : I64 (numR W E a bad).1 := by
  unfold numR
  cases h : numOf (nextT W a bad).data.toList with
  | some n => exact numOf_range h
  | none => unfold I64; show -9223372036854775808 ≤ (0 : Int) ∧ (0 : Int) ≤ _; omega
theorem numR_le (W : List (ByteArray × Nat)) (E a : Nat) (bad : Option Nat) : (numR W E a bad).2.1 ≤ a + 1 := by
  unfold numR
  split
  · exact Nat.le_refl _
  · exact Nat.le_succ _
theorem nextT_size {W : List (ByteArray × Nat)} (hW : ∀ p ∈ W, p.1.size ≤ 100000000) (a : Nat) (bad : Option Nat) : (nextT W a bad).size ≤ 100000000 := by
  unfold nextT
  split
  · exact Nat.zero_le _
  · split
    · exact hW _ (List.getElem_mem _)
    · exact Nat.zero_le _
theorem Mod.below' {base r : Nat} {w w' : World} (h : Mod (fun k => k = r) w w') (hr : base ≤ r) (hs : r < w.heap.size) : Below base w w' := h.below (by omega) (fun k hk => by rw [hk]; exact hr)
theorem RdAt.lt {base r E a : Nat} {w : World} {W : List (ByteArray × Nat)} {bad : Option Nat} (h : RdAt base w r W E a bad) : r < w.heap.size := by
  obtain ⟨v, h1, _⟩ := h.hr
  exact lt_of h1
set_option maxRecDepth 20000 in
set_option maxHeartbeats 4000000 in
theorem RNum_c (base r : Nat) (W : List (ByteArray × Nat)) (E a : Nat) (bad : Option Nat) (w : World) (hT : Tabs w) (h : RdAt base w r W E a bad) (hW : ∀ p ∈ W, p.1.size ≤ 100000000) (hl : W.length ≤ 100000000) (ha : a ≤ 100000000) (hE : E ≤ 100000000) :
    Calls Tryz.prog 121 #[.pointer (some ⟨r, 0, none⟩)] w fun e w' => e = .returned (.int .i64 (numR W E a bad).1) ∧ RdAt base w' r W E (numR W E a bad).2.1 (numR W E a bad).2.2 ∧ Mod (fun k => k = r) w w' := by
  have HR := Lib.hid (numR_range W E a bad)
  have HQ0 : numR W E a bad = match numOf (nextT W a bad).data.toList with | some n => (n, a + 1, nextB W E a bad) | none => (0, a, failR W E a (nextB W E a bad)) := rfl
  have HQ := Lib.hid HQ0
  clear HQ0
  generalize numR W E a bad = R at *
  obtain ⟨n, a', bad'⟩ := R
  dsimp only at *
  have ht := nextT_size hW a bad
  generalize hnt : nextT W a bad = t at *
  generalize hnb : nextB W E a bad = b at *
  have HNT := Lib.hid hnt
  have HNB := Lib.hid hnb
  have HBR := Lib.hid h.br
  have HB10 := Lib.hid h.b10
  have HRL := Lib.hid h.lt
  clear hnt hnb
  go_enter Tryz.func121, Tryz.ntmps121
  go_wp2_with fail
  refine Calls.mono (RNext_c base r W E a bad w h hl (by omega) hE) ?_
  rintro e w1 ⟨rfl, h1, m1⟩
  rw [HNT.out]
  rw [HNB.out] at h1
  have hT1 : Tabs w1 := hT.below HB10.out (m1.below' HBR.out HRL.out)
  have HH1 := Lib.hid h1
  have HM1 := Lib.hid m1
  clear h h1 m1
  go_wp2_with fail
  refine Calls.mono (Number_c t ht w1 hT1) ?_
  rintro e w2 ⟨⟨q, rfl, hqr, hq⟩, hx2⟩
  have HH2 := Lib.hid (HH1.out.ext hx2)
  have HM2 := Lib.hid (HM1.out.extR hx2)
  have HQV := Lib.hid hq
  clear hx2 hq HH1 HM1
  cases hno : numOf t.data.toList with
  | none =>
    have hq1 := HQ.out
    rw [hno] at hq1
    injection hq1 with q1 q2
    injection q2 with q2 q3
    replace q1 := q1.symm
    replace q2 := q2.symm
    subst q1 q2
    have HQ3 := Lib.hid q3
    clear HQ HQV hno q3
    go_wp2_with fail
    refine Calls.mono (RFail_c base r W E a b w2 HH2.out hl (by omega) hE) ?_
    rintro e w3 ⟨rfl, h3, m3⟩
    go_wp2
    go_ret
    exact ⟨rfl, by rw [HQ3.out]; exact h3, HM2.out.trans m3⟩
  | some m =>
    have hq1 := HQ.out
    rw [hno] at hq1
    injection hq1 with q1 q2
    injection q2 with q2 q3
    have hqm := HQV.out m hno
    subst hqm
    replace q1 := q1.symm
    replace q2 := q2.symm
    replace q3 := q3.symm
    subst q1 q2 q3
    have HH3 := HH2.out.set (a' := a + 1) (bad' := b) (o := 1) (u := .int .i64 ((a : Int) + 1)) (fun v => by simp)
    obtain ⟨v, h4, _⟩ := HH2.out.hr
    have c1 := (cell_of h4 1).trans rfl
    have f1 := frozen_of h4 1
    have rl := lt_of h4
    have HH4 := Lib.hid HH3
    clear HH3 h4 HQ HQV hno
    go_wp2
    go_ret
    exact ⟨rfl, HH4.out.1, HM2.out.trans HH4.out.2⟩
end Go.Proofs.YtmalncfcgcebhaaGreatDoor
namespace Go.Proofs.YtmalncfcgcebhaaGreatDoor
set_option linter.unusedVariables false
open Go.Proofs Go.RowKit
/-- The reader behind i numbers. -/
def numsS (W : List (ByteArray × Nat)) (E a : Nat) (bad : Option Nat) : Nat → Nat × Option Nat
  | 0 => (a, bad)
  | i + 1 => ((numR W E (numsS W E a bad i).1 (numsS W E a bad i).2).2.1, (numR W E (numsS W E a bad i).1 (numsS W E a bad i).2).2.2)
/-- The i-th of the numbers. -/
def numsF (W : List (ByteArray × Nat)) (E a : Nat) (bad : Option Nat) (i : Nat) : Int := (numR W E (numsS W E a bad i).1 (numsS W E a bad i).2).1
theorem numsS_le (W : List (ByteArray × Nat)) (E a : Nat) (bad : Option Nat) : ∀ i, (numsS W E a bad i).1 ≤ a + i
  | 0 => Nat.le_refl _
  | i + 1 => by
    have h1 := numsS_le W E a bad i
    have h2 := numR_le W E (numsS W E a bad i).1 (numsS W E a bad i).2
    show (numR W E (numsS W E a bad i).1 (numsS W E a bad i).2).2.1 ≤ _
    omega
theorem RdAt.keep {base r E a g : Nat} {w w' : World} {W : List (ByteArray × Nat)} {bad : Option Nat} (h : RdAt base w r W E a bad) (hm : Mod (fun k => k = g) w w') (hgr : g ≠ r) {c : Array Value} {T : TypeId} (hg : w.heap[g]? = some (.cells c T (0, 0))) (hT : T ≠ 233) : RdAt base w' r W E a bad := by
  obtain ⟨v, h1, h2⟩ := h.hr
  refine ⟨h.b10, h.br, v, hm.keep h1 (fun e => hgr e.symm), own_keepB h2 fun k hk => hm.block k (own_lt h2 hk) fun e => ?_⟩
  exact own_notB h2 hg hT (e ▸ hk)
set_option maxRecDepth 20000 in
set_option maxHeartbeats 4000000 in
theorem RNums_c (base r : Nat) (W : List (ByteArray × Nat)) (E a : Nat) (bad : Option Nat) (n : Nat) (w : World) (hT : Tabs w) (h : RdAt base w r W E a bad) (hW : ∀ p ∈ W, p.1.size ≤ 100000000) (hl : W.length ≤ 100000000) (ha : a + n ≤ 100000000) (hE : E ≤ 100000000) (hn : n ≤ 5) :
    Calls Tryz.prog 119 #[.pointer (some ⟨r, 0, none⟩), .int .i64 (n : Int)] w fun e w' => (∃ g, e = .returned (.slice (some ⟨g, 0, none⟩) n n) ∧ w.heap.size ≤ g ∧ w'.heap[g]? = some (.cells (fillA (numsF W E a bad) n n) 2 (0, 0))) ∧ RdAt base w' r W E (numsS W E a bad n).1 (numsS W E a bad n).2 ∧ Mod (fun k => k = r) w w' := by
  have hrl := h.lt
  have hbr := h.br
  have hb10 := h.b10
  obtain ⟨ii, hi, hz0, hz1, hz2⟩ := info_parts info_i64
  have hmk := fun (x : World) => run_make_ints 47 2 ii Tryz.underlying47 hi hz0 hz1 hz2 n (by omega) (numsF W E a bad) x
  go_enter Tryz.func119, Tryz.ntmps119
  go_wp2_with fail
  go_loopw [6, 11] (fun _ u11 wr => ∃ i, i ≤ n ∧ u11 = .int .i64 (i : Nat) ∧ wr.heap[w.heap.size]? = some (.cells (fillA (numsF W E a bad) i n) 2 (0, 0)) ∧ RdAt base wr r W E (numsS W E a bad i).1 (numsS W E a bad i).2 ∧ Mod (fun k => k = r) w wr) (fun _ u11 _ => n - (intOf u11).toNat)
  case atStart => exact ⟨0, Nat.zero_le _, rfl, heap_at _ _ rfl, h.ext (Ext.alloc' _ _), (Mod.refl _ _).extR (Ext.alloc' _ _)⟩
  case round =>
    obtain ⟨i, hi, rfl, hg, hR, hM⟩ := hrel
    clear hmk
    by_cases hlt : i < n
    · have hle := numsS_le W E a bad i
      have hs1 : numsS W E a bad (i + 1) = ((numR W E (numsS W E a bad i).1 (numsS W E a bad i).2).2.1, (numR W E (numsS W E a bad i).1 (numsS W E a bad i).2).2.2) := rfl
      have hf1 : numsF W E a bad i = (numR W E (numsS W E a bad i).1 (numsS W E a bad i).2).1 := rfl
      have HS := Lib.hid hs1
      have HF := Lib.hid hf1
      clear hs1 hf1
      generalize numsS W E a bad i = st at *
      obtain ⟨a1, b1⟩ := st
      dsimp only at *
      have hT1 : Tabs wr := hT.below hb10 (hM.below' hbr hrl)
      have HR := Lib.hid hR
      have HM := Lib.hid hM
      have HG := Lib.hid hg
      have hgr : w.heap.size ≠ r := by omega
      clear hR hM hg
      go_wp2_with fail
      refine Calls.mono (RNum_c base r W E a1 b1 wr hT1 HR.out hW hl (by omega) hE) ?_
      rintro e w1 ⟨rfl, h1, m1⟩
      have hg1 := m1.keep HG.out (fun e => hgr e)
      have HG1 := Lib.hid hg1
      have HR1 := Lib.hid h1
      have HM1 := Lib.hid (HM.out.trans m1)
      have c1 := (cell_of hg1 i).trans (fillA_at _ _ _ _ hlt)
      have f1 := frozen_of hg1 i
      have gl := lt_of hg1
      clear h1 m1 hg1
      generalize hW2 : w1.setCell ⟨w.heap.size, i, none⟩ (.int .i64 (numR W E a1 b1).1) = W2
      have hg2 : W2.heap[w.heap.size]? = some (.cells (fillA (numsF W E a bad) (i + 1) n) 2 (0, 0)) := by
        rw [← hW2, setCell_same HG1.out, ← HF.out, fillA_set]
      have hE2 : Mod (fun k => k = w.heap.size) w1 W2 := by
        rw [← hW2]
        exact ⟨rfl, rfl, rfl, by rw [size_setCell]; exact Nat.le_refl _, fun k _ hk => setCell_other i _ hk⟩
      have HR2 := Lib.hid (HR1.out.keep hE2 hgr HG1.out (by decide))
      have HG2 := Lib.hid hg2
      have hM2 : Mod (fun k => k = r) w W2 := ⟨HM1.out.os ▸ hE2.os ▸ rfl, HM1.out.tape ▸ hE2.tape ▸ rfl, HM1.out.output ▸ hE2.output ▸ rfl, Nat.le_trans HM1.out.size hE2.size, fun k hk hn => (hE2.block k (Nat.lt_of_lt_of_le hk HM1.out.size) (by omega)).trans (HM1.out.block k hk hn)⟩
      have HM2 := Lib.hid hM2
      clear hM2 hE2 hg2
      subst hW2
      go_wp2
      go_roundw
      case rel => exact ⟨i + 1, by omega, by go_num, HG2.out, by rw [HS.out]; exact HR2.out, HM2.out⟩
      case measure => simp [intOf]; omega
    · obtain rfl : i = n := by omega
      have HR := Lib.hid hR
      have HM := Lib.hid hM
      have HG := Lib.hid hg
      clear hR hM hg
      go_wp2
      go_ret
      exact ⟨⟨_, rfl, Nat.le_refl _, HG.out⟩, HR.out, HM.out⟩
end Go.Proofs.YtmalncfcgcebhaaGreatDoor
namespace Go.Proofs.YtmalncfcgcebhaaGreatDoor
set_option linter.unusedVariables false
open Go.Proofs Go.RowKit
def keyFrom (s : ByteArray) : Nat → Nat → Int → Int
  | 0, _, k => k
  | f + 1, pos, k => if pos < s.size then keyFrom s f (pos + (Utf8.decode s pos).2) (fadd (fmul k 1114112) (((Utf8.decode s pos).1 : Int) + 1)) else k
/-- The key of a text, and the error. -/
def keyS (s : ByteArray) : Int × Int := if tornS s < 0 then (keyFrom s s.size 0 0, 0) else (0, 13)
theorem keyFrom_end (s : ByteArray) (f pos : Nat) (k : Int) (h : ¬ pos < s.size) : keyFrom s f pos k = k := by
  cases f with
  | zero => rfl
  | succ f => simp [keyFrom, h]
set_option maxRecDepth 20000 in
set_option maxHeartbeats 4000000 in
theorem Key_c (s : ByteArray) (hs : s.size ≤ 100000000) (w : World) (hT : Tabs w) :
    Calls Tryz.prog 164 #[.string s] w fun e w' => e = .returned (.tuple #[.int .u64 (keyS s).1, .int .i64 (keyS s).2]) ∧ Ext w w' := by
  by_cases ht : tornS s < 0
  · have hk : keyS s = (keyFrom s s.size 0 0, 0) := by unfold keyS; rw [if_pos ht]
    rw [hk]
    generalize hK : keyFrom s s.size 0 0 = K
    have hnt := Torn_c s (by omega) w hT
    generalize tornS s = tn at *
    clear hk
    go_enter Tryz.func164, Tryz.ntmps164
    go_wp2_with fail
    refine Calls.mono hnt ?_
    rintro e w1 ⟨rfl, hx1⟩
    clear hnt
    go_wp2_with fail
    go_loopw [4, 6] (fun u4 _ wr => ∃ pos fuel k, wr.heap[w1.heap.size]? = some (.stringIter s pos) ∧ u4 = .int .u64 k ∧ U64 k ∧ Ext w wr ∧ w1.heap.size < wr.heap.size ∧ keyFrom s fuel pos k = K ∧ s.size ≤ pos + fuel) (fun _ _ wr => s.size - wr.iterPos w1.heap.size)
    case atStart =>
      refine ⟨0, s.size, 0, ?_, rfl, by unfold U64; omega, hx1.allocR _, ?_, hK, by omega⟩
      · exact World.iter_heap w1 s 0
      · show _ < (w1.alloc _).heap.size; rw [size_alloc]; exact Nat.lt_succ_self _
    case round =>
      obtain ⟨pos, fuel, k, hit, rfl, hku, hE, hsz, hkf, hfu⟩ := hrel
      have hx1s := hx1.size
      have hmu : wr.iterPos w1.heap.size = pos := by simp [World.iterPos, hit]
      by_cases hp : pos < s.size
      · have hnx : ∀ ty, (Instr.next (.pointer (some ⟨w1.heap.size, 0, none⟩)) true ty).run Tryz.prog wr = _ := fun ty => Lib.run_next_any_at wr w1.heap.size s pos ty hit hp
        have hwd := width_pos s pos hp
        have hd1 := decode_le s pos
        have hit2 := Lib.iterAt_heap wr w1.heap.size s pos (pos + (Utf8.decode s pos).2) hit
        have hE2 := hE.iterAt hx1s s (pos + (Utf8.decode s pos).2)
        have hsz2 : w1.heap.size < (wr.iterAt w1.heap.size s (pos + (Utf8.decode s pos).2)).heap.size := by rw [Lib.iterAt_size]; exact hsz
        obtain ⟨f, rfl⟩ : ∃ f, fuel = f + 1 := ⟨fuel - 1, by omega⟩
        rw [keyFrom, if_pos hp] at hkf
        have HKF := Lib.hid hkf
        clear hkf hx1
        generalize hW : wr.iterAt w1.heap.size s (pos + (Utf8.decode s pos).2) = W1 at hnx hit2 hE2 hsz2
        generalize Utf8.decode s pos = D at *
        obtain ⟨r, kk⟩ := D
        dsimp only at *
        go_wp2_with fail
        refine Calls.mono (Fmul_c k 1114112 hku (by unfold U64; omega) _) ?_
        rintro e w2 ⟨rfl, rfl⟩
        have hmu2 := fmul_u k 1114112
        generalize fmul k 1114112 = km at *
        go_wp2_with fail
        refine Calls.mono (Fadd_c km _ hmu2 (by unfold U64; omega) _) ?_
        rintro e w2 ⟨rfl, rfl⟩
        have hau := fadd_u km ((r : Int) + 1)
        have HAU := Lib.hid hau
        clear hau
        go_wp2
        go_roundw
        case rel => exact ⟨pos + kk, f, _, hit2, rfl, HAU.out, hE2, hsz2, HKF.out, by omega⟩
        case measure => simp only [World.iterPos, hit2, hit]; omega
      · have hnx : ∀ ty, (Instr.next (.pointer (some ⟨w1.heap.size, 0, none⟩)) true ty).run Tryz.prog wr = _ := fun ty => Lib.run_next_end_at wr w1.heap.size s pos ty hit hp
        rw [keyFrom_end s fuel pos k hp] at hkf
        have HKF := Lib.hid hkf
        clear hkf
        go_wp2
        go_ret2
        exact ⟨by rw [← HKF.out]; rfl, hE⟩
  · have hk : keyS s = (0, 13) := by unfold keyS; rw [if_neg ht]
    rw [hk]
    have hnt := Torn_c s (by omega) w hT
    generalize tornS s = tn at *
    clear hk
    go_enter Tryz.func164, Tryz.ntmps164
    go_wp2_with fail
    refine Calls.mono hnt ?_
    rintro e w1 ⟨rfl, hx1⟩
    go_wp2
    go_ret2
    exact ⟨rfl, hx1⟩
end Go.Proofs.YtmalncfcgcebhaaGreatDoor
namespace Go.Proofs.YtmalncfcgcebhaaGreatDoor
set_option linter.unusedVariables false
open Go.Proofs Go.RowKit
def hexDigs : List UInt8 := [48, 49, 50, 51, 52, 53, 54, 55, 56, 57, 97, 98, 99, 100, 101, 102]
def hexD (c : UInt8) : Int := Lib.indexByte hexDigs c
/-- The bytes of the pairs of digits; none: there is a sign that is no digit. -/
def hexFrom : List UInt8 → Option (List Int)
  | a :: b :: r => if hexD a < 0 ∨ hexD b < 0 then none else (hexFrom r).map fun l => (hexD a * 16 + hexD b) :: l
  | _ => some []
def hexOk (l : List UInt8) : Bool := (hexFrom l).isSome && decide (0 < l.length ∧ l.length % 2 = 0)
theorem ixb_lt (c : UInt8) : ∀ l : List UInt8, Lib.indexByte l c < l.length ∨ Lib.indexByte l c = -1
  | [] => .inr rfl
  | b :: l => by
    have := ixb_lt c l
    unfold Lib.indexByte
    rw [List.length_cons]
    split
    · exact .inl (by omega)
    · split
      · exact .inr rfl
      · rename_i h
        rcases this with h1 | h1
        · exact .inl (by omega)
        · rw [h1] at h; exact absurd rfl h
theorem hexD_bd (c : UInt8) : -1 ≤ hexD c ∧ hexD c ≤ 15 := by
  have h1 := Lib.indexByte_ge hexDigs c
  have h2 := ixb_lt c hexDigs
  unfold hexD
  have h3 : hexDigs.length = 16 := rfl
  omega
theorem info_u8 : ∃ i z, Tryz.prog.info? 5 = some i ∧ i.zero = some z ∧ i.size = 1 ∧ i.bytes = 1 ∧ z.cells.size = 1 := by
  have h : (Tryz.prog.info? 5).map (fun i => (i.zero, i.size, i.bytes)) = some (some (.int .u8 0), 1, 1) := by kernel_rfl
  match hi : Tryz.prog.info? 5, h with
  | some i, h =>
    simp only [Option.map_some, Option.some.injEq, Prod.mk.injEq] at h
    exact ⟨i, _, rfl, h.1, h.2.1, h.2.2, rfl⟩
def u8V (l : List Int) : List Value := l.map fun x => .int .u8 x
theorem or_dig : ∀ h : Fin 16, ∀ l : Fin 16, bits BinOp.or IntKind.i64 ((h.val : Int) * 16) (l.val : Int) = (h.val : Int) * 16 + (l.val : Int) := by decide
theorem or_dig' {h l : Int} (h0 : 0 ≤ h) (h1 : h ≤ 15) (l0 : 0 ≤ l) (l1 : l ≤ 15) : bits BinOp.or IntKind.i64 (h * 16) l = h * 16 + l := by
  have := or_dig ⟨h.toNat, by omega⟩ ⟨l.toNat, by omega⟩
  simp only [Int.toNat_of_nonneg h0, Int.toNat_of_nonneg l0] at this
  exact this
theorem u8_back (x : UInt8) : ((x.toNat : Int)).toNat.toUInt8 = x := by
  rw [Int.toNat_natCast]
  exact UInt8.toNat_inj.1 (by simp)
theorem Dig_c (x : UInt8) (w : World) : Calls Tryz.prog 117 #[.string ⟨#[48, 49, 50, 51, 52, 53, 54, 55, 56, 57, 97, 98, 99, 100, 101, 102]⟩, .int .u8 (x.toNat : Int)] w fun e w' => e = .returned (.int .i64 (hexD x)) ∧ w = w' := by
  refine (IndexByte_c _ _ w).mono fun e w' h => ⟨?_, h.2.symm⟩
  rw [h.1, u8_back]
  rfl
def HexPost (base : Nat) (l : List UInt8) (e : Ending) (w' : World) : Prop :=
  ∃ v bs, e = .returned (.tuple #[v, .bool (hexOk l)]) ∧ w'.ownsRow base 5 1 v bs.length (u8V bs) ∧ (hexFrom l).getD [] = bs
set_option maxRecDepth 20000 in
set_option maxHeartbeats 4000000 in
theorem Bytes_c (s : ByteArray) (hs : s.size ≤ 100000000) (w : World) :
    Calls Tryz.prog 122 #[.string s] w fun e w' => HexPost w.heap.size s.data.toList e w' ∧ Ext w w' := by
  unfold HexPost
  have HOK0 : hexOk s.data.toList = ((hexFrom s.data.toList).isSome && decide (0 < s.data.toList.length ∧ s.data.toList.length % 2 = 0)) := rfl
  rw [← Lib.size_eq] at HOK0
  have HOK := Lib.hid HOK0
  clear HOK0
  generalize hexOk s.data.toList = ok at *
  go_enter Tryz.func122, Tryz.ntmps122
  go_wp2
  go_loopw [4, 5, 6, 7] (fun u4 u5 _ _ wr => ∃ i done, i ≤ s.size + 1 ∧ u5 = .int .i64 (i : Nat) ∧ i % 2 = 0 ∧ wr.ownsRow w.heap.size 5 1 u4 done.length (u8V done) ∧ Ext w wr ∧ hexFrom s.data.toList = (hexFrom (s.data.toList.drop i)).map (done ++ ·) ∧ done.length ≤ i) (fun _ u5 _ _ wr => s.size + 1 - (intOf u5).toNat)
  case atStart => exact ⟨0, [], by omega, rfl, rfl, ⟨rfl, .inl ⟨rfl, rfl⟩⟩, Ext.refl _, by simp, Nat.zero_le _⟩
  case round =>
    obtain ⟨i, done, hi, rfl, hev, hown, hE, hw, hdl⟩ := hrel
    by_cases hlt : i + 1 < s.size
    · have h0 : i < s.size := by omega
      obtain ⟨m, hm⟩ : ∃ m : Nat, (i : Int) + 1 = (m : Int) := ⟨i + 1, by omega⟩
      have hml : m < s.size := by omega
      have hd : s.data.toList.drop i = s[i] :: s[m] :: s.data.toList.drop (i + 2) := by
        obtain rfl : m = i + 1 := by omega
        have hl : s.data.toList.length = s.size := (Lib.size_eq s).symm
        rw [List.drop_eq_getElem_cons (by omega), List.drop_eq_getElem_cons (by omega)]
        congr 1
      rw [hd] at hw
      have HW := Lib.hid hw
      have HO := Lib.hid hown
      clear hw hown hd
      go_wp2_with fail
      refine wp_region_after (by kernel_rfl) (by kernel_rfl) ?_
      repeat (go_big_quiet_step ((go_at_call 117; exact quiet_after_same (Dig_c _ _))))
      refine wpQuiet_nil ?_
      rintro _ ⟨xx, rfl⟩
      obtain ⟨w1, hb1⟩ := xx
      try dsimp only
      generalize s[i] = x at *
      generalize s[m] = y at *
      have hx := hexD_bd x
      have hy := hexD_bd y
      have hE1 := hE.trans' hb1
      have HO1 := Lib.hid (own_ext HO.out hb1)
      have hst : hexFrom (x :: y :: s.data.toList.drop (i + 2)) = if hexD x < 0 ∨ hexD y < 0 then none else (hexFrom (s.data.toList.drop (i + 2))).map fun l => (hexD x * 16 + hexD y) :: l := rfl
      have HST := Lib.hid hst
      clear hst hb1
      generalize hexD x = p at *
      generalize hexD y = q at *
      by_cases hpq : p < 0 ∨ q < 0
      · have hno : hexFrom s.data.toList = none := by rw [HW.out, HST.out, if_pos hpq]; rfl
        have hok : ok = false := by rw [HOK.out, hno]; rfl
        have HNO := Lib.hid hno
        clear HOK
        subst hok
        clear hno
        rcases Int.lt_or_le p 0 with hp | hp
        · go_wp2_with fail
          go_ret2
          exact ⟨⟨_, [], rfl, ⟨rfl, .inl ⟨rfl, rfl⟩⟩, by rw [HNO.out]; rfl⟩, hE1⟩
        · have hq : q < 0 := by omega
          go_wp2_with fail
          go_ret2
          exact ⟨⟨_, [], rfl, ⟨rfl, .inl ⟨rfl, rfl⟩⟩, by rw [HNO.out]; rfl⟩, hE1⟩
      · have hp0 : 0 ≤ p := by omega
        have hq0 : 0 ≤ q := by omega
        have hor := or_dig' hp0 hx.2 hq0 hy.2
        have HPQ := Lib.hid hpq
        clear hpq
        have hsz := hE1.size
        go_upto_region 8 with (fail)
        go_wp2_with (at_builtin; refine wpList_appK w1 1 1 1 (by decide) (by decide) [.int .u8 (p * 16 + q)] rfl (by simp [Value.oneCell']) _ done.length _ w.heap.size 5 _ HO1.out 44 rfl _ _ rfl info_u8 Tryz.underlying44 _ rfl (by rfl) (by rfl) (by omega) hsz ?_)
        intro v' w' hw1 hw2 hw3
        have hE2 : Ext w w' := ext_grown hE1 hw2 (fun j hj => own_geB HO1.out hj)
        have hvv : u8V (done ++ [p * 16 + q]) = u8V done ++ [.int .u8 (p * 16 + q)] := by unfold u8V; rw [List.map_append]; rfl
        rw [← hvv] at hw1
        have H1 := Lib.hid hw1
        clear hw1 hw2 hw3 hvv hor
        have hnx : hexFrom s.data.toList = (hexFrom (s.data.toList.drop (i + 2))).map ((done ++ [p * 16 + q]) ++ ·) := by
          rw [HW.out, HST.out, if_neg HPQ.out, Option.map_map]
          congr 1
          funext l
          simp
        have HNX := Lib.hid hnx
        clear hnx
        go_wp2_with fail
        go_roundw
        case rel => exact ⟨i + 2, done ++ [p * 16 + q], by omega, by go_num, by omega, by rw [List.length_append]; exact H1.out, hE2, HNX.out, by rw [List.length_append, List.length_singleton]; omega⟩
        case measure => simp [intOf]; omega
    · have hnil : hexFrom (s.data.toList.drop i) = some [] := by
        have hl : (s.data.toList.drop i).length ≤ 1 := by rw [List.length_drop, ← Lib.size_eq]; omega
        match hd : s.data.toList.drop i, hl with
        | [], _ => rfl
        | [a], _ => rfl
      have hyes : hexFrom s.data.toList = some done := by rw [hw, hnil]; simp
      have hok := HOK.out
      rw [hyes] at hok
      have HYES := Lib.hid hyes
      have HO := Lib.hid hown
      clear hw hyes hnil HOK hown
      by_cases hz : 0 < s.size
      · by_cases h2 : s.size % 2 = 0
        · have h2' : (s.size : Int) % 2 = 0 := by omega
          have : ok = true := by rw [hok]; simp [hz, h2]
          subst this
          clear hok
          go_wp2_with fail
          go_ret2
          exact ⟨⟨_, done, rfl, HO.out, by rw [HYES.out]; rfl⟩, hE⟩
        · have h2' : ((s.size : Int) % 2 == 0) = false := beq_eq_false_iff_ne.2 (by omega)
          have : ok = false := by rw [hok]; simp [hz, h2]
          subst this
          clear hok
          go_wp2_with fail
          go_ret2
          exact ⟨⟨_, done, rfl, HO.out, by rw [HYES.out]; rfl⟩, hE⟩
      · have : ok = false := by rw [hok]; simp [hz]
        subst this
        clear hok
        go_wp2_with fail
        go_ret2
        exact ⟨⟨_, done, rfl, HO.out, by rw [HYES.out]; rfl⟩, hE⟩
end Go.Proofs.YtmalncfcgcebhaaGreatDoor
