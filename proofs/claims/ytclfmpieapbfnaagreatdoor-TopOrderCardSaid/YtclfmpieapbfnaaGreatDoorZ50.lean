/- Part 50: lemmas, no conditions. -/
import Derived.Shelf.Strings.Builder1
import Derived.Shelf.Strings.Builder2
import Derived.Shelf.Strings.OnBuilder
import Derived.Shelf.Small.Strs
import Derived.Shelf.Strings.BuilderF
import Derived.Shelf.Strings.BuilderK
import Derived.Shelf.Strconv.Itoa0
import Derived.Shelf.Strconv.Itoa1
import Derived.Shelf.LaysM
import Derived.Shelf.Strconv.Itoa2
import Derived.Shelf.Strconv.Itoa3
import Derived.Shelf.Strconv.Itoa4
import Derived.Shelf.Strconv.ParseIntEmpty
import Derived.Shelf.Strconv.Clone
import Derived.Shelf.Strconv.SyntaxError
import Derived.Shelf.LaysC
import Derived.Shelf.Strconv.ToError
import Derived.Shelf.Strconv.Lower
import Derived.Shelf.Strconv.ParseUint10
import Derived.Shelf.Strconv.ParseUint10Empty
import Derived.Shelf.Strconv.ParseUint10Any
import Derived.Shelf.Strconv.ParseInt10
import Derived.Shelf.Strconv.RangeError
import Derived.Shelf.Strconv.ToErrorRange
import Derived.Shelf.Strconv.ParseUintEmpty
import Derived.Shelf.Strconv.ParseUint10b64
import Derived.Shelf.Strconv.ParseUint10b32
import Derived.Shelf.Strconv.ParseUint10b16
import Derived.Shelf.Strconv.ParseUint10b8
import Derived.Shelf.Strconv.ParseUint10At
import Derived.Shelf.Strconv.ParseInt10At64
import Derived.Shelf.Strconv.ParseInt10At32
import Derived.Shelf.Strconv.ParseInt10At16
import Derived.Shelf.Strconv.ParseInt10At8
import Derived.Shelf.Strconv.ParseInt10All
import Derived.Shelf.Strconv.ParseIntPublic10
import Derived.Ground.MpProg
import Derived.Shelf.Pu.ParseUintPublic10
import Derived.Shelf.Strings.Search1
import Derived.Shelf.Strings.Search2
import Derived.Shelf.Strings.Search3
import Derived.Shelf.Strings.Count
import Derived.Shelf.Strings.Shaped
import Derived.Shelf.Strings.Prefix
import Derived.Shelf.Strings.Split
import Derived.Shelf.Strings.SplitShaped
import Derived.Shelf.Unicode.Decode
import Derived.Shelf.Strings.RuneCount
import Derived.Shelf.Strings.Explode
import Derived.Shelf.Bits.Mul64
import Derived.Shelf.Strings.Repeat
import Derived.Shelf.Unicode.DecodeSlow
import Derived.Ground.SlgmProg
import Derived.Shelf.SortM.Plain
import Derived.Shelf.SortM.SortNone
import Derived.Test.YtclfmpieapbfnaaGreatDoorProg
set_option linter.unusedVariables false
set_option linter.unusedSimpArgs false
section
namespace Go.Proofs.YtclfmpieapbfnaaGreatDoor
open Go.RowKit Go.Shelf Go.Proofs
def Sh.lays169_ren:Go.Shelf.Ren:=⟨fun | 169 => 264 | n => n,fun | 70 => 416 | 9 => 9 | 0 => 0 | 72 => 418 | 37 => 22 | 127 => 442 | 3 => 3 | 5 => 5 | n => n,fun | n => n⟩
theorem Sh.lays169:Go.Proofs.Lays.n169 Tryz.prog Sh.lays169_ren:={
 mixed:=by kernel_rfl
 f169:=Tryz.func264.trans (congrArg some (by kernel_rfl))
 t0:=Tryz.underlying0
 a0:=Tryz.isAgg0
 z0:=Tryz.sizeOf0
 v0:=Tryz.zeroValue0
 t3:=Tryz.underlying3
 a3:=Tryz.isAgg3
 z3:=Tryz.sizeOf3
 v3:=Tryz.zeroValue3
 t9:=Tryz.underlying9
 a9:=Tryz.isAgg9
 z9:=Tryz.sizeOf9
 v9:=Tryz.zeroValue9
 t37:=Tryz.underlying22
 a37:=Tryz.isAgg22
 z37:=Tryz.sizeOf22
 v37:=Tryz.zeroValue22
 t70:=Tryz.underlying416
 a70:=Tryz.isAgg416
 z70:=Tryz.sizeOf416
 v70:=Tryz.zeroValue416
 t72:=Tryz.underlying418
 a72:=Tryz.isAgg418
 z72:=Tryz.sizeOf418
 v72:=Tryz.zeroValue418
 t127:=Tryz.underlying442
 a127:=Tryz.isAgg442
 z127:=Tryz.sizeOf442
 v127:=Tryz.zeroValue442 }
theorem Sh.Builder_Extra_169:Builder.Extra Tryz.prog Sh.lays169_ren:={
 sizeBuilder:=by kernel_rfl
 liesBuilder:=by kernel_rfl
 t5:=Tryz.underlying5
 a5:=Tryz.isAgg5
 z5:=Tryz.sizeOf5
 v5:=Tryz.zeroValue5
 infoByte:=by kernel_rfl
 cellsByte:=by kernel_rfl
 sizeByte:=by kernel_rfl
 neB5:=by decide }
def Sh.lays137_ren:Go.Shelf.Ren:=⟨fun | 137 => 262 | 217 => 295 | 266 => 341 | n => n,fun | 9 => 9 | 5 => 5 | 3 => 3 | n => n,fun | n => n⟩
theorem Sh.lays137:Go.Proofs.Lays.n137 Tryz.prog Sh.lays137_ren:={
 mixed:=by kernel_rfl
 f137:=Tryz.func262.trans (congrArg some (by kernel_rfl))
 f217:=Tryz.func295.trans (congrArg some (by kernel_rfl))
 f266:=Tryz.func341.trans (congrArg some (by kernel_rfl))
 t3:=Tryz.underlying3
 a3:=Tryz.isAgg3
 z3:=Tryz.sizeOf3
 v3:=Tryz.zeroValue3
 t5:=Tryz.underlying5
 a5:=Tryz.isAgg5
 z5:=Tryz.sizeOf5
 v5:=Tryz.zeroValue5
 t9:=Tryz.underlying9
 a9:=Tryz.isAgg9
 z9:=Tryz.sizeOf9
 v9:=Tryz.zeroValue9 }
open Go.RowKit in
theorem Sh.strings_IndexByte (s:ByteArray) (c:Int) (w:World) :
 Calls Tryz.prog 262 #[.string s,.int .u8 c] w fun e w' => e = .returned (.int .i64 (Lib.indexByte s.data.toList c.toNat.toUInt8)) ∧ w' = w:=Any.strings_IndexByte Sh.lays137 s c w
open Go.RowKit in
theorem Sh.Builder_String_any_f (B b:Nat) (l:List UInt8) (w:World) (h:Lib.IsBuilderF 418 5 B b (Lib.byteCells l) w) (hBw:B ≤ w.heap.size) :
 Calls Tryz.prog 264 #[.pointer (some ⟨b,0,none⟩)] w fun e w' => e = .returned (.string ⟨l.toArray⟩) ∧ (Lib.IsBuilderF 418 5 B b (Lib.byteCells l) w' ∧ Below B w w'):=Any.Builder_String_any_f Sh.lays169 Sh.Builder_Extra_169 B b l w h hBw
def Sh.lays283_ren:Go.Shelf.Ren:=⟨fun | 283 => 297 | n => n,fun | 3 => 3 | 9 => 9 | 4 => 4 | n => n,fun | n => n⟩
theorem Sh.lays283:Go.Proofs.Lays.n283 Tryz.prog Sh.lays283_ren:={
 mixed:=by kernel_rfl
 f283:=Tryz.func297.trans (congrArg some (by kernel_rfl))
 t3:=Tryz.underlying3
 a3:=Tryz.isAgg3
 z3:=Tryz.sizeOf3
 v3:=Tryz.zeroValue3
 t4:=Tryz.underlying4
 a4:=Tryz.isAgg4
 z4:=Tryz.sizeOf4
 v4:=Tryz.zeroValue4
 t9:=Tryz.underlying9
 a9:=Tryz.isAgg9
 z9:=Tryz.sizeOf9
 v9:=Tryz.zeroValue9 }
open Go.Lib in
theorem Sh.internal_strconv_small (i:Nat) (h:i < 100) (w:World) :
 Calls Tryz.prog 297 #[.int .i64 i] w fun e w' => e = .returned (.string ⟨(Lib.decDigits i).toArray⟩) ∧ w' = w:=Any.internal_strconv_small Sh.lays283 i h w
def Sh.lays173_ren:Go.Shelf.Ren:=⟨fun | 173 => 261 | 246 => 267 | 283 => 297 | 284 => 298 | 285 => 299 | 286 => 300 | 129 => 174 | 317 => 343 | 318 => 344 | 319 => 345 | 320 => 346 | 337 => 373 | 338 => 374 | n => n,fun | 2 => 2 | 3 => 3 | 9 => 9 | 4 => 4 | 171 => 443 | 0 => 0 | 53 => 23 | 37 => 22 | 5 => 5 | 173 => 445 | 212 => 482 | 51 => 288 | 20 => 20 | 213 => 483 | 46 => 46 | 232 => 515 | 233 => 516 | n => n,fun | 17 => 1 | 18 => 6 | 19 => 7 | n => n⟩
theorem Sh.lays173:Go.Proofs.Lays.n173 Tryz.prog Sh.lays173_ren:={
 mixed:=by kernel_rfl
 f129:=Tryz.func174.trans (congrArg some (by kernel_rfl))
 f173:=Tryz.func261.trans (congrArg some (by kernel_rfl))
 f246:=Tryz.func267.trans (congrArg some (by kernel_rfl))
 f283:=Tryz.func297.trans (congrArg some (by kernel_rfl))
 f284:=Tryz.func298.trans (congrArg some (by kernel_rfl))
 f285:=Tryz.func299.trans (congrArg some (by kernel_rfl))
 f286:=Tryz.func300.trans (congrArg some (by kernel_rfl))
 f317:=Tryz.func343.trans (congrArg some (by kernel_rfl))
 f318:=Tryz.func344.trans (congrArg some (by kernel_rfl))
 f319:=Tryz.func345.trans (congrArg some (by kernel_rfl))
 f320:=Tryz.func346.trans (congrArg some (by kernel_rfl))
 f337:=Tryz.func373.trans (congrArg some (by kernel_rfl))
 f338:=Tryz.func374.trans (congrArg some (by kernel_rfl))
 t0:=Tryz.underlying0
 a0:=Tryz.isAgg0
 z0:=Tryz.sizeOf0
 v0:=Tryz.zeroValue0
 t2:=Tryz.underlying2
 a2:=Tryz.isAgg2
 z2:=Tryz.sizeOf2
 v2:=Tryz.zeroValue2
 t3:=Tryz.underlying3
 a3:=Tryz.isAgg3
 z3:=Tryz.sizeOf3
 v3:=Tryz.zeroValue3
 t4:=Tryz.underlying4
 a4:=Tryz.isAgg4
 z4:=Tryz.sizeOf4
 v4:=Tryz.zeroValue4
 t5:=Tryz.underlying5
 a5:=Tryz.isAgg5
 z5:=Tryz.sizeOf5
 v5:=Tryz.zeroValue5
 t9:=Tryz.underlying9
 a9:=Tryz.isAgg9
 z9:=Tryz.sizeOf9
 v9:=Tryz.zeroValue9
 t20:=Tryz.underlying20
 a20:=Tryz.isAgg20
 z20:=Tryz.sizeOf20
 v20:=Tryz.zeroValue20
 t37:=Tryz.underlying22
 a37:=Tryz.isAgg22
 z37:=Tryz.sizeOf22
 v37:=Tryz.zeroValue22
 t46:=Tryz.underlying46
 a46:=Tryz.isAgg46
 z46:=Tryz.sizeOf46
 v46:=Tryz.zeroValue46
 t51:=Tryz.underlying288
 a51:=Tryz.isAgg288
 z51:=Tryz.sizeOf288
 v51:=Tryz.zeroValue288
 t53:=Tryz.underlying23
 a53:=Tryz.isAgg23
 z53:=Tryz.sizeOf23
 v53:=Tryz.zeroValue23
 t171:=Tryz.underlying443
 a171:=Tryz.isAgg443
 z171:=Tryz.sizeOf443
 v171:=Tryz.zeroValue443
 t173:=Tryz.underlying445
 a173:=Tryz.isAgg445
 z173:=Tryz.sizeOf445
 v173:=Tryz.zeroValue445
 t212:=Tryz.underlying482
 a212:=Tryz.isAgg482
 z212:=Tryz.sizeOf482
 v212:=Tryz.zeroValue482
 t213:=Tryz.underlying483
 a213:=Tryz.isAgg483
 z213:=Tryz.sizeOf483
 t232:=Tryz.underlying515
 a232:=Tryz.isAgg515
 z232:=Tryz.sizeOf515
 v232:=Tryz.zeroValue515
 t233:=Tryz.underlying516
 a233:=Tryz.isAgg516
 z233:=Tryz.sizeOf516
 v233:=Tryz.zeroValue516
 g17:=by kernel_rfl
 g18:=by kernel_rfl
 g19:=by kernel_rfl }
open Go.RowKit Go.Sort Go.Lib in
theorem Sh.strconv_FormatInt_10_small (i:Nat) (hi:i < 100) (w:World) :
 Calls Tryz.prog 261 #[.int .i64 i,.int .i64 10] w fun e w' => e = .returned (.string ⟨(Lib.decDigits i).toArray⟩) ∧ w' = w:=Any.strconv_FormatInt_10_small Sh.lays173 i hi w
def Sh.laysC174_ren:Go.Shelf.Ren:=⟨fun | 174 => 260 | 247 => 294 | 245 => 292 | 287 => 291 | 279 => 337 | 280 => 338 | 281 => 339 | 282 => 340 | 321 => 335 | 322 => 336 | 316 => 371 | 171 => 142 | 205 => 372 | 243 => 218 | 246 => 267 | 283 => 297 | 284 => 298 | 285 => 299 | 286 => 300 | 129 => 174 | 317 => 343 | 318 => 344 | 319 => 345 | 320 => 346 | 337 => 373 | 338 => 374 | n => n,fun | 9 => 9 | 3 => 3 | 2 => 2 | 75 => 409 | 85 => 413 | 4 => 4 | 167 => 473 | 5 => 5 | 53 => 23 | 175 => 410 | 46 => 46 | 168 => 475 | 37 => 22 | 0 => 0 | 210 => 498 | 21 => 21 | 127 => 442 | 145 => 514 | 143 => 512 | 171 => 443 | 173 => 445 | 212 => 482 | 51 => 288 | 20 => 20 | 213 => 483 | 232 => 515 | 233 => 516 | 80 => 118 | n => n,fun | 15 => 2 | 16 => 3 | 17 => 1 | 18 => 6 | 19 => 7 | n => n⟩
theorem Sh.laysC174:Go.Proofs.LaysC.n174 Tryz.prog Sh.laysC174_ren:={
 mixed:=by kernel_rfl
 f129:=Tryz.func174.trans (congrArg some (by kernel_rfl))
 f171:=Tryz.func142.trans (congrArg some (by kernel_rfl))
 f174:=Tryz.func260.trans (congrArg some (by kernel_rfl))
 f205:=Tryz.func372.trans (congrArg some (by kernel_rfl))
 f243:=Tryz.func218.trans (congrArg some (by kernel_rfl))
 f245:=Tryz.func292.trans (congrArg some (by kernel_rfl))
 f246:=Tryz.func267.trans (congrArg some (by kernel_rfl))
 f247:=Tryz.func294.trans (congrArg some (by kernel_rfl))
 f279:=Tryz.func337.trans (congrArg some (by kernel_rfl))
 f280:=Tryz.func338.trans (congrArg some (by kernel_rfl))
 f281:=Tryz.func339.trans (congrArg some (by kernel_rfl))
 f282:=Tryz.func340.trans (congrArg some (by kernel_rfl))
 f283:=Tryz.func297.trans (congrArg some (by kernel_rfl))
 f284:=Tryz.func298.trans (congrArg some (by kernel_rfl))
 f285:=Tryz.func299.trans (congrArg some (by kernel_rfl))
 f286:=Tryz.func300.trans (congrArg some (by kernel_rfl))
 f287:=Tryz.func291.trans (congrArg some (by kernel_rfl))
 f316:=Tryz.func371.trans (congrArg some (by kernel_rfl))
 f317:=Tryz.func343.trans (congrArg some (by kernel_rfl))
 f318:=Tryz.func344.trans (congrArg some (by kernel_rfl))
 f319:=Tryz.func345.trans (congrArg some (by kernel_rfl))
 f320:=Tryz.func346.trans (congrArg some (by kernel_rfl))
 f321:=Tryz.func335.trans (congrArg some (by kernel_rfl))
 f322:=Tryz.func336.trans (congrArg some (by kernel_rfl))
 f337:=Tryz.func373.trans (congrArg some (by kernel_rfl))
 f338:=Tryz.func374.trans (congrArg some (by kernel_rfl))
 t0:=Tryz.underlying0
 a0:=Tryz.isAgg0
 z0:=Tryz.sizeOf0
 v0:=Tryz.zeroValue0
 t2:=Tryz.underlying2
 a2:=Tryz.isAgg2
 z2:=Tryz.sizeOf2
 v2:=Tryz.zeroValue2
 t3:=Tryz.underlying3
 a3:=Tryz.isAgg3
 z3:=Tryz.sizeOf3
 v3:=Tryz.zeroValue3
 t4:=Tryz.underlying4
 a4:=Tryz.isAgg4
 z4:=Tryz.sizeOf4
 v4:=Tryz.zeroValue4
 t5:=Tryz.underlying5
 a5:=Tryz.isAgg5
 z5:=Tryz.sizeOf5
 v5:=Tryz.zeroValue5
 t9:=Tryz.underlying9
 a9:=Tryz.isAgg9
 z9:=Tryz.sizeOf9
 v9:=Tryz.zeroValue9
 t20:=Tryz.underlying20
 a20:=Tryz.isAgg20
 z20:=Tryz.sizeOf20
 v20:=Tryz.zeroValue20
 t21:=Tryz.underlying21
 a21:=Tryz.isAgg21
 z21:=Tryz.sizeOf21
 v21:=Tryz.zeroValue21
 t37:=Tryz.underlying22
 a37:=Tryz.isAgg22
 z37:=Tryz.sizeOf22
 v37:=Tryz.zeroValue22
 t46:=Tryz.underlying46
 a46:=Tryz.isAgg46
 z46:=Tryz.sizeOf46
 v46:=Tryz.zeroValue46
 t51:=Tryz.underlying288
 a51:=Tryz.isAgg288
 z51:=Tryz.sizeOf288
 v51:=Tryz.zeroValue288
 t53:=Tryz.underlying23
 a53:=Tryz.isAgg23
 z53:=Tryz.sizeOf23
 v53:=Tryz.zeroValue23
 t75:=Tryz.underlying409
 a75:=Tryz.isAgg409
 z75:=Tryz.sizeOf409
 v75:=Tryz.zeroValue409
 t85:=Tryz.underlying413
 a85:=Tryz.isAgg413
 z85:=Tryz.sizeOf413
 v85:=Tryz.zeroValue413
 t127:=Tryz.underlying442
 a127:=Tryz.isAgg442
 z127:=Tryz.sizeOf442
 v127:=Tryz.zeroValue442
 t143:=Tryz.underlying512
 a143:=Tryz.isAgg512
 z143:=Tryz.sizeOf512
 v143:=Tryz.zeroValue512
 t145:=Tryz.underlying514
 a145:=Tryz.isAgg514
 z145:=Tryz.sizeOf514
 v145:=Tryz.zeroValue514
 t167:=Tryz.underlying473
 a167:=Tryz.isAgg473
 z167:=Tryz.sizeOf473
 v167:=Tryz.zeroValue473
 t168:=Tryz.underlying475
 a168:=Tryz.isAgg475
 z168:=Tryz.sizeOf475
 v168:=Tryz.zeroValue475
 t171:=Tryz.underlying443
 a171:=Tryz.isAgg443
 z171:=Tryz.sizeOf443
 v171:=Tryz.zeroValue443
 t173:=Tryz.underlying445
 a173:=Tryz.isAgg445
 z173:=Tryz.sizeOf445
 v173:=Tryz.zeroValue445
 t175:=Tryz.underlying410
 a175:=Tryz.isAgg410
 z175:=Tryz.sizeOf410
 v175:=Tryz.zeroValue410
 t210:=Tryz.underlying498
 a210:=Tryz.isAgg498
 z210:=Tryz.sizeOf498
 v210:=Tryz.zeroValue498
 t212:=Tryz.underlying482
 a212:=Tryz.isAgg482
 z212:=Tryz.sizeOf482
 v212:=Tryz.zeroValue482
 t213:=Tryz.underlying483
 a213:=Tryz.isAgg483
 z213:=Tryz.sizeOf483
 t232:=Tryz.underlying515
 a232:=Tryz.isAgg515
 z232:=Tryz.sizeOf515
 v232:=Tryz.zeroValue515
 t233:=Tryz.underlying516
 a233:=Tryz.isAgg516
 z233:=Tryz.sizeOf516
 v233:=Tryz.zeroValue516
 g15:=by kernel_rfl
 g16:=by kernel_rfl
 g17:=by kernel_rfl
 g18:=by kernel_rfl
 g19:=by kernel_rfl
 t80:=Tryz.underlying118
 a80:=Tryz.isAgg118
 z80:=Tryz.sizeOf118
 v80:=Tryz.zeroValue118
 i0:=by kernel_rfl
 i2:=by kernel_rfl
 i3:=by kernel_rfl
 i4:=by kernel_rfl
 i5:=by kernel_rfl
 i9:=by kernel_rfl
 i20:=by kernel_rfl
 i21:=by kernel_rfl
 i37:=by kernel_rfl
 i46:=by kernel_rfl
 i51:=by kernel_rfl
 i53:=by kernel_rfl
 i75:=by kernel_rfl
 i80:=by kernel_rfl
 i85:=by kernel_rfl
 i127:=by kernel_rfl
 i143:=by kernel_rfl
 i145:=by kernel_rfl
 i167:=by kernel_rfl
 i168:=by kernel_rfl
 i171:=by kernel_rfl
 i173:=by kernel_rfl
 i175:=by kernel_rfl
 i210:=by kernel_rfl
 i212:=by kernel_rfl
 i232:=by kernel_rfl
 i233:=by kernel_rfl
 m15:=by kernel_rfl
 m16:=by kernel_rfl
 m17:=by kernel_rfl
 m18:=by kernel_rfl
 m19:=by kernel_rfl
 c0:=by kernel_rfl
 c2:=by kernel_rfl
 c3:=by kernel_rfl
 c4:=by kernel_rfl
 c5:=by kernel_rfl
 c9:=by kernel_rfl
 c20:=by kernel_rfl
 c21:=by kernel_rfl
 c37:=by kernel_rfl
 c46:=by kernel_rfl
 c51:=by kernel_rfl
 c53:=by kernel_rfl
 c75:=by kernel_rfl
 c80:=by kernel_rfl
 c85:=by kernel_rfl
 c127:=by kernel_rfl
 c143:=by kernel_rfl
 c145:=by kernel_rfl
 c167:=by kernel_rfl
 c168:=by kernel_rfl
 c171:=by kernel_rfl
 c173:=by kernel_rfl
 c175:=by kernel_rfl
 c210:=by kernel_rfl
 c212:=by kernel_rfl
 c213:=by kernel_rfl
 c232:=by kernel_rfl
 c233:=by kernel_rfl }
open Go.RowKit in
theorem Sh.strconv_ParseInt_10_at64_ok (s:ByteArray) (hmax:s.size ≤ 9223372036854775806) (v:Int) (h:Lib.parseIntB 64 s.data.toList = .ok v) (w:World) :
 Calls Tryz.prog 260 #[.string s,.int .i64 10,.int .i64 64] w fun e w' => e = .returned (.tuple #[.int .i64 v,.nilIface]) ∧ (w' = w ∨ ∃ t,w' = Lib.bytesWorld w 5 t):=Any.strconv_ParseInt_10_at64_ok Sh.laysC174 s hmax v h w
def Sh.laysPu14_ren:Go.Shelf.Ren:=⟨fun | 14 => 258 | 16 => 291 | 17 => 292 | 19 => 335 | 20 => 336 | 21 => 337 | 22 => 338 | 23 => 339 | 24 => 340 | 25 => 371 | 27 => 142 | 26 => 372 | 28 => 218 | 29 => 267 | 30 => 297 | 31 => 298 | 32 => 299 | 33 => 300 | 35 => 174 | 34 => 343 | 36 => 344 | 37 => 345 | 38 => 346 | 39 => 373 | 40 => 374 | n => n,fun | 9 => 9 | 3 => 3 | 22 => 23 | 24 => 409 | 25 => 410 | 4 => 4 | 34 => 473 | 5 => 5 | 36 => 46 | 37 => 22 | 0 => 0 | 39 => 475 | 21 => 21 | 44 => 498 | 47 => 442 | 50 => 514 | 48 => 512 | 2 => 2 | 52 => 443 | 55 => 445 | 59 => 482 | 60 => 288 | 20 => 20 | 61 => 483 | 65 => 515 | 66 => 516 | 67 => 118 | n => n,fun | 0 => 2 | 1 => 3 | 2 => 1 | 3 => 6 | 4 => 7 | n => n⟩
theorem Sh.laysPu14:Go.Proofs.LaysPu.n14 Tryz.prog Sh.laysPu14_ren:={
 mixed:=by kernel_rfl
 f14:=Tryz.func258.trans (congrArg some (by kernel_rfl))
 f16:=Tryz.func291.trans (congrArg some (by kernel_rfl))
 f17:=Tryz.func292.trans (congrArg some (by kernel_rfl))
 f19:=Tryz.func335.trans (congrArg some (by kernel_rfl))
 f20:=Tryz.func336.trans (congrArg some (by kernel_rfl))
 f21:=Tryz.func337.trans (congrArg some (by kernel_rfl))
 f22:=Tryz.func338.trans (congrArg some (by kernel_rfl))
 f23:=Tryz.func339.trans (congrArg some (by kernel_rfl))
 f24:=Tryz.func340.trans (congrArg some (by kernel_rfl))
 f25:=Tryz.func371.trans (congrArg some (by kernel_rfl))
 f26:=Tryz.func372.trans (congrArg some (by kernel_rfl))
 f27:=Tryz.func142.trans (congrArg some (by kernel_rfl))
 f28:=Tryz.func218.trans (congrArg some (by kernel_rfl))
 f29:=Tryz.func267.trans (congrArg some (by kernel_rfl))
 f30:=Tryz.func297.trans (congrArg some (by kernel_rfl))
 f31:=Tryz.func298.trans (congrArg some (by kernel_rfl))
 f32:=Tryz.func299.trans (congrArg some (by kernel_rfl))
 f33:=Tryz.func300.trans (congrArg some (by kernel_rfl))
 f34:=Tryz.func343.trans (congrArg some (by kernel_rfl))
 f35:=Tryz.func174.trans (congrArg some (by kernel_rfl))
 f36:=Tryz.func344.trans (congrArg some (by kernel_rfl))
 f37:=Tryz.func345.trans (congrArg some (by kernel_rfl))
 f38:=Tryz.func346.trans (congrArg some (by kernel_rfl))
 f39:=Tryz.func373.trans (congrArg some (by kernel_rfl))
 f40:=Tryz.func374.trans (congrArg some (by kernel_rfl))
 t0:=Tryz.underlying0
 a0:=Tryz.isAgg0
 z0:=Tryz.sizeOf0
 v0:=Tryz.zeroValue0
 i0:=by kernel_rfl
 t2:=Tryz.underlying2
 a2:=Tryz.isAgg2
 z2:=Tryz.sizeOf2
 v2:=Tryz.zeroValue2
 i2:=by kernel_rfl
 t3:=Tryz.underlying3
 a3:=Tryz.isAgg3
 z3:=Tryz.sizeOf3
 v3:=Tryz.zeroValue3
 i3:=by kernel_rfl
 t4:=Tryz.underlying4
 a4:=Tryz.isAgg4
 z4:=Tryz.sizeOf4
 v4:=Tryz.zeroValue4
 i4:=by kernel_rfl
 t5:=Tryz.underlying5
 a5:=Tryz.isAgg5
 z5:=Tryz.sizeOf5
 v5:=Tryz.zeroValue5
 i5:=by kernel_rfl
 t9:=Tryz.underlying9
 a9:=Tryz.isAgg9
 z9:=Tryz.sizeOf9
 v9:=Tryz.zeroValue9
 i9:=by kernel_rfl
 t20:=Tryz.underlying20
 a20:=Tryz.isAgg20
 z20:=Tryz.sizeOf20
 v20:=Tryz.zeroValue20
 i20:=by kernel_rfl
 t21:=Tryz.underlying21
 a21:=Tryz.isAgg21
 z21:=Tryz.sizeOf21
 v21:=Tryz.zeroValue21
 i21:=by kernel_rfl
 t22:=Tryz.underlying23
 a22:=Tryz.isAgg23
 z22:=Tryz.sizeOf23
 v22:=Tryz.zeroValue23
 i22:=by kernel_rfl
 t24:=Tryz.underlying409
 a24:=Tryz.isAgg409
 z24:=Tryz.sizeOf409
 v24:=Tryz.zeroValue409
 i24:=by kernel_rfl
 t25:=Tryz.underlying410
 a25:=Tryz.isAgg410
 z25:=Tryz.sizeOf410
 v25:=Tryz.zeroValue410
 i25:=by kernel_rfl
 t34:=Tryz.underlying473
 a34:=Tryz.isAgg473
 z34:=Tryz.sizeOf473
 v34:=Tryz.zeroValue473
 i34:=by kernel_rfl
 c34:=by kernel_rfl
 t36:=Tryz.underlying46
 a36:=Tryz.isAgg46
 z36:=Tryz.sizeOf46
 v36:=Tryz.zeroValue46
 i36:=by kernel_rfl
 t37:=Tryz.underlying22
 a37:=Tryz.isAgg22
 z37:=Tryz.sizeOf22
 v37:=Tryz.zeroValue22
 i37:=by kernel_rfl
 t39:=Tryz.underlying475
 a39:=Tryz.isAgg475
 z39:=Tryz.sizeOf475
 v39:=Tryz.zeroValue475
 i39:=by kernel_rfl
 t44:=Tryz.underlying498
 a44:=Tryz.isAgg498
 z44:=Tryz.sizeOf498
 v44:=Tryz.zeroValue498
 i44:=by kernel_rfl
 t47:=Tryz.underlying442
 a47:=Tryz.isAgg442
 z47:=Tryz.sizeOf442
 v47:=Tryz.zeroValue442
 i47:=by kernel_rfl
 t48:=Tryz.underlying512
 a48:=Tryz.isAgg512
 z48:=Tryz.sizeOf512
 v48:=Tryz.zeroValue512
 i48:=by kernel_rfl
 t50:=Tryz.underlying514
 a50:=Tryz.isAgg514
 z50:=Tryz.sizeOf514
 v50:=Tryz.zeroValue514
 i50:=by kernel_rfl
 t52:=Tryz.underlying443
 a52:=Tryz.isAgg443
 z52:=Tryz.sizeOf443
 v52:=Tryz.zeroValue443
 i52:=by kernel_rfl
 t55:=Tryz.underlying445
 a55:=Tryz.isAgg445
 z55:=Tryz.sizeOf445
 v55:=Tryz.zeroValue445
 i55:=by kernel_rfl
 t59:=Tryz.underlying482
 a59:=Tryz.isAgg482
 z59:=Tryz.sizeOf482
 v59:=Tryz.zeroValue482
 i59:=by kernel_rfl
 t60:=Tryz.underlying288
 a60:=Tryz.isAgg288
 z60:=Tryz.sizeOf288
 v60:=Tryz.zeroValue288
 i60:=by kernel_rfl
 t61:=Tryz.underlying483
 a61:=Tryz.isAgg483
 z61:=Tryz.sizeOf483
 t65:=Tryz.underlying515
 a65:=Tryz.isAgg515
 z65:=Tryz.sizeOf515
 v65:=Tryz.zeroValue515
 i65:=by kernel_rfl
 t66:=Tryz.underlying516
 a66:=Tryz.isAgg516
 z66:=Tryz.sizeOf516
 v66:=Tryz.zeroValue516
 i66:=by kernel_rfl
 t67:=Tryz.underlying118
 a67:=Tryz.isAgg118
 z67:=Tryz.sizeOf118
 v67:=Tryz.zeroValue118
 i67:=by kernel_rfl
 g0:=by kernel_rfl
 m0:=by kernel_rfl
 g1:=by kernel_rfl
 m1:=by kernel_rfl
 g2:=by kernel_rfl
 m2:=by kernel_rfl
 g3:=by kernel_rfl
 m3:=by kernel_rfl
 g4:=by kernel_rfl
 m4:=by kernel_rfl }
open Go.RowKit in
theorem Sh.strconv_ParseUint_10_at64_ok (s:ByteArray) (hmax:s.size ≤ 9223372036854775806) (u:Nat) (h:Lib.parseUintB 64 s.data.toList = .ok u) (w:World) :
 Calls Tryz.prog 258 #[.string s,.int .i64 10,.int .i64 64] w fun e w' => e = .returned (.tuple #[.int .u64 u,.nilIface]) ∧ (w' = w ∨ w' = Lib.bytesWorld w 5 s):=Any.strconv_ParseUint_10_at64_ok Sh.laysPu14 s hmax u h w
def Sh.lays146_ren:Go.Shelf.Ren:=⟨fun | 146 => 203 | 221 => 256 | 268 => 283 | 138 => 284 | 143 => 285 | 195 => 327 | 197 => 328 | 218 => 329 | 219 => 330 | 260 => 366 | 217 => 295 | 225 => 367 | 224 => 368 | 267 => 369 | 266 => 341 | 314 => 381 | n => n,fun | 9 => 9 | 31 => 31 | 3 => 3 | 4 => 4 | 0 => 0 | 105 => 467 | 21 => 21 | 5 => 5 | 46 => 46 | 119 => 507 | 139 => 510 | 138 => 509 | 146 => 469 | 51 => 288 | n => n,fun | 1 => 0 | 3 => 4 | 4 => 5 | n => n⟩
theorem Sh.lays146:Go.Proofs.Lays.n146 Tryz.prog Sh.lays146_ren:={
 mixed:=by kernel_rfl
 f138:=Tryz.func284.trans (congrArg some (by kernel_rfl))
 f143:=Tryz.func285.trans (congrArg some (by kernel_rfl))
 f146:=Tryz.func203.trans (congrArg some (by kernel_rfl))
 f195:=Tryz.func327.trans (congrArg some (by kernel_rfl))
 f197:=Tryz.func328.trans (congrArg some (by kernel_rfl))
 f217:=Tryz.func295.trans (congrArg some (by kernel_rfl))
 f218:=Tryz.func329.trans (congrArg some (by kernel_rfl))
 f219:=Tryz.func330.trans (congrArg some (by kernel_rfl))
 f221:=Tryz.func256.trans (congrArg some (by kernel_rfl))
 f224:=Tryz.func368.trans (congrArg some (by kernel_rfl))
 f225:=Tryz.func367.trans (congrArg some (by kernel_rfl))
 f260:=Tryz.func366.trans (congrArg some (by kernel_rfl))
 f266:=Tryz.func341.trans (congrArg some (by kernel_rfl))
 f267:=Tryz.func369.trans (congrArg some (by kernel_rfl))
 f268:=Tryz.func283.trans (congrArg some (by kernel_rfl))
 f314:=Tryz.func381.trans (congrArg some (by kernel_rfl))
 t0:=Tryz.underlying0
 a0:=Tryz.isAgg0
 z0:=Tryz.sizeOf0
 v0:=Tryz.zeroValue0
 t3:=Tryz.underlying3
 a3:=Tryz.isAgg3
 z3:=Tryz.sizeOf3
 v3:=Tryz.zeroValue3
 t4:=Tryz.underlying4
 a4:=Tryz.isAgg4
 z4:=Tryz.sizeOf4
 v4:=Tryz.zeroValue4
 t5:=Tryz.underlying5
 a5:=Tryz.isAgg5
 z5:=Tryz.sizeOf5
 v5:=Tryz.zeroValue5
 t9:=Tryz.underlying9
 a9:=Tryz.isAgg9
 z9:=Tryz.sizeOf9
 v9:=Tryz.zeroValue9
 t21:=Tryz.underlying21
 a21:=Tryz.isAgg21
 z21:=Tryz.sizeOf21
 v21:=Tryz.zeroValue21
 t31:=Tryz.underlying31
 a31:=Tryz.isAgg31
 z31:=Tryz.sizeOf31
 v31:=Tryz.zeroValue31
 t46:=Tryz.underlying46
 a46:=Tryz.isAgg46
 z46:=Tryz.sizeOf46
 v46:=Tryz.zeroValue46
 t51:=Tryz.underlying288
 a51:=Tryz.isAgg288
 z51:=Tryz.sizeOf288
 v51:=Tryz.zeroValue288
 t105:=Tryz.underlying467
 a105:=Tryz.isAgg467
 z105:=Tryz.sizeOf467
 v105:=Tryz.zeroValue467
 t119:=Tryz.underlying507
 a119:=Tryz.isAgg507
 z119:=Tryz.sizeOf507
 t138:=Tryz.underlying509
 a138:=Tryz.isAgg509
 z138:=Tryz.sizeOf509
 v138:=Tryz.zeroValue509
 t139:=Tryz.underlying510
 a139:=Tryz.isAgg510
 z139:=Tryz.sizeOf510
 v139:=Tryz.zeroValue510
 t146:=Tryz.underlying469
 a146:=Tryz.isAgg469
 z146:=Tryz.sizeOf469
 v146:=Tryz.zeroValue469
 g1:=by kernel_rfl
 g3:=by kernel_rfl
 g4:=by kernel_rfl }
open Go.RowKit Go.Lib in
theorem Sh.strings_Split (s sep:ByteArray) (m:Int) (w:World) (hs:s.size < 4294967281) (hm:w.cell? ⟨0,0,none⟩ = some (.int .i64 m)) (h1:1 ≤ sep.size) :
 Calls Tryz.prog 203 #[.string s,.string sep] w fun e w' =>
  e = .returned (.slice (some ⟨w.heap.size,0,none⟩) (Lib.countB s sep + 1) (Lib.countB s sep + 1)) ∧ w' = w.alloc (.cells ((Lib.splitB sep 0 (Lib.countB s sep) s).map Value.string).toArray 9):=Any.strings_Split Sh.lays146 (by kernel_rfl) s sep m w hs hm h1
def Sh.laysM146_ren:Go.Shelf.Ren:=⟨fun | 146 => 203 | 221 => 256 | 268 => 283 | 138 => 284 | 143 => 285 | 195 => 327 | 197 => 328 | 218 => 329 | 219 => 330 | 260 => 366 | 217 => 295 | 225 => 367 | 224 => 368 | 267 => 369 | 266 => 341 | 314 => 381 | n => n,fun | 9 => 9 | 31 => 31 | 3 => 3 | 4 => 4 | 0 => 0 | 105 => 467 | 21 => 21 | 5 => 5 | 46 => 46 | 119 => 507 | 139 => 510 | 138 => 509 | 146 => 469 | 51 => 288 | n => n,fun | 1 => 0 | 3 => 4 | 4 => 5 | n => n⟩
theorem Sh.laysM146:Go.Proofs.LaysM.n146 Tryz.prog Sh.laysM146_ren:={
 mixed:=by kernel_rfl
 f138:=Tryz.func284.trans (congrArg some (by kernel_rfl))
 f143:=Tryz.func285.trans (congrArg some (by kernel_rfl))
 f146:=Tryz.func203.trans (congrArg some (by kernel_rfl))
 f195:=Tryz.func327.trans (congrArg some (by kernel_rfl))
 f197:=Tryz.func328.trans (congrArg some (by kernel_rfl))
 f217:=Tryz.func295.trans (congrArg some (by kernel_rfl))
 f218:=Tryz.func329.trans (congrArg some (by kernel_rfl))
 f219:=Tryz.func330.trans (congrArg some (by kernel_rfl))
 f221:=Tryz.func256.trans (congrArg some (by kernel_rfl))
 f224:=Tryz.func368.trans (congrArg some (by kernel_rfl))
 f225:=Tryz.func367.trans (congrArg some (by kernel_rfl))
 f260:=Tryz.func366.trans (congrArg some (by kernel_rfl))
 f266:=Tryz.func341.trans (congrArg some (by kernel_rfl))
 f267:=Tryz.func369.trans (congrArg some (by kernel_rfl))
 f268:=Tryz.func283.trans (congrArg some (by kernel_rfl))
 f314:=Tryz.func381.trans (congrArg some (by kernel_rfl))
 t0:=Tryz.underlying0
 a0:=Tryz.isAgg0
 z0:=Tryz.sizeOf0
 v0:=Tryz.zeroValue0
 t3:=Tryz.underlying3
 a3:=Tryz.isAgg3
 z3:=Tryz.sizeOf3
 v3:=Tryz.zeroValue3
 t4:=Tryz.underlying4
 a4:=Tryz.isAgg4
 z4:=Tryz.sizeOf4
 v4:=Tryz.zeroValue4
 t5:=Tryz.underlying5
 a5:=Tryz.isAgg5
 z5:=Tryz.sizeOf5
 v5:=Tryz.zeroValue5
 t9:=Tryz.underlying9
 a9:=Tryz.isAgg9
 z9:=Tryz.sizeOf9
 v9:=Tryz.zeroValue9
 t21:=Tryz.underlying21
 a21:=Tryz.isAgg21
 z21:=Tryz.sizeOf21
 v21:=Tryz.zeroValue21
 t31:=Tryz.underlying31
 a31:=Tryz.isAgg31
 z31:=Tryz.sizeOf31
 v31:=Tryz.zeroValue31
 t46:=Tryz.underlying46
 a46:=Tryz.isAgg46
 z46:=Tryz.sizeOf46
 v46:=Tryz.zeroValue46
 t51:=Tryz.underlying288
 a51:=Tryz.isAgg288
 z51:=Tryz.sizeOf288
 v51:=Tryz.zeroValue288
 t105:=Tryz.underlying467
 a105:=Tryz.isAgg467
 z105:=Tryz.sizeOf467
 v105:=Tryz.zeroValue467
 t119:=Tryz.underlying507
 a119:=Tryz.isAgg507
 z119:=Tryz.sizeOf507
 t138:=Tryz.underlying509
 a138:=Tryz.isAgg509
 z138:=Tryz.sizeOf509
 v138:=Tryz.zeroValue509
 t139:=Tryz.underlying510
 a139:=Tryz.isAgg510
 z139:=Tryz.sizeOf510
 v139:=Tryz.zeroValue510
 t146:=Tryz.underlying469
 a146:=Tryz.isAgg469
 z146:=Tryz.sizeOf469
 v146:=Tryz.zeroValue469
 g1:=by kernel_rfl
 g3:=by kernel_rfl
 g4:=by kernel_rfl
 i0:=by kernel_rfl
 i3:=by kernel_rfl
 i4:=by kernel_rfl
 i5:=by kernel_rfl
 i9:=by kernel_rfl
 i21:=by kernel_rfl
 i31:=by kernel_rfl
 i46:=by kernel_rfl
 i51:=by kernel_rfl
 i105:=by kernel_rfl
 i138:=by kernel_rfl
 i139:=by kernel_rfl
 i146:=by kernel_rfl
 m1:=by kernel_rfl
 s1_3:=fun w h => Go.Proofs.cell_of_shapedOpen_int (zero:=#[.int .i64 0]) (t:=3) h (of_decide_eq_true (by kernel_rfl)) (by kernel_rfl) rfl (by kernel_rfl) (by kernel_rfl) Tryz.underlying3
 m3:=by kernel_rfl
 m4:=by kernel_rfl }
def Sh.lays105_ren:Go.Shelf.Ren:=⟨fun | 105 => 257 | 212 => 286 | 99 => 287 | 165 => 288 | 166 => 289 | 170 => 290 | 169 => 264 | 263 => 331 | 264 => 332 | 206 => 333 | 240 => 296 | 241 => 334 | 276 => 342 | 277 => 370 | n => n,fun | 9 => 9 | 3 => 3 | 4 => 4 | 20 => 20 | 0 => 0 | 46 => 46 | 109 => 437 | 5 => 5 | 72 => 418 | 76 => 439 | 51 => 288 | 146 => 469 | 53 => 23 | 148 => 471 | 70 => 416 | 37 => 22 | 75 => 409 | 127 => 442 | 164 => 478 | 80 => 118 | n => n,fun | n => n⟩
theorem Sh.lays105:Go.Proofs.Lays.n105 Tryz.prog Sh.lays105_ren:={
 mixed:=by kernel_rfl
 f99:=Tryz.func287.trans (congrArg some (by kernel_rfl))
 f105:=Tryz.func257.trans (congrArg some (by kernel_rfl))
 f165:=Tryz.func288.trans (congrArg some (by kernel_rfl))
 f166:=Tryz.func289.trans (congrArg some (by kernel_rfl))
 f169:=Tryz.func264.trans (congrArg some (by kernel_rfl))
 f170:=Tryz.func290.trans (congrArg some (by kernel_rfl))
 f206:=Tryz.func333.trans (congrArg some (by kernel_rfl))
 f212:=Tryz.func286.trans (congrArg some (by kernel_rfl))
 f240:=Tryz.func296.trans (congrArg some (by kernel_rfl))
 f241:=Tryz.func334.trans (congrArg some (by kernel_rfl))
 f263:=Tryz.func331.trans (congrArg some (by kernel_rfl))
 f264:=Tryz.func332.trans (congrArg some (by kernel_rfl))
 f276:=Tryz.func342.trans (congrArg some (by kernel_rfl))
 f277:=Tryz.func370.trans (congrArg some (by kernel_rfl))
 t0:=Tryz.underlying0
 a0:=Tryz.isAgg0
 z0:=Tryz.sizeOf0
 v0:=Tryz.zeroValue0
 t3:=Tryz.underlying3
 a3:=Tryz.isAgg3
 z3:=Tryz.sizeOf3
 v3:=Tryz.zeroValue3
 t4:=Tryz.underlying4
 a4:=Tryz.isAgg4
 z4:=Tryz.sizeOf4
 v4:=Tryz.zeroValue4
 t5:=Tryz.underlying5
 a5:=Tryz.isAgg5
 z5:=Tryz.sizeOf5
 v5:=Tryz.zeroValue5
 t9:=Tryz.underlying9
 a9:=Tryz.isAgg9
 z9:=Tryz.sizeOf9
 v9:=Tryz.zeroValue9
 t20:=Tryz.underlying20
 a20:=Tryz.isAgg20
 z20:=Tryz.sizeOf20
 v20:=Tryz.zeroValue20
 t37:=Tryz.underlying22
 a37:=Tryz.isAgg22
 z37:=Tryz.sizeOf22
 v37:=Tryz.zeroValue22
 t46:=Tryz.underlying46
 a46:=Tryz.isAgg46
 z46:=Tryz.sizeOf46
 v46:=Tryz.zeroValue46
 t51:=Tryz.underlying288
 a51:=Tryz.isAgg288
 z51:=Tryz.sizeOf288
 v51:=Tryz.zeroValue288
 t53:=Tryz.underlying23
 a53:=Tryz.isAgg23
 z53:=Tryz.sizeOf23
 v53:=Tryz.zeroValue23
 t70:=Tryz.underlying416
 a70:=Tryz.isAgg416
 z70:=Tryz.sizeOf416
 v70:=Tryz.zeroValue416
 t72:=Tryz.underlying418
 a72:=Tryz.isAgg418
 z72:=Tryz.sizeOf418
 v72:=Tryz.zeroValue418
 t75:=Tryz.underlying409
 a75:=Tryz.isAgg409
 z75:=Tryz.sizeOf409
 v75:=Tryz.zeroValue409
 t76:=Tryz.underlying439
 a76:=Tryz.isAgg439
 z76:=Tryz.sizeOf439
 v76:=Tryz.zeroValue439
 t109:=Tryz.underlying437
 a109:=Tryz.isAgg437
 z109:=Tryz.sizeOf437
 v109:=Tryz.zeroValue437
 t127:=Tryz.underlying442
 a127:=Tryz.isAgg442
 z127:=Tryz.sizeOf442
 v127:=Tryz.zeroValue442
 t146:=Tryz.underlying469
 a146:=Tryz.isAgg469
 z146:=Tryz.sizeOf469
 v146:=Tryz.zeroValue469
 t148:=Tryz.underlying471
 a148:=Tryz.isAgg471
 z148:=Tryz.sizeOf471
 v148:=Tryz.zeroValue471
 t164:=Tryz.underlying478
 a164:=Tryz.isAgg478
 z164:=Tryz.sizeOf478
 v164:=Tryz.zeroValue478 }
theorem Sh.Builder_Extra_105:Builder.Extra Tryz.prog Sh.lays105_ren:={
 sizeBuilder:=by kernel_rfl
 liesBuilder:=by kernel_rfl
 t5:=Tryz.underlying5
 a5:=Tryz.isAgg5
 z5:=Tryz.sizeOf5
 v5:=Tryz.zeroValue5
 infoByte:=by kernel_rfl
 cellsByte:=by kernel_rfl
 sizeByte:=by kernel_rfl
 neB5:=by decide }
open Go.RowKit Go.Lib in
theorem Sh.strings_Repeat (s:ByteArray) (c:Nat) (w:World) (hc:c ≤ 9223372036854775807) (hlen:s.size * c ≤ 140737488355328) :
 Calls Tryz.prog 257 #[.string s,.int .i64 c] w fun e w' => e = .returned (.string ⟨(Lib.repeatL s.data.toList c).toArray⟩) ∧ Below w.heap.size w w':=Any.strings_Repeat Sh.lays105 Sh.Builder_Extra_105 s c w hc hlen
end Go.Proofs.YtclfmpieapbfnaaGreatDoor
end
