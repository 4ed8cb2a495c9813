/- The library's contracts at this seat's numbers, laid by the kit's own tools (the plain form), and cut to those that are used. -/
import Derived.Shelf.Strings.Builder1
import Derived.Shelf.Strings.Builder2
import Derived.Shelf.Strings.OnBuilder
import Derived.Shelf.Small.Utf8
import Derived.Shelf.Small.Strs
import Derived.Shelf.Strconv.Itoa0
import Derived.Shelf.Strconv.Itoa1
import Derived.Shelf.LaysM
import Derived.Shelf.Strconv.Itoa2
import Derived.Shelf.Strconv.Itoa3
import Derived.Shelf.Pu.ParseUintPublic10
import Derived.Shelf.Pu.ErrVarParseUint
import Derived.Shelf.Strings.Search1
import Derived.Shelf.Strings.Search2
import Derived.Shelf.Strings.Search3
import Derived.Shelf.Strings.Cut
import Derived.Shelf.Strings.Count
import Derived.Shelf.Strings.Shaped
import Derived.Shelf.Sort.Plain
import Derived.Shelf.Strings.Prefix
import Derived.Shelf.Strings.Split
import Derived.Shelf.Strings.SplitShaped
import Derived.Shelf.Strings.Runes
import Derived.Shelf.Unicode.DecodeSlow
import Derived.Shelf.Slices.Clone
import Derived.Shelf.Slices.CompactS
import Derived.Shelf.Slices.Cells
import Derived.Shelf.Slices.In.SortNone
import Derived.Test.YtfofjblkondnbaaGreatDoorProg
namespace Go.Proofs
open Go.Shelf
def Tryz.lays119_ren : Go.Shelf.Ren := ⟨fun | 119 => 290 | n => n, fun | 21 => 21 | 4 => 4 | n => n, fun | n => n⟩
theorem Tryz.lays119 : Go.Proofs.Lays.n119 Tryz.prog Tryz.lays119_ren := {
  mixed := by kernel_rfl
  f119 := Tryz.func290.trans (congrArg some (by kernel_rfl))
  t4 := Tryz.underlying4
  a4 := Tryz.isAgg4
  z4 := Tryz.sizeOf4
  v4 := Tryz.zeroValue4
  t21 := Tryz.underlying21
  a21 := Tryz.isAgg21
  z21 := Tryz.sizeOf21
  v21 := Tryz.zeroValue21 }
theorem Tryz.utf8_ValidRune (r : Int) (w : World) :
    Calls Tryz.prog 290 #[.int .i32 r] w fun e w' => e = .returned (.bool (Lib.validRune r)) ∧ w' = w := Any.utf8_ValidRune Tryz.lays119 r w
def Tryz.lays137_ren : Go.Shelf.Ren := ⟨fun | 137 => 289 | 217 => 303 | 266 => 321 | n => n, fun | 9 => 9 | 5 => 5 | 3 => 3 | n => n, fun | n => n⟩
theorem Tryz.lays137 : Go.Proofs.Lays.n137 Tryz.prog Tryz.lays137_ren := {
  mixed := by kernel_rfl
  f137 := Tryz.func289.trans (congrArg some (by kernel_rfl))
  f217 := Tryz.func303.trans (congrArg some (by kernel_rfl))
  f266 := Tryz.func321.trans (congrArg some (by kernel_rfl))
  t3 := Tryz.underlying3
  a3 := Tryz.isAgg3
  z3 := Tryz.sizeOf3
  v3 := Tryz.zeroValue3
  t5 := Tryz.underlying5
  a5 := Tryz.isAgg5
  z5 := Tryz.sizeOf5
  v5 := Tryz.zeroValue5
  t9 := Tryz.underlying9
  a9 := Tryz.isAgg9
  z9 := Tryz.sizeOf9
  v9 := Tryz.zeroValue9 }
open Go.RowKit in
theorem Tryz.strings_IndexByte (s : ByteArray) (c : Int) (w : World) :
    Calls Tryz.prog 289 #[.string s, .int .u8 c] w fun e w' => e = .returned (.int .i64 (Lib.indexByte s.data.toList c.toNat.toUInt8)) ∧ w' = w := Any.strings_IndexByte Tryz.lays137 s c w
def Tryz.lays283_ren : Go.Shelf.Ren := ⟨fun | 283 => 311 | n => n, fun | 3 => 3 | 9 => 9 | 4 => 4 | n => n, fun | n => n⟩
theorem Tryz.lays283 : Go.Proofs.Lays.n283 Tryz.prog Tryz.lays283_ren := {
  mixed := by kernel_rfl
  f283 := Tryz.func311.trans (congrArg some (by kernel_rfl))
  t3 := Tryz.underlying3
  a3 := Tryz.isAgg3
  z3 := Tryz.sizeOf3
  v3 := Tryz.zeroValue3
  t4 := Tryz.underlying4
  a4 := Tryz.isAgg4
  z4 := Tryz.sizeOf4
  v4 := Tryz.zeroValue4
  t9 := Tryz.underlying9
  a9 := Tryz.isAgg9
  z9 := Tryz.sizeOf9
  v9 := Tryz.zeroValue9 }
open Go.Lib in
theorem Tryz.internal_strconv_small (i : Nat) (h : i < 100) (w : World) :
    Calls Tryz.prog 311 #[.int .i64 i] w fun e w' => e = .returned (.string ⟨(Lib.decDigits i).toArray⟩) ∧ w' = w := Any.internal_strconv_small Tryz.lays283 i h w
def Tryz.laysM284_ren : Go.Shelf.Ren := ⟨fun | 284 => 312 | 129 => 252 | 317 => 325 | 318 => 326 | n => n, fun | 53 => 266 | 3 => 3 | 212 => 336 | 0 => 0 | 4 => 4 | 46 => 55 | 5 => 5 | 9 => 9 | n => n, fun | 17 => 5 | n => n⟩
theorem Tryz.laysM284 : Go.Proofs.LaysM.n284 Tryz.prog Tryz.laysM284_ren := {
  mixed := by kernel_rfl
  f129 := Tryz.func252.trans (congrArg some (by kernel_rfl))
  f284 := Tryz.func312.trans (congrArg some (by kernel_rfl))
  f317 := Tryz.func325.trans (congrArg some (by kernel_rfl))
  f318 := Tryz.func326.trans (congrArg some (by kernel_rfl))
  t0 := Tryz.underlying0
  a0 := Tryz.isAgg0
  z0 := Tryz.sizeOf0
  v0 := Tryz.zeroValue0
  t3 := Tryz.underlying3
  a3 := Tryz.isAgg3
  z3 := Tryz.sizeOf3
  v3 := Tryz.zeroValue3
  t4 := Tryz.underlying4
  a4 := Tryz.isAgg4
  z4 := Tryz.sizeOf4
  v4 := Tryz.zeroValue4
  t5 := Tryz.underlying5
  a5 := Tryz.isAgg5
  z5 := Tryz.sizeOf5
  v5 := Tryz.zeroValue5
  t9 := Tryz.underlying9
  a9 := Tryz.isAgg9
  z9 := Tryz.sizeOf9
  v9 := Tryz.zeroValue9
  t46 := Tryz.underlying55
  a46 := Tryz.isAgg55
  z46 := Tryz.sizeOf55
  v46 := Tryz.zeroValue55
  t53 := Tryz.underlying266
  a53 := Tryz.isAgg266
  z53 := Tryz.sizeOf266
  v53 := Tryz.zeroValue266
  t212 := Tryz.underlying336
  a212 := Tryz.isAgg336
  z212 := Tryz.sizeOf336
  v212 := Tryz.zeroValue336
  g17 := by kernel_rfl
  i0 := by kernel_rfl
  i3 := by kernel_rfl
  i4 := by kernel_rfl
  i5 := by kernel_rfl
  i9 := by kernel_rfl
  i46 := by kernel_rfl
  i53 := by kernel_rfl
  i212 := by kernel_rfl
  m17 := by kernel_rfl }
open Go.Lib in
theorem Tryz.internal_strconv_numDigits (u : Nat) (h1 : 1 ≤ u) (h2 : u < 18446744073709551616) (w : World) (htab : Lib.TabIs Tryz.prog w "internal/strconv.uint64pow10" .u64 Lib.pow10Tab) :
    Calls Tryz.prog 312 #[.int .u64 u] w fun e w' => e = .returned (.int .i64 (Lib.nDigits u)) ∧ w' = w := Any.internal_strconv_numDigits Tryz.laysM284 u h1 h2 w htab
def Tryz.lays285_ren : Go.Shelf.Ren := ⟨fun | 285 => 313 | n => n, fun | 37 => 256 | 53 => 266 | 3 => 3 | 4 => 4 | 51 => 41 | 9 => 9 | 5 => 5 | 0 => 0 | n => n, fun | n => n⟩
theorem Tryz.lays285 : Go.Proofs.Lays.n285 Tryz.prog Tryz.lays285_ren := {
  mixed := by kernel_rfl
  f285 := Tryz.func313.trans (congrArg some (by kernel_rfl))
  t0 := Tryz.underlying0
  a0 := Tryz.isAgg0
  z0 := Tryz.sizeOf0
  v0 := Tryz.zeroValue0
  t3 := Tryz.underlying3
  a3 := Tryz.isAgg3
  z3 := Tryz.sizeOf3
  v3 := Tryz.zeroValue3
  t4 := Tryz.underlying4
  a4 := Tryz.isAgg4
  z4 := Tryz.sizeOf4
  v4 := Tryz.zeroValue4
  t5 := Tryz.underlying5
  a5 := Tryz.isAgg5
  z5 := Tryz.sizeOf5
  v5 := Tryz.zeroValue5
  t9 := Tryz.underlying9
  a9 := Tryz.isAgg9
  z9 := Tryz.sizeOf9
  v9 := Tryz.zeroValue9
  t37 := Tryz.underlying256
  a37 := Tryz.isAgg256
  z37 := Tryz.sizeOf256
  v37 := Tryz.zeroValue256
  t51 := Tryz.underlying41
  a51 := Tryz.isAgg41
  z51 := Tryz.sizeOf41
  v51 := Tryz.zeroValue41
  t53 := Tryz.underlying266
  a53 := Tryz.isAgg266
  z53 := Tryz.sizeOf266
  v53 := Tryz.zeroValue266 }
open Go.RowKit Go.Sort Go.Lib in
theorem Tryz.internal_strconv_formatBase10 (blk off cap : Nat) (u : Nat) (d : Array UInt8) (w : World) (hH : Holds (fun (b : UInt8) => Value.int .u8 (b.toNat : Int)) w blk off d) (hu : u < 10 ^ d.size) (hu64 : u < 18446744073709551616) (hsz : d.size < 4611686018427387904) :
    Calls Tryz.prog 313 #[.slice (some ⟨blk, off, none⟩) d.size cap, .int .u64 u] w fun e w' =>
      e = .returned (.tuple #[]) ∧ ∃ (n v' : Nat) (dk : Array UInt8), w' = (putRow (fun (b : UInt8) => Value.int .u8 (b.toNat : Int)) w blk off dk).drewN n ∧ FmtInv d.size u 0 v' dk := Any.internal_strconv_formatBase10 Tryz.lays285 blk off cap u d w hH hu hu64 hsz
def Tryz.laysPu14_ren : Go.Shelf.Ren := ⟨fun | 14 => 257 | 16 => 286 | 17 => 287 | 19 => 305 | 20 => 306 | 21 => 307 | 22 => 308 | 23 => 309 | 24 => 310 | 25 => 323 | 27 => 231 | 26 => 324 | 28 => 274 | 29 => 297 | 30 => 311 | 31 => 312 | 32 => 313 | 33 => 314 | 35 => 252 | 34 => 325 | 36 => 326 | 37 => 327 | 38 => 328 | 39 => 332 | 40 => 333 | n => n, fun | 9 => 9 | 3 => 3 | 22 => 266 | 24 => 270 | 25 => 271 | 4 => 4 | 34 => 312 | 5 => 5 | 36 => 55 | 37 => 256 | 0 => 0 | 39 => 314 | 21 => 21 | 44 => 333 | 47 => 325 | 50 => 343 | 48 => 341 | 2 => 2 | 52 => 317 | 55 => 319 | 59 => 336 | 60 => 41 | 20 => 20 | 61 => 337 | 65 => 344 | 66 => 345 | 67 => 308 | n => n, fun | 0 => 3 | 1 => 4 | 2 => 5 | 3 => 6 | 4 => 7 | n => n⟩
theorem Tryz.laysPu14 : Go.Proofs.LaysPu.n14 Tryz.prog Tryz.laysPu14_ren := {
  mixed := by kernel_rfl
  f14 := Tryz.func257.trans (congrArg some (by kernel_rfl))
  f16 := Tryz.func286.trans (congrArg some (by kernel_rfl))
  f17 := Tryz.func287.trans (congrArg some (by kernel_rfl))
  f19 := Tryz.func305.trans (congrArg some (by kernel_rfl))
  f20 := Tryz.func306.trans (congrArg some (by kernel_rfl))
  f21 := Tryz.func307.trans (congrArg some (by kernel_rfl))
  f22 := Tryz.func308.trans (congrArg some (by kernel_rfl))
  f23 := Tryz.func309.trans (congrArg some (by kernel_rfl))
  f24 := Tryz.func310.trans (congrArg some (by kernel_rfl))
  f25 := Tryz.func323.trans (congrArg some (by kernel_rfl))
  f26 := Tryz.func324.trans (congrArg some (by kernel_rfl))
  f27 := Tryz.func231.trans (congrArg some (by kernel_rfl))
  f28 := Tryz.func274.trans (congrArg some (by kernel_rfl))
  f29 := Tryz.func297.trans (congrArg some (by kernel_rfl))
  f30 := Tryz.func311.trans (congrArg some (by kernel_rfl))
  f31 := Tryz.func312.trans (congrArg some (by kernel_rfl))
  f32 := Tryz.func313.trans (congrArg some (by kernel_rfl))
  f33 := Tryz.func314.trans (congrArg some (by kernel_rfl))
  f34 := Tryz.func325.trans (congrArg some (by kernel_rfl))
  f35 := Tryz.func252.trans (congrArg some (by kernel_rfl))
  f36 := Tryz.func326.trans (congrArg some (by kernel_rfl))
  f37 := Tryz.func327.trans (congrArg some (by kernel_rfl))
  f38 := Tryz.func328.trans (congrArg some (by kernel_rfl))
  f39 := Tryz.func332.trans (congrArg some (by kernel_rfl))
  f40 := Tryz.func333.trans (congrArg some (by kernel_rfl))
  t0 := Tryz.underlying0
  a0 := Tryz.isAgg0
  z0 := Tryz.sizeOf0
  v0 := Tryz.zeroValue0
  i0 := by kernel_rfl
  t2 := Tryz.underlying2
  a2 := Tryz.isAgg2
  z2 := Tryz.sizeOf2
  v2 := Tryz.zeroValue2
  i2 := by kernel_rfl
  t3 := Tryz.underlying3
  a3 := Tryz.isAgg3
  z3 := Tryz.sizeOf3
  v3 := Tryz.zeroValue3
  i3 := by kernel_rfl
  t4 := Tryz.underlying4
  a4 := Tryz.isAgg4
  z4 := Tryz.sizeOf4
  v4 := Tryz.zeroValue4
  i4 := by kernel_rfl
  t5 := Tryz.underlying5
  a5 := Tryz.isAgg5
  z5 := Tryz.sizeOf5
  v5 := Tryz.zeroValue5
  i5 := by kernel_rfl
  t9 := Tryz.underlying9
  a9 := Tryz.isAgg9
  z9 := Tryz.sizeOf9
  v9 := Tryz.zeroValue9
  i9 := by kernel_rfl
  t20 := Tryz.underlying20
  a20 := Tryz.isAgg20
  z20 := Tryz.sizeOf20
  v20 := Tryz.zeroValue20
  i20 := by kernel_rfl
  t21 := Tryz.underlying21
  a21 := Tryz.isAgg21
  z21 := Tryz.sizeOf21
  v21 := Tryz.zeroValue21
  i21 := by kernel_rfl
  t22 := Tryz.underlying266
  a22 := Tryz.isAgg266
  z22 := Tryz.sizeOf266
  v22 := Tryz.zeroValue266
  i22 := by kernel_rfl
  t24 := Tryz.underlying270
  a24 := Tryz.isAgg270
  z24 := Tryz.sizeOf270
  v24 := Tryz.zeroValue270
  i24 := by kernel_rfl
  t25 := Tryz.underlying271
  a25 := Tryz.isAgg271
  z25 := Tryz.sizeOf271
  v25 := Tryz.zeroValue271
  i25 := by kernel_rfl
  t34 := Tryz.underlying312
  a34 := Tryz.isAgg312
  z34 := Tryz.sizeOf312
  v34 := Tryz.zeroValue312
  i34 := by kernel_rfl
  c34 := by kernel_rfl
  t36 := Tryz.underlying55
  a36 := Tryz.isAgg55
  z36 := Tryz.sizeOf55
  v36 := Tryz.zeroValue55
  i36 := by kernel_rfl
  t37 := Tryz.underlying256
  a37 := Tryz.isAgg256
  z37 := Tryz.sizeOf256
  v37 := Tryz.zeroValue256
  i37 := by kernel_rfl
  t39 := Tryz.underlying314
  a39 := Tryz.isAgg314
  z39 := Tryz.sizeOf314
  v39 := Tryz.zeroValue314
  i39 := by kernel_rfl
  t44 := Tryz.underlying333
  a44 := Tryz.isAgg333
  z44 := Tryz.sizeOf333
  v44 := Tryz.zeroValue333
  i44 := by kernel_rfl
  t47 := Tryz.underlying325
  a47 := Tryz.isAgg325
  z47 := Tryz.sizeOf325
  v47 := Tryz.zeroValue325
  i47 := by kernel_rfl
  t48 := Tryz.underlying341
  a48 := Tryz.isAgg341
  z48 := Tryz.sizeOf341
  v48 := Tryz.zeroValue341
  i48 := by kernel_rfl
  t50 := Tryz.underlying343
  a50 := Tryz.isAgg343
  z50 := Tryz.sizeOf343
  v50 := Tryz.zeroValue343
  i50 := by kernel_rfl
  t52 := Tryz.underlying317
  a52 := Tryz.isAgg317
  z52 := Tryz.sizeOf317
  v52 := Tryz.zeroValue317
  i52 := by kernel_rfl
  t55 := Tryz.underlying319
  a55 := Tryz.isAgg319
  z55 := Tryz.sizeOf319
  v55 := Tryz.zeroValue319
  i55 := by kernel_rfl
  t59 := Tryz.underlying336
  a59 := Tryz.isAgg336
  z59 := Tryz.sizeOf336
  v59 := Tryz.zeroValue336
  i59 := by kernel_rfl
  t60 := Tryz.underlying41
  a60 := Tryz.isAgg41
  z60 := Tryz.sizeOf41
  v60 := Tryz.zeroValue41
  i60 := by kernel_rfl
  t61 := Tryz.underlying337
  a61 := Tryz.isAgg337
  z61 := Tryz.sizeOf337
  t65 := Tryz.underlying344
  a65 := Tryz.isAgg344
  z65 := Tryz.sizeOf344
  v65 := Tryz.zeroValue344
  i65 := by kernel_rfl
  t66 := Tryz.underlying345
  a66 := Tryz.isAgg345
  z66 := Tryz.sizeOf345
  v66 := Tryz.zeroValue345
  i66 := by kernel_rfl
  t67 := Tryz.underlying308
  a67 := Tryz.isAgg308
  z67 := Tryz.sizeOf308
  v67 := Tryz.zeroValue308
  i67 := by kernel_rfl
  g0 := by kernel_rfl
  m0 := by kernel_rfl
  g1 := by kernel_rfl
  m1 := by kernel_rfl
  g2 := by kernel_rfl
  m2 := by kernel_rfl
  g3 := by kernel_rfl
  m3 := by kernel_rfl
  g4 := by kernel_rfl
  m4 := by kernel_rfl }
open Go.RowKit in
theorem Tryz.strconv_ParseUint_10_at32_ok (s : ByteArray) (hmax : s.size ≤ 9223372036854775806) (u : Nat) (h : Lib.parseUintB 32 s.data.toList = .ok u) (w : World) :
    Calls Tryz.prog 257 #[.string s, .int .i64 10, .int .i64 32] w fun e w' => e = .returned (.tuple #[.int .u64 u, .nilIface]) ∧ (w' = w ∨ w' = Lib.bytesWorld w 5 s) := Any.strconv_ParseUint_10_at32_ok Tryz.laysPu14 s hmax u h w
def Tryz.lays145_ren : Go.Shelf.Ren := ⟨fun | 145 => 190 | 220 => 256 | 219 => 285 | 217 => 303 | 225 => 292 | 224 => 291 | 267 => 304 | 266 => 321 | 314 => 322 | n => n, fun | 9 => 9 | 4 => 4 | 59 => 228 | 3 => 3 | 5 => 5 | 46 => 55 | 146 => 330 | 51 => 41 | n => n, fun | 1 => 0 | n => n⟩
theorem Tryz.lays145 : Go.Proofs.Lays.n145 Tryz.prog Tryz.lays145_ren := {
  mixed := by kernel_rfl
  f145 := Tryz.func190.trans (congrArg some (by kernel_rfl))
  f217 := Tryz.func303.trans (congrArg some (by kernel_rfl))
  f219 := Tryz.func285.trans (congrArg some (by kernel_rfl))
  f220 := Tryz.func256.trans (congrArg some (by kernel_rfl))
  f224 := Tryz.func291.trans (congrArg some (by kernel_rfl))
  f225 := Tryz.func292.trans (congrArg some (by kernel_rfl))
  f266 := Tryz.func321.trans (congrArg some (by kernel_rfl))
  f267 := Tryz.func304.trans (congrArg some (by kernel_rfl))
  f314 := Tryz.func322.trans (congrArg some (by kernel_rfl))
  t3 := Tryz.underlying3
  a3 := Tryz.isAgg3
  z3 := Tryz.sizeOf3
  v3 := Tryz.zeroValue3
  t4 := Tryz.underlying4
  a4 := Tryz.isAgg4
  z4 := Tryz.sizeOf4
  v4 := Tryz.zeroValue4
  t5 := Tryz.underlying5
  a5 := Tryz.isAgg5
  z5 := Tryz.sizeOf5
  v5 := Tryz.zeroValue5
  t9 := Tryz.underlying9
  a9 := Tryz.isAgg9
  z9 := Tryz.sizeOf9
  v9 := Tryz.zeroValue9
  t46 := Tryz.underlying55
  a46 := Tryz.isAgg55
  z46 := Tryz.sizeOf55
  v46 := Tryz.zeroValue55
  t51 := Tryz.underlying41
  a51 := Tryz.isAgg41
  z51 := Tryz.sizeOf41
  v51 := Tryz.zeroValue41
  t59 := Tryz.underlying228
  a59 := Tryz.isAgg228
  z59 := Tryz.sizeOf228
  v59 := Tryz.zeroValue228
  t146 := Tryz.underlying330
  a146 := Tryz.isAgg330
  z146 := Tryz.sizeOf330
  v146 := Tryz.zeroValue330
  g1 := by kernel_rfl }
open Go.RowKit Go.Lib in
theorem Tryz.strings_Cut (s sep : ByteArray) (m : Int) (w : World) (hs : s.size < 4294967281) (hm : w.cell? ⟨0, 0, none⟩ = some (.int .i64 m)) :
    Calls Tryz.prog 190 #[.string s, .string sep] w fun e w' => e = .returned (.tuple #[.string ⟨(Lib.cut s.data.toList sep.data.toList).1.toArray⟩, .string ⟨(Lib.cut s.data.toList sep.data.toList).2.1.toArray⟩, .bool (Lib.cut s.data.toList sep.data.toList).2.2]) ∧ ∃ n, w' = w.drewN n := Any.strings_Cut Tryz.lays145 s sep m w hs hm
def Tryz.laysM145_ren : Go.Shelf.Ren := ⟨fun | 145 => 190 | 220 => 256 | 219 => 285 | 217 => 303 | 225 => 292 | 224 => 291 | 267 => 304 | 266 => 321 | 314 => 322 | n => n, fun | 9 => 9 | 4 => 4 | 59 => 228 | 3 => 3 | 5 => 5 | 46 => 55 | 146 => 330 | 51 => 41 | n => n, fun | 1 => 0 | n => n⟩
theorem Tryz.laysM145 : Go.Proofs.LaysM.n145 Tryz.prog Tryz.laysM145_ren := {
  mixed := by kernel_rfl
  f145 := Tryz.func190.trans (congrArg some (by kernel_rfl))
  f217 := Tryz.func303.trans (congrArg some (by kernel_rfl))
  f219 := Tryz.func285.trans (congrArg some (by kernel_rfl))
  f220 := Tryz.func256.trans (congrArg some (by kernel_rfl))
  f224 := Tryz.func291.trans (congrArg some (by kernel_rfl))
  f225 := Tryz.func292.trans (congrArg some (by kernel_rfl))
  f266 := Tryz.func321.trans (congrArg some (by kernel_rfl))
  f267 := Tryz.func304.trans (congrArg some (by kernel_rfl))
  f314 := Tryz.func322.trans (congrArg some (by kernel_rfl))
  t3 := Tryz.underlying3
  a3 := Tryz.isAgg3
  z3 := Tryz.sizeOf3
  v3 := Tryz.zeroValue3
  t4 := Tryz.underlying4
  a4 := Tryz.isAgg4
  z4 := Tryz.sizeOf4
  v4 := Tryz.zeroValue4
  t5 := Tryz.underlying5
  a5 := Tryz.isAgg5
  z5 := Tryz.sizeOf5
  v5 := Tryz.zeroValue5
  t9 := Tryz.underlying9
  a9 := Tryz.isAgg9
  z9 := Tryz.sizeOf9
  v9 := Tryz.zeroValue9
  t46 := Tryz.underlying55
  a46 := Tryz.isAgg55
  z46 := Tryz.sizeOf55
  v46 := Tryz.zeroValue55
  t51 := Tryz.underlying41
  a51 := Tryz.isAgg41
  z51 := Tryz.sizeOf41
  v51 := Tryz.zeroValue41
  t59 := Tryz.underlying228
  a59 := Tryz.isAgg228
  z59 := Tryz.sizeOf228
  v59 := Tryz.zeroValue228
  t146 := Tryz.underlying330
  a146 := Tryz.isAgg330
  z146 := Tryz.sizeOf330
  v146 := Tryz.zeroValue330
  g1 := by kernel_rfl
  i3 := by kernel_rfl
  i4 := by kernel_rfl
  i5 := by kernel_rfl
  i9 := by kernel_rfl
  i46 := by kernel_rfl
  i51 := by kernel_rfl
  i59 := by kernel_rfl
  i146 := by kernel_rfl
  m1 := by kernel_rfl
  s1_3 := fun w h => Go.Proofs.cell_of_shapedOpen_int (zero := #[.int .i64 0]) (t := 3) h (of_decide_eq_true (by kernel_rfl)) (by kernel_rfl) rfl (by kernel_rfl) (by kernel_rfl) Tryz.underlying3 }
def Tryz.lays190_ren : Go.Shelf.Ren := ⟨fun | 190 => 115 | 125 => 187 | 258 => 186 | 128 => 251 | 129 => 252 | 302 => 242 | 303 => 243 | 304 => 244 | 305 => 245 | 306 => 246 | 307 => 247 | 308 => 248 | 309 => 249 | 310 => 250 | 333 => 276 | 329 => 277 | 330 => 278 | 334 => 279 | 335 => 280 | 336 => 281 | 344 => 301 | n => n, fun | 31 => 22 | 9 => 9 | 3 => 3 | 46 => 55 | 0 => 0 | 51 => 41 | 53 => 266 | 4 => 4 | 183 => 259 | 182 => 258 | 131 => 198 | 5 => 5 | 218 => 287 | 222 => 291 | 228 => 309 | 229 => 310 | n => n, fun | n => n⟩
theorem Tryz.lays190 : Go.Proofs.Lays.n190 Tryz.prog Tryz.lays190_ren := {
  mixed := by kernel_rfl
  f125 := Tryz.func187.trans (congrArg some (by kernel_rfl))
  f128 := Tryz.func251.trans (congrArg some (by kernel_rfl))
  f129 := Tryz.func252.trans (congrArg some (by kernel_rfl))
  f190 := Tryz.func115.trans (congrArg some (by kernel_rfl))
  f258 := Tryz.func186.trans (congrArg some (by kernel_rfl))
  f302 := Tryz.func242.trans (congrArg some (by kernel_rfl))
  f303 := Tryz.func243.trans (congrArg some (by kernel_rfl))
  f304 := Tryz.func244.trans (congrArg some (by kernel_rfl))
  f305 := Tryz.func245.trans (congrArg some (by kernel_rfl))
  f306 := Tryz.func246.trans (congrArg some (by kernel_rfl))
  f307 := Tryz.func247.trans (congrArg some (by kernel_rfl))
  f308 := Tryz.func248.trans (congrArg some (by kernel_rfl))
  f309 := Tryz.func249.trans (congrArg some (by kernel_rfl))
  f310 := Tryz.func250.trans (congrArg some (by kernel_rfl))
  f329 := Tryz.func277.trans (congrArg some (by kernel_rfl))
  f330 := Tryz.func278.trans (congrArg some (by kernel_rfl))
  f333 := Tryz.func276.trans (congrArg some (by kernel_rfl))
  f334 := Tryz.func279.trans (congrArg some (by kernel_rfl))
  f335 := Tryz.func280.trans (congrArg some (by kernel_rfl))
  f336 := Tryz.func281.trans (congrArg some (by kernel_rfl))
  f344 := Tryz.func301.trans (congrArg some (by kernel_rfl))
  t0 := Tryz.underlying0
  a0 := Tryz.isAgg0
  z0 := Tryz.sizeOf0
  v0 := Tryz.zeroValue0
  t3 := Tryz.underlying3
  a3 := Tryz.isAgg3
  z3 := Tryz.sizeOf3
  v3 := Tryz.zeroValue3
  t4 := Tryz.underlying4
  a4 := Tryz.isAgg4
  z4 := Tryz.sizeOf4
  v4 := Tryz.zeroValue4
  t5 := Tryz.underlying5
  a5 := Tryz.isAgg5
  z5 := Tryz.sizeOf5
  v5 := Tryz.zeroValue5
  t9 := Tryz.underlying9
  a9 := Tryz.isAgg9
  z9 := Tryz.sizeOf9
  v9 := Tryz.zeroValue9
  t31 := Tryz.underlying22
  a31 := Tryz.isAgg22
  z31 := Tryz.sizeOf22
  v31 := Tryz.zeroValue22
  t46 := Tryz.underlying55
  a46 := Tryz.isAgg55
  z46 := Tryz.sizeOf55
  v46 := Tryz.zeroValue55
  t51 := Tryz.underlying41
  a51 := Tryz.isAgg41
  z51 := Tryz.sizeOf41
  v51 := Tryz.zeroValue41
  t53 := Tryz.underlying266
  a53 := Tryz.isAgg266
  z53 := Tryz.sizeOf266
  v53 := Tryz.zeroValue266
  t131 := Tryz.underlying198
  a131 := Tryz.isAgg198
  z131 := Tryz.sizeOf198
  v131 := Tryz.zeroValue198
  t182 := Tryz.underlying258
  a182 := Tryz.isAgg258
  z182 := Tryz.sizeOf258
  v182 := Tryz.zeroValue258
  t183 := Tryz.underlying259
  a183 := Tryz.isAgg259
  z183 := Tryz.sizeOf259
  v183 := Tryz.zeroValue259
  t218 := Tryz.underlying287
  a218 := Tryz.isAgg287
  z218 := Tryz.sizeOf287
  v218 := Tryz.zeroValue287
  t222 := Tryz.underlying291
  a222 := Tryz.isAgg291
  z222 := Tryz.sizeOf291
  v222 := Tryz.zeroValue291
  t228 := Tryz.underlying309
  a228 := Tryz.isAgg309
  z228 := Tryz.sizeOf309
  v228 := Tryz.zeroValue309
  t229 := Tryz.underlying310
  a229 := Tryz.isAgg310
  z229 := Tryz.sizeOf310
  v229 := Tryz.zeroValue310 }
open Go.Sort Go.RowKit in
theorem Tryz.slices_Sort_string (blk off cap : Nat) (ss : List (List UInt8)) (w : World) (hH : Holds encStr w blk off ss.toArray) (hblk : blk < w.heap.size) (hsz : ss.length < 4611686018427387904) :
    Calls Tryz.prog 115 #[.slice (some ⟨blk, off, none⟩) ss.length cap] w fun e w' =>
      e = .returned (.tuple #[]) ∧ ∃ n os, w' = grow (putRow encStr (Sort.ahead w n) blk off (ss.mergeSort fun x y => decide (x ≤ y)).toArray) os := Any.slices_Sort_string Tryz.lays190 blk off cap ss w hH hblk hsz
def Tryz.lays99_ren : Go.Shelf.Ren := ⟨fun | 99 => 117 | 206 => 188 | n => n, fun | 9 => 9 | 4 => 4 | 3 => 3 | n => n, fun | n => n⟩
theorem Tryz.lays99 : Go.Proofs.Lays.n99 Tryz.prog Tryz.lays99_ren := {
  mixed := by kernel_rfl
  f99 := Tryz.func117.trans (congrArg some (by kernel_rfl))
  f206 := Tryz.func188.trans (congrArg some (by kernel_rfl))
  t3 := Tryz.underlying3
  a3 := Tryz.isAgg3
  z3 := Tryz.sizeOf3
  v3 := Tryz.zeroValue3
  t4 := Tryz.underlying4
  a4 := Tryz.isAgg4
  z4 := Tryz.sizeOf4
  v4 := Tryz.zeroValue4
  t9 := Tryz.underlying9
  a9 := Tryz.isAgg9
  z9 := Tryz.sizeOf9
  v9 := Tryz.zeroValue9 }
open Go.RowKit Go.Lib in
theorem Tryz.strings_HasPrefix (s p : ByteArray) (w : World) :
    Calls Tryz.prog 117 #[.string s, .string p] w fun e w' => e = .returned (.bool (Lib.hasPrefix s.data.toList p.data.toList)) ∧ w' = w := Any.strings_HasPrefix Tryz.lays99 s p w
def Tryz.lays146_ren : Go.Shelf.Ren := ⟨fun | 146 => 118 | 221 => 189 | 268 => 253 | 138 => 254 | 143 => 255 | 195 => 282 | 197 => 283 | 218 => 284 | 219 => 285 | 260 => 302 | 217 => 303 | 225 => 292 | 224 => 291 | 267 => 304 | 266 => 321 | 314 => 322 | n => n, fun | 9 => 9 | 31 => 22 | 3 => 3 | 4 => 4 | 0 => 0 | 105 => 294 | 21 => 21 | 5 => 5 | 46 => 55 | 119 => 326 | 139 => 329 | 138 => 328 | 146 => 330 | 51 => 41 | n => n, fun | 1 => 0 | 3 => 1 | 4 => 2 | n => n⟩
theorem Tryz.lays146 : Go.Proofs.Lays.n146 Tryz.prog Tryz.lays146_ren := {
  mixed := by kernel_rfl
  f138 := Tryz.func254.trans (congrArg some (by kernel_rfl))
  f143 := Tryz.func255.trans (congrArg some (by kernel_rfl))
  f146 := Tryz.func118.trans (congrArg some (by kernel_rfl))
  f195 := Tryz.func282.trans (congrArg some (by kernel_rfl))
  f197 := Tryz.func283.trans (congrArg some (by kernel_rfl))
  f217 := Tryz.func303.trans (congrArg some (by kernel_rfl))
  f218 := Tryz.func284.trans (congrArg some (by kernel_rfl))
  f219 := Tryz.func285.trans (congrArg some (by kernel_rfl))
  f221 := Tryz.func189.trans (congrArg some (by kernel_rfl))
  f224 := Tryz.func291.trans (congrArg some (by kernel_rfl))
  f225 := Tryz.func292.trans (congrArg some (by kernel_rfl))
  f260 := Tryz.func302.trans (congrArg some (by kernel_rfl))
  f266 := Tryz.func321.trans (congrArg some (by kernel_rfl))
  f267 := Tryz.func304.trans (congrArg some (by kernel_rfl))
  f268 := Tryz.func253.trans (congrArg some (by kernel_rfl))
  f314 := Tryz.func322.trans (congrArg some (by kernel_rfl))
  t0 := Tryz.underlying0
  a0 := Tryz.isAgg0
  z0 := Tryz.sizeOf0
  v0 := Tryz.zeroValue0
  t3 := Tryz.underlying3
  a3 := Tryz.isAgg3
  z3 := Tryz.sizeOf3
  v3 := Tryz.zeroValue3
  t4 := Tryz.underlying4
  a4 := Tryz.isAgg4
  z4 := Tryz.sizeOf4
  v4 := Tryz.zeroValue4
  t5 := Tryz.underlying5
  a5 := Tryz.isAgg5
  z5 := Tryz.sizeOf5
  v5 := Tryz.zeroValue5
  t9 := Tryz.underlying9
  a9 := Tryz.isAgg9
  z9 := Tryz.sizeOf9
  v9 := Tryz.zeroValue9
  t21 := Tryz.underlying21
  a21 := Tryz.isAgg21
  z21 := Tryz.sizeOf21
  v21 := Tryz.zeroValue21
  t31 := Tryz.underlying22
  a31 := Tryz.isAgg22
  z31 := Tryz.sizeOf22
  v31 := Tryz.zeroValue22
  t46 := Tryz.underlying55
  a46 := Tryz.isAgg55
  z46 := Tryz.sizeOf55
  v46 := Tryz.zeroValue55
  t51 := Tryz.underlying41
  a51 := Tryz.isAgg41
  z51 := Tryz.sizeOf41
  v51 := Tryz.zeroValue41
  t105 := Tryz.underlying294
  a105 := Tryz.isAgg294
  z105 := Tryz.sizeOf294
  v105 := Tryz.zeroValue294
  t119 := Tryz.underlying326
  a119 := Tryz.isAgg326
  z119 := Tryz.sizeOf326
  t138 := Tryz.underlying328
  a138 := Tryz.isAgg328
  z138 := Tryz.sizeOf328
  v138 := Tryz.zeroValue328
  t139 := Tryz.underlying329
  a139 := Tryz.isAgg329
  z139 := Tryz.sizeOf329
  v139 := Tryz.zeroValue329
  t146 := Tryz.underlying330
  a146 := Tryz.isAgg330
  z146 := Tryz.sizeOf330
  v146 := Tryz.zeroValue330
  g1 := by kernel_rfl
  g3 := by kernel_rfl
  g4 := by kernel_rfl }
open Go.RowKit Go.Lib in
theorem Tryz.strings_Split (s sep : ByteArray) (m : Int) (w : World) (hs : s.size < 4294967281) (hm : w.cell? ⟨0, 0, none⟩ = some (.int .i64 m)) (h1 : 1 ≤ sep.size) :
    Calls Tryz.prog 118 #[.string s, .string sep] w fun e w' =>
      e = .returned (.slice (some ⟨w.heap.size, 0, none⟩) (Lib.countB s sep + 1) (Lib.countB s sep + 1)) ∧ w' = w.alloc (.cells ((Lib.splitB sep 0 (Lib.countB s sep) s).map Value.string).toArray 9) := Any.strings_Split Tryz.lays146 (by kernel_rfl) s sep m w hs hm h1
def Tryz.lays151_ren : Go.Shelf.Ren := ⟨fun | 151 => 210 | 152 => 261 | 137 => 289 | 119 => 290 | 224 => 291 | 225 => 292 | 217 => 303 | 266 => 321 | n => n, fun | 9 => 9 | 21 => 21 | 4 => 4 | 3 => 3 | 5 => 5 | 0 => 0 | 46 => 55 | n => n, fun | n => n⟩
theorem Tryz.lays151 : Go.Proofs.Lays.n151 Tryz.prog Tryz.lays151_ren := {
  mixed := by kernel_rfl
  f119 := Tryz.func290.trans (congrArg some (by kernel_rfl))
  f137 := Tryz.func289.trans (congrArg some (by kernel_rfl))
  f151 := Tryz.func210.trans (congrArg some (by kernel_rfl))
  f152 := Tryz.func261.trans (congrArg some (by kernel_rfl))
  f217 := Tryz.func303.trans (congrArg some (by kernel_rfl))
  f224 := Tryz.func291.trans (congrArg some (by kernel_rfl))
  f225 := Tryz.func292.trans (congrArg some (by kernel_rfl))
  f266 := Tryz.func321.trans (congrArg some (by kernel_rfl))
  t0 := Tryz.underlying0
  a0 := Tryz.isAgg0
  z0 := Tryz.sizeOf0
  v0 := Tryz.zeroValue0
  t3 := Tryz.underlying3
  a3 := Tryz.isAgg3
  z3 := Tryz.sizeOf3
  v3 := Tryz.zeroValue3
  t4 := Tryz.underlying4
  a4 := Tryz.isAgg4
  z4 := Tryz.sizeOf4
  v4 := Tryz.zeroValue4
  t5 := Tryz.underlying5
  a5 := Tryz.isAgg5
  z5 := Tryz.sizeOf5
  v5 := Tryz.zeroValue5
  t9 := Tryz.underlying9
  a9 := Tryz.isAgg9
  z9 := Tryz.sizeOf9
  v9 := Tryz.zeroValue9
  t21 := Tryz.underlying21
  a21 := Tryz.isAgg21
  z21 := Tryz.sizeOf21
  v21 := Tryz.zeroValue21
  t46 := Tryz.underlying55
  a46 := Tryz.isAgg55
  z46 := Tryz.sizeOf55
  v46 := Tryz.zeroValue55 }
open Go.RowKit Go.Lib in
theorem Tryz.strings_ContainsRune_ascii (s : ByteArray) (r : Int) (w : World) (h0 : 0 ≤ r) (h1 : r < 128) :
    Calls Tryz.prog 210 #[.string s, .int .i32 r] w fun e w' => e = .returned (.bool (decide (0 ≤ Lib.indexByte s.data.toList r.toNat.toUInt8))) ∧ w' = w := Any.strings_ContainsRune_ascii Tryz.lays151 s r w h0 h1
def Tryz.lays194_ren : Go.Shelf.Ren := ⟨fun | 194 => 57 | n => n, fun | 31 => 22 | 9 => 9 | 3 => 3 | 4 => 4 | 0 => 0 | n => n, fun | n => n⟩
theorem Tryz.lays194 : Go.Proofs.Lays.n194 Tryz.prog Tryz.lays194_ren := {
  mixed := by kernel_rfl
  f194 := Tryz.func57.trans (congrArg some (by kernel_rfl))
  t0 := Tryz.underlying0
  a0 := Tryz.isAgg0
  z0 := Tryz.sizeOf0
  v0 := Tryz.zeroValue0
  t3 := Tryz.underlying3
  a3 := Tryz.isAgg3
  z3 := Tryz.sizeOf3
  v3 := Tryz.zeroValue3
  t4 := Tryz.underlying4
  a4 := Tryz.isAgg4
  z4 := Tryz.sizeOf4
  v4 := Tryz.zeroValue4
  t9 := Tryz.underlying9
  a9 := Tryz.isAgg9
  z9 := Tryz.sizeOf9
  v9 := Tryz.zeroValue9
  t31 := Tryz.underlying22
  a31 := Tryz.isAgg22
  z31 := Tryz.sizeOf22
  v31 := Tryz.zeroValue22 }
open Go.RowKit Go.Lib Go.Sort in
theorem Tryz.slices_Compact_string (blk off cap : Nat) (zs : List (List UInt8)) (w : World) (hH : Holds encStr w blk off zs.toArray) (hsz : zs.length ≤ 9223372036854775807) (hcap : zs.length ≤ cap) :
    Calls Tryz.prog 57 #[.slice (some ⟨blk, off, none⟩) zs.length cap] w fun e w' => e = .returned (.slice (some ⟨blk, off, none⟩) (Lib.compact zs).length cap) ∧ ∃ q, w' = putRow encStr (Sort.ahead w q) blk off (Lib.compact zs ++ List.replicate (zs.length - (Lib.compact zs).length) []).toArray := Any.slices_Compact_string Tryz.lays194 blk off cap zs w hH hsz hcap
open Go.RowKit Go.Lib Go.Sort in
theorem Tryz.slices_Compact_string_empty (a : Option Addr) (cap : Nat) (w : World) :
    Calls Tryz.prog 57 #[.slice a 0 cap] w fun e w' => e = .returned (.slice a 0 cap) ∧ w' = w := Any.slices_Compact_string_empty Tryz.lays194 a cap w
open Go.RowKit Go.Sort in
theorem Tryz.slices_Sort_string_none (p : Option Addr) (cap : Nat) (w : World) :
    Calls Tryz.prog 115 #[.slice p 0 cap] w fun e w' => e = .returned (.tuple #[]) ∧ w' = w := Any.slices_Sort_string_none Tryz.lays190 p cap w
end Go.Proofs
