/- The layer of abstract runs, part 36. -/
import Derived.Test.YtdehnnadfbildaaGreatDoorStpZI
import Derived.Shelf.Strings.Builder1
import Derived.Shelf.Strconv.Itoa0
import Derived.Shelf.Strconv.Itoa1
import Derived.Shelf.LaysM
import Derived.Shelf.Strconv.Itoa2
import Derived.Shelf.Strconv.Itoa3
import Derived.Shelf.Sort.Plain
import Derived.Shelf.Slices.CompactI
import Derived.Shelf.Slices.Cells
import Derived.Test.YtdehnnadfbildaaGreatDoorProg
import Derived.KernelRfl
set_option linter.unusedSimpArgs false
set_option linter.unusedVariables false
set_option linter.all false

/-
  The contracts of strconv.Itoa, strings.Builder.String, slices.Sort and slices.Compact, laid at this program by a tool of the kit (in plain words).
-/
namespace Go.Proofs
open Go.Shelf
def Tryz.lays169_ren : Go.Shelf.Ren := ⟨fun | 169 => 77 | n => n, fun | 70 => 149 | 9 => 9 | 0 => 0 | 72 => 151 | 37 => 112 | 127 => 186 | 3 => 3 | 5 => 5 | n => n, fun | n => n⟩
theorem Tryz.lays169 : Go.Proofs.Lays.n169 Tryz.prog Tryz.lays169_ren := {
  mixed := by kernel_rfl
  f169 := Tryz.func77.trans (congrArg some (by kernel_rfl))
  t0 := Tryz.underlying0
  a0 := Tryz.isAgg0
  z0 := Tryz.sizeOf0
  v0 := Tryz.zeroValue0
  t3 := Tryz.underlying3
  a3 := Tryz.isAgg3
  z3 := Tryz.sizeOf3
  v3 := Tryz.zeroValue3
  t9 := Tryz.underlying9
  a9 := Tryz.isAgg9
  z9 := Tryz.sizeOf9
  v9 := Tryz.zeroValue9
  t37 := Tryz.underlying112
  a37 := Tryz.isAgg112
  z37 := Tryz.sizeOf112
  v37 := Tryz.zeroValue112
  t70 := Tryz.underlying149
  a70 := Tryz.isAgg149
  z70 := Tryz.sizeOf149
  v70 := Tryz.zeroValue149
  t72 := Tryz.underlying151
  a72 := Tryz.isAgg151
  z72 := Tryz.sizeOf151
  v72 := Tryz.zeroValue151
  t127 := Tryz.underlying186
  a127 := Tryz.isAgg186
  z127 := Tryz.sizeOf186
  v127 := Tryz.zeroValue186 }
theorem Tryz.Builder_Extra_169 : Builder.Extra Tryz.prog Tryz.lays169_ren := {
  sizeBuilder := by kernel_rfl
  liesBuilder := by kernel_rfl
  t5 := Tryz.underlying5
  a5 := Tryz.isAgg5
  z5 := Tryz.sizeOf5
  v5 := Tryz.zeroValue5
  infoByte := by kernel_rfl
  cellsByte := by kernel_rfl
  sizeByte := by kernel_rfl
  neB5 := by decide }
def Tryz.laysM171_ren : Go.Shelf.Ren := ⟨fun | 171 => 75 | 243 => 106 | 246 => 122 | 283 => 138 | 284 => 139 | 285 => 140 | 286 => 141 | 129 => 133 | 317 => 148 | 318 => 149 | 319 => 150 | 320 => 151 | 337 => 153 | 338 => 154 | n => n, fun | 3 => 3 | 9 => 9 | 2 => 2 | 4 => 4 | 171 => 220 | 0 => 0 | 53 => 216 | 37 => 112 | 5 => 5 | 173 => 222 | 212 => 230 | 51 => 214 | 20 => 20 | 213 => 231 | 46 => 190 | 232 => 235 | 233 => 236 | n => n, fun | 17 => 0 | 18 => 1 | 19 => 2 | n => n⟩
theorem Tryz.laysM171 : Go.Proofs.LaysM.n171 Tryz.prog Tryz.laysM171_ren := {
  mixed := by kernel_rfl
  f129 := Tryz.func133.trans (congrArg some (by kernel_rfl))
  f171 := Tryz.func75.trans (congrArg some (by kernel_rfl))
  f243 := Tryz.func106.trans (congrArg some (by kernel_rfl))
  f246 := Tryz.func122.trans (congrArg some (by kernel_rfl))
  f283 := Tryz.func138.trans (congrArg some (by kernel_rfl))
  f284 := Tryz.func139.trans (congrArg some (by kernel_rfl))
  f285 := Tryz.func140.trans (congrArg some (by kernel_rfl))
  f286 := Tryz.func141.trans (congrArg some (by kernel_rfl))
  f317 := Tryz.func148.trans (congrArg some (by kernel_rfl))
  f318 := Tryz.func149.trans (congrArg some (by kernel_rfl))
  f319 := Tryz.func150.trans (congrArg some (by kernel_rfl))
  f320 := Tryz.func151.trans (congrArg some (by kernel_rfl))
  f337 := Tryz.func153.trans (congrArg some (by kernel_rfl))
  f338 := Tryz.func154.trans (congrArg some (by kernel_rfl))
  t0 := Tryz.underlying0
  a0 := Tryz.isAgg0
  z0 := Tryz.sizeOf0
  v0 := Tryz.zeroValue0
  t2 := Tryz.underlying2
  a2 := Tryz.isAgg2
  z2 := Tryz.sizeOf2
  v2 := Tryz.zeroValue2
  t3 := Tryz.underlying3
  a3 := Tryz.isAgg3
  z3 := Tryz.sizeOf3
  v3 := Tryz.zeroValue3
  t4 := Tryz.underlying4
  a4 := Tryz.isAgg4
  z4 := Tryz.sizeOf4
  v4 := Tryz.zeroValue4
  t5 := Tryz.underlying5
  a5 := Tryz.isAgg5
  z5 := Tryz.sizeOf5
  v5 := Tryz.zeroValue5
  t9 := Tryz.underlying9
  a9 := Tryz.isAgg9
  z9 := Tryz.sizeOf9
  v9 := Tryz.zeroValue9
  t20 := Tryz.underlying20
  a20 := Tryz.isAgg20
  z20 := Tryz.sizeOf20
  v20 := Tryz.zeroValue20
  t37 := Tryz.underlying112
  a37 := Tryz.isAgg112
  z37 := Tryz.sizeOf112
  v37 := Tryz.zeroValue112
  t46 := Tryz.underlying190
  a46 := Tryz.isAgg190
  z46 := Tryz.sizeOf190
  v46 := Tryz.zeroValue190
  t51 := Tryz.underlying214
  a51 := Tryz.isAgg214
  z51 := Tryz.sizeOf214
  v51 := Tryz.zeroValue214
  t53 := Tryz.underlying216
  a53 := Tryz.isAgg216
  z53 := Tryz.sizeOf216
  v53 := Tryz.zeroValue216
  t171 := Tryz.underlying220
  a171 := Tryz.isAgg220
  z171 := Tryz.sizeOf220
  v171 := Tryz.zeroValue220
  t173 := Tryz.underlying222
  a173 := Tryz.isAgg222
  z173 := Tryz.sizeOf222
  v173 := Tryz.zeroValue222
  t212 := Tryz.underlying230
  a212 := Tryz.isAgg230
  z212 := Tryz.sizeOf230
  v212 := Tryz.zeroValue230
  t213 := Tryz.underlying231
  a213 := Tryz.isAgg231
  z213 := Tryz.sizeOf231
  t232 := Tryz.underlying235
  a232 := Tryz.isAgg235
  z232 := Tryz.sizeOf235
  v232 := Tryz.zeroValue235
  t233 := Tryz.underlying236
  a233 := Tryz.isAgg236
  z233 := Tryz.sizeOf236
  v233 := Tryz.zeroValue236
  g17 := by kernel_rfl
  g18 := by kernel_rfl
  g19 := by kernel_rfl
  i0 := by kernel_rfl
  i2 := by kernel_rfl
  i3 := by kernel_rfl
  i4 := by kernel_rfl
  i5 := by kernel_rfl
  i9 := by kernel_rfl
  i20 := by kernel_rfl
  i37 := by kernel_rfl
  i46 := by kernel_rfl
  i51 := by kernel_rfl
  i53 := by kernel_rfl
  i171 := by kernel_rfl
  i173 := by kernel_rfl
  i212 := by kernel_rfl
  i232 := by kernel_rfl
  i233 := by kernel_rfl
  m17 := by kernel_rfl
  m18 := by kernel_rfl
  m19 := by kernel_rfl }
open Go.RowKit Go.Sort Go.Lib in
/-- strconv.Itoa: "Itoa is equivalent to FormatInt(int64(i), 10).": i's DECIMAL NUMERAL ('Lib.itoa': a '-' where i is negative, then the digits), FOR EVERY int. The world behind the call: the world before it, new blocks behind the heap (the library's 'var a [24]byte'), draws. (LAID: no walk: one application.) -/
theorem Tryz.strconv_Itoa (n : Int) (h0 : -9223372036854775808 ≤ n) (h1 : n ≤ 9223372036854775807) (w : World) (htab : Lib.TabIs Tryz.prog w "internal/strconv.uint64pow10" .u64 Lib.pow10Tab) :
    Calls Tryz.prog 75 #[.int .i64 n] w fun e w' => e = .returned (.string ⟨(Lib.itoa n).toArray⟩) ∧ ∃ k os, w' = grow (w.drewN k) os := Any.strconv_Itoa Tryz.laysM171 n h0 h1 w htab
def Tryz.lays189_ren : Go.Shelf.Ren := ⟨fun | 189 => 81 | 125 => 108 | 257 => 107 | 128 => 132 | 129 => 133 | 294 => 123 | 295 => 124 | 296 => 125 | 297 => 126 | 298 => 127 | 299 => 128 | 216 => 129 | 300 => 130 | 301 => 131 | 328 => 142 | 329 => 143 | 330 => 144 | 331 => 145 | 332 => 146 | 215 => 147 | 343 => 152 | n => n, fun | 28 => 31 | 3 => 3 | 46 => 190 | 0 => 0 | 51 => 214 | 53 => 216 | 4 => 4 | 183 => 208 | 182 => 207 | 131 => 146 | 5 => 5 | 9 => 9 | 218 => 224 | 222 => 184 | 228 => 232 | 229 => 233 | n => n, fun | n => n⟩
theorem Tryz.lays189 : Go.Proofs.Lays.n189 Tryz.prog Tryz.lays189_ren := {
  mixed := by kernel_rfl
  f125 := Tryz.func108.trans (congrArg some (by kernel_rfl))
  f128 := Tryz.func132.trans (congrArg some (by kernel_rfl))
  f129 := Tryz.func133.trans (congrArg some (by kernel_rfl))
  f189 := Tryz.func81.trans (congrArg some (by kernel_rfl))
  f215 := Tryz.func147.trans (congrArg some (by kernel_rfl))
  f216 := Tryz.func129.trans (congrArg some (by kernel_rfl))
  f257 := Tryz.func107.trans (congrArg some (by kernel_rfl))
  f294 := Tryz.func123.trans (congrArg some (by kernel_rfl))
  f295 := Tryz.func124.trans (congrArg some (by kernel_rfl))
  f296 := Tryz.func125.trans (congrArg some (by kernel_rfl))
  f297 := Tryz.func126.trans (congrArg some (by kernel_rfl))
  f298 := Tryz.func127.trans (congrArg some (by kernel_rfl))
  f299 := Tryz.func128.trans (congrArg some (by kernel_rfl))
  f300 := Tryz.func130.trans (congrArg some (by kernel_rfl))
  f301 := Tryz.func131.trans (congrArg some (by kernel_rfl))
  f328 := Tryz.func142.trans (congrArg some (by kernel_rfl))
  f329 := Tryz.func143.trans (congrArg some (by kernel_rfl))
  f330 := Tryz.func144.trans (congrArg some (by kernel_rfl))
  f331 := Tryz.func145.trans (congrArg some (by kernel_rfl))
  f332 := Tryz.func146.trans (congrArg some (by kernel_rfl))
  f343 := Tryz.func152.trans (congrArg some (by kernel_rfl))
  t0 := Tryz.underlying0
  a0 := Tryz.isAgg0
  z0 := Tryz.sizeOf0
  v0 := Tryz.zeroValue0
  t3 := Tryz.underlying3
  a3 := Tryz.isAgg3
  z3 := Tryz.sizeOf3
  v3 := Tryz.zeroValue3
  t4 := Tryz.underlying4
  a4 := Tryz.isAgg4
  z4 := Tryz.sizeOf4
  v4 := Tryz.zeroValue4
  t5 := Tryz.underlying5
  a5 := Tryz.isAgg5
  z5 := Tryz.sizeOf5
  v5 := Tryz.zeroValue5
  t9 := Tryz.underlying9
  a9 := Tryz.isAgg9
  z9 := Tryz.sizeOf9
  v9 := Tryz.zeroValue9
  t28 := Tryz.underlying31
  a28 := Tryz.isAgg31
  z28 := Tryz.sizeOf31
  v28 := Tryz.zeroValue31
  t46 := Tryz.underlying190
  a46 := Tryz.isAgg190
  z46 := Tryz.sizeOf190
  v46 := Tryz.zeroValue190
  t51 := Tryz.underlying214
  a51 := Tryz.isAgg214
  z51 := Tryz.sizeOf214
  v51 := Tryz.zeroValue214
  t53 := Tryz.underlying216
  a53 := Tryz.isAgg216
  z53 := Tryz.sizeOf216
  v53 := Tryz.zeroValue216
  t131 := Tryz.underlying146
  a131 := Tryz.isAgg146
  z131 := Tryz.sizeOf146
  v131 := Tryz.zeroValue146
  t182 := Tryz.underlying207
  a182 := Tryz.isAgg207
  z182 := Tryz.sizeOf207
  v182 := Tryz.zeroValue207
  t183 := Tryz.underlying208
  a183 := Tryz.isAgg208
  z183 := Tryz.sizeOf208
  v183 := Tryz.zeroValue208
  t218 := Tryz.underlying224
  a218 := Tryz.isAgg224
  z218 := Tryz.sizeOf224
  v218 := Tryz.zeroValue224
  t222 := Tryz.underlying184
  a222 := Tryz.isAgg184
  z222 := Tryz.sizeOf184
  v222 := Tryz.zeroValue184
  t228 := Tryz.underlying232
  a228 := Tryz.isAgg232
  z228 := Tryz.sizeOf232
  v228 := Tryz.zeroValue232
  t229 := Tryz.underlying233
  a229 := Tryz.isAgg233
  z229 := Tryz.sizeOf233
  v229 := Tryz.zeroValue233 }
open Go.Sort Go.RowKit in
theorem Tryz.slices_Sort_int (blk off cap : Nat) (zs : List Int) (w : World) (hH : Holds (Value.int .i64) w blk off zs.toArray) (hblk : blk < w.heap.size) (hsz : zs.length < 4611686018427387904) :
    Calls Tryz.prog 81 #[.slice (some ⟨blk, off, none⟩) zs.length cap] w fun e w' =>
      e = .returned (.tuple #[]) ∧ ∃ n os, w' = grow (putRow (Value.int .i64) (Sort.ahead w n) blk off (zs.mergeSort fun x y => decide (x ≤ y)).toArray) os := Any.slices_Sort_int Tryz.lays189 blk off cap zs w hH hblk hsz
def Tryz.laysNm220_ren : Go.Shelf.Ren := ⟨fun | 20 => 82 | n => n, fun | 22 => 31 | 3 => 3 | 4 => 4 | 0 => 0 | n => n, fun | n => n⟩
theorem Tryz.laysNm220 : Go.Proofs.Lays2.n20 Tryz.prog Tryz.laysNm220_ren := {
  mixed := by kernel_rfl
  f20 := Tryz.func82.trans (congrArg some (by kernel_rfl))
  t0 := Tryz.underlying0
  a0 := Tryz.isAgg0
  z0 := Tryz.sizeOf0
  v0 := Tryz.zeroValue0
  t3 := Tryz.underlying3
  a3 := Tryz.isAgg3
  z3 := Tryz.sizeOf3
  v3 := Tryz.zeroValue3
  t4 := Tryz.underlying4
  a4 := Tryz.isAgg4
  z4 := Tryz.sizeOf4
  v4 := Tryz.zeroValue4
  t22 := Tryz.underlying31
  a22 := Tryz.isAgg31
  z22 := Tryz.sizeOf31
  v22 := Tryz.zeroValue31
  i3 := by kernel_rfl }
open Go.RowKit Go.Lib Go.Sort in
/-- slices.Compact at []int, of an argument: the slice cut to 'Lib.compact (elements)'; the n cells hold that, then zeros. (LAID: no walk: one application.) -/
theorem Tryz.slices_Compact_int_cells (b off n c : Nat) (zs : List Int) (w : World) (hz : n ≤ zs.length) (hbig : n ≤ 9223372036854775807) (hcap : n ≤ c) (hc : ∀ j, j < zs.length → w.cell? ⟨b, off + j, none⟩ = some (.int .i64 (zs.getD j 0))) (hf : ∀ j, j < n → w.frozen? ⟨b, off + j, none⟩ = false) :
    Calls Tryz.prog 82 #[.slice (some ⟨b, off, none⟩) n c] w fun e w' => e = .returned (.slice (some ⟨b, off, none⟩) (Lib.compact (zs.take n)).length c) ∧ ∃ q, w' = (w.drewN q).setCells b off ((Lib.compact (zs.take n) ++ List.replicate (n - (Lib.compact (zs.take n)).length) 0).map (Value.int .i64)) := Any.slices_Compact_int_cells Tryz.laysNm220 b off n c zs w hz hbig hcap hc hf
end Go.Proofs


set_option maxRecDepth 20000
namespace Go.AI
open Go.Proofs
def TryzI1 : TI := { size := 1, bytes := 8, k := .sc, zero := [.nilFunc] }
def TryzI2 : TI := { size := 1, bytes := 8, k := .int .i64, zero := [.int .i64 0] }
def TryzI3 : TI := { size := 1, bytes := 8, k := .int .i64, zero := [.int .i64 0] }
def TryzI4 : TI := { size := 1, bytes := 1, k := .bool, zero := [.bool false] }
def TryzI5 : TI := { size := 1, bytes := 1, k := .int .u8, zero := [.int .u8 0] }
def TryzI6 : TI := { size := 1, bytes := 1, k := .int .u8, zero := [.int .u8 0] }
def TryzI7 : TI := { size := 4, bytes := 24, k := .struct [(0, 1, false), (1, 1, false), (2, 1, false), (3, 1, false)], zero := [.int .i64 0, .int .i64 0, .bool false, .int .u8 0] }
def TryzI8 : TI := { size := 4, bytes := 24, k := .struct [(0, 1, false), (1, 1, false), (2, 1, false), (3, 1, false)], zero := [.int .i64 0, .int .i64 0, .bool false, .int .u8 0] }
def TryzI9 : TI := { size := 1, bytes := 16, k := .str, zero := [.string ⟨#[]⟩] }
def TryzI10 : TI := { size := 1, bytes := 16, k := .str, zero := [.string ⟨#[]⟩] }
def TryzI11 : TI := { size := 1, bytes := 16, k := .str, zero := [.string ⟨#[]⟩] }
def TryzI12 : TI := { size := 1, bytes := 8, k := .int .u64, zero := [.int .u64 0] }
def TryzI13 : TI := { size := 2, bytes := 24, k := .struct [(0, 1, false), (1, 1, false)], zero := [.string ⟨#[]⟩, .int .u64 0] }
def TryzI14 : TI := { size := 2, bytes := 24, k := .struct [(0, 1, false), (1, 1, false)], zero := [.string ⟨#[]⟩, .int .u64 0] }
def TryzI15 : TI := { size := 1, bytes := 8, k := .ptr 238, zero := [.pointer none] }
def TryzI16 : TI := { size := 1, bytes := 8, k := .ptr 241, zero := [.pointer none] }
def TryzI17 : TI := { size := 1, bytes := 8, k := .ptr 248, zero := [.pointer none] }
def TryzI18 : TI := { size := 1, bytes := 8, k := .struct [(0, 1, false)], zero := [.pointer none] }
def TryzI19 : TI := { size := 1, bytes := 8, k := .struct [(0, 1, false)], zero := [.pointer none] }
def TryzI20 : TI := { size := 1, bytes := 16, k := .sc, zero := [.nilIface] }
def TryzI21 : TI := { size := 1, bytes := 4, k := .int .i32, zero := [.int .i32 0] }
def TryzI22 : TI := { size := 1, bytes := 24, k := .slice 165, zero := [.slice none 0 0] }
def TryzI23 : TI := { size := 1, bytes := 24, k := .slice 114, zero := [.slice none 0 0] }
def TryzI24 : TI := { size := 4, bytes := 56, k := .struct [(0, 1, false), (1, 1, false), (2, 1, false), (3, 1, false)], zero := [.int .u8 0, .int .u8 0, .slice none 0 0, .slice none 0 0] }
def TryzI25 : TI := { size := 4, bytes := 56, k := .struct [(0, 1, false), (1, 1, false), (2, 1, false), (3, 1, false)], zero := [.int .u8 0, .int .u8 0, .slice none 0 0, .slice none 0 0] }
def TryzI26 : TI := { size := 8, bytes := 112, k := .struct [(0, 4, true), (4, 4, true)], zero := [.int .u8 0, .int .u8 0, .slice none 0 0, .slice none 0 0, .int .u8 0, .int .u8 0, .slice none 0 0, .slice none 0 0] }
def TryzI27 : TI := { size := 8, bytes := 112, k := .struct [(0, 4, true), (4, 4, true)], zero := [.int .u8 0, .int .u8 0, .slice none 0 0, .slice none 0 0, .int .u8 0, .int .u8 0, .slice none 0 0, .slice none 0 0] }
def TryzI28 : TI := { size := 1, bytes := 8, k := .sc, zero := [.nilFunc] }
def TryzI29 : TI := { size := 1, bytes := 24, k := .slice 48, zero := [.slice none 0 0] }
def TryzI30 : TI := { size := 1, bytes := 8, k := .sc, zero := [.nilFunc] }
def TryzI31 : TI := { size := 1, bytes := 24, k := .slice 3, zero := [.slice none 0 0] }
def TryzI32 : TI := { size := 1, bytes := 24, k := .slice 93, zero := [.slice none 0 0] }
def TryzI33 : TI := { size := 4, bytes := 80, k := .struct [(0, 1, false), (1, 1, false), (2, 1, false), (3, 1, false)], zero := [.slice none 0 0, .int .i64 0, .slice none 0 0, .slice none 0 0] }
def TryzI34 : TI := { size := 4, bytes := 80, k := .struct [(0, 1, false), (1, 1, false), (2, 1, false), (3, 1, false)], zero := [.slice none 0 0, .int .i64 0, .slice none 0 0, .slice none 0 0] }
def TryzI35 : TI := { size := 1, bytes := 24, k := .slice 43, zero := [.slice none 0 0] }
def TryzI36 : TI := { size := 1, bytes := 8, k := .int .i64, zero := [.int .i64 0] }
def TryzI38 : TI := { size := 1, bytes := 8, k := .sc, zero := [.nilFunc] }
def TryzI39 : TI := { size := 1, bytes := 8, k := .sc, zero := [.nilFunc] }
def TryzI40 : TI := { size := 1, bytes := 8, k := .sc, zero := [.nilFunc] }
def TryzI41 : TI := { size := 1, bytes := 8, k := .sc, zero := [.nilFunc] }
def TryzI42 : TI := { size := 2, bytes := 48, k := .struct [(0, 1, false), (1, 1, false)], zero := [.slice none 0 0, .slice none 0 0] }
def TryzI43 : TI := { size := 2, bytes := 48, k := .struct [(0, 1, false), (1, 1, false)], zero := [.slice none 0 0, .slice none 0 0] }
def TryzI44 : TI := { size := 1, bytes := 8, k := .sc, zero := [.nilFunc] }
def TryzI45 : TI := { size := 1, bytes := 24, k := .slice 96, zero := [.slice none 0 0] }
def TryzI46 : TI := { size := 1, bytes := 24, k := .slice 107, zero := [.slice none 0 0] }
def TryzI47 : TI := { size := 6, bytes := 112, k := .struct [(0, 1, false), (1, 1, false), (2, 1, false), (3, 1, false), (4, 1, false), (5, 1, false)], zero := [.slice none 0 0, .int .i64 0, .int .i64 0, .slice none 0 0, .slice none 0 0, .slice none 0 0] }
def TryzI48 : TI := { size := 6, bytes := 112, k := .struct [(0, 1, false), (1, 1, false), (2, 1, false), (3, 1, false), (4, 1, false), (5, 1, false)], zero := [.slice none 0 0, .int .i64 0, .int .i64 0, .slice none 0 0, .slice none 0 0, .slice none 0 0] }
def TryzI49 : TI := { size := 1, bytes := 8, k := .sc, zero := [.nilFunc] }
def TryzI50 : TI := { size := 1, bytes := 8, k := .sc, zero := [.nilFunc] }
def TryzI51 : TI := { size := 1, bytes := 24, k := .slice 60, zero := [.slice none 0 0] }
def TryzI53 : TI := { size := 1, bytes := 8, k := .sc, zero := [.nilFunc] }
def TryzI54 : TI := { size := 1, bytes := 8, k := .sc, zero := [.nilFunc] }
def TryzI55 : TI := { size := 1, bytes := 8, k := .sc, zero := [.nilFunc] }
def TryzI56 : TI := { size := 1, bytes := 8, k := .sc, zero := [.nilFunc] }
def TryzI57 : TI := { size := 1, bytes := 8, k := .sc, zero := [.nilFunc] }
def TryzI58 : TI := { size := 1, bytes := 8, k := .sc, zero := [.nilFunc] }
def TryzI59 : TI := { size := 2, bytes := 32, k := .struct [(0, 1, false), (1, 1, false)], zero := [.int .i64 0, .slice none 0 0] }
def TryzI60 : TI := { size := 2, bytes := 32, k := .struct [(0, 1, false), (1, 1, false)], zero := [.int .i64 0, .slice none 0 0] }
def TryzI61 : TI := { size := 1, bytes := 8, k := .sc, zero := [.nilFunc] }
def TryzI62 : TI := { size := 1, bytes := 8, k := .sc, zero := [.nilFunc] }
def TryzI63 : TI := { size := 1, bytes := 8, k := .sc, zero := [.nilFunc] }
def TryzI64 : TI := { size := 1, bytes := 8, k := .sc, zero := [.nilFunc] }
def TryzI66 : TI := { size := 1, bytes := 8, k := .sc, zero := [.nilFunc] }
def TryzI67 : TI := { size := 1, bytes := 8, k := .sc, zero := [.nilFunc] }
def TryzI68 : TI := { size := 1, bytes := 1, k := .int .u8, zero := [.int .u8 0] }
def TryzI69 : TI := { size := 3, bytes := 3, k := .arr 3 68, zero := [.int .u8 0, .int .u8 0, .int .u8 0] }
def TryzI70 : TI := { size := 5, bytes := 5, k := .arr 5 5, zero := [.int .u8 0, .int .u8 0, .int .u8 0, .int .u8 0, .int .u8 0] }
def TryzI71 : TI := { size := 25, bytes := 25, k := .arr 5 70, zero := [.int .u8 0, .int .u8 0, .int .u8 0, .int .u8 0, .int .u8 0, .int .u8 0, .int .u8 0, .int .u8 0, .int .u8 0, .int .u8 0, .int .u8 0, .int .u8 0, .int .u8 0, .int .u8 0, .int .u8 0, .int .u8 0, .int .u8 0, .int .u8 0, .int .u8 0, .int .u8 0, .int .u8 0, .int .u8 0, .int .u8 0, .int .u8 0, .int .u8 0] }
def TryzI72 : TI := { size := 27, bytes := 27, k := .struct [(0, 1, false), (1, 1, false), (2, 25, true)], zero := [.int .u8 0, .int .u8 0, .int .u8 0, .int .u8 0, .int .u8 0, .int .u8 0, .int .u8 0, .int .u8 0, .int .u8 0, .int .u8 0, .int .u8 0, .int .u8 0, .int .u8 0, .int .u8 0, .int .u8 0, .int .u8 0, .int .u8 0, .int .u8 0, .int .u8 0, .int .u8 0, .int .u8 0, .int .u8 0, .int .u8 0, .int .u8 0, .int .u8 0, .int .u8 0, .int .u8 0] }
def TryzI73 : TI := { size := 27, bytes := 27, k := .struct [(0, 1, false), (1, 1, false), (2, 25, true)], zero := [.int .u8 0, .int .u8 0, .int .u8 0, .int .u8 0, .int .u8 0, .int .u8 0, .int .u8 0, .int .u8 0, .int .u8 0, .int .u8 0, .int .u8 0, .int .u8 0, .int .u8 0, .int .u8 0, .int .u8 0, .int .u8 0, .int .u8 0, .int .u8 0, .int .u8 0, .int .u8 0, .int .u8 0, .int .u8 0, .int .u8 0, .int .u8 0, .int .u8 0, .int .u8 0, .int .u8 0] }
def TryzI75 : TI := { size := 1, bytes := 24, k := .slice 34, zero := [.slice none 0 0] }
def TryzI76 : TI := { size := 1, bytes := 8, k := .sc, zero := [.nilFunc] }
def TryzI77 : TI := { size := 1, bytes := 8, k := .sc, zero := [.nilFunc] }
def TryzI79 : TI := { size := 1, bytes := 8, k := .sc, zero := [.nilFunc] }
def TryzI80 : TI := { size := 1, bytes := 24, k := .slice 31, zero := [.slice none 0 0] }
def TryzI82 : TI := { size := 1, bytes := 8, k := .sc, zero := [.nilFunc] }
def TryzI83 : TI := { size := 1, bytes := 8, k := .sc, zero := [.nilFunc] }
def TryzI84 : TI := { size := 1, bytes := 8, k := .sc, zero := [.nilFunc] }
def TryzI85 : TI := { size := 1, bytes := 24, k := .slice 87, zero := [.slice none 0 0] }
def TryzI86 : TI := { size := 4, bytes := 48, k := .struct [(0, 1, false), (1, 1, false), (2, 1, false), (3, 1, false)], zero := [.int .i64 0, .int .i64 0, .int .i64 0, .slice none 0 0] }
def TryzI87 : TI := { size := 4, bytes := 48, k := .struct [(0, 1, false), (1, 1, false), (2, 1, false), (3, 1, false)], zero := [.int .i64 0, .int .i64 0, .int .i64 0, .slice none 0 0] }
def TryzI88 : TI := { size := 1, bytes := 8, k := .sc, zero := [.nilFunc] }
def TryzI89 : TI := { size := 1, bytes := 8, k := .sc, zero := [.nilFunc] }
def TryzI91 : TI := { size := 1, bytes := 8, k := .sc, zero := [.nilFunc] }
def TryzI92 : TI := { size := 3, bytes := 24, k := .struct [(0, 1, false), (1, 1, false), (2, 1, false)], zero := [.int .i64 0, .int .i64 0, .int .i64 0] }
def TryzI93 : TI := { size := 3, bytes := 24, k := .struct [(0, 1, false), (1, 1, false), (2, 1, false)], zero := [.int .i64 0, .int .i64 0, .int .i64 0], cmp := [.int .i64, .int .i64, .int .i64] }
def TryzI94 : TI := { size := 1, bytes := 8, k := .sc, zero := [.nilFunc] }
def TryzI95 : TI := { size := 4, bytes := 40, k := .struct [(0, 1, false), (1, 1, false), (2, 1, false), (3, 1, false)], zero := [.string ⟨#[]⟩, .int .i64 0, .int .i64 0, .int .i64 0] }
def TryzI96 : TI := { size := 4, bytes := 40, k := .struct [(0, 1, false), (1, 1, false), (2, 1, false), (3, 1, false)], zero := [.string ⟨#[]⟩, .int .i64 0, .int .i64 0, .int .i64 0], cmp := [.str, .int .i64, .int .i64, .int .i64] }
def TryzI97 : TI := { size := 1, bytes := 8, k := .sc, zero := [.nilFunc] }
def TryzI98 : TI := { size := 1, bytes := 8, k := .sc, zero := [.nilFunc] }
def TryzI99 : TI := { size := 1, bytes := 8, k := .sc, zero := [.nilFunc] }
def TryzI100 : TI := { size := 1, bytes := 8, k := .sc, zero := [.nilFunc] }
def TryzI101 : TI := { size := 1, bytes := 8, k := .sc, zero := [.nilFunc] }
def TryzI102 : TI := { size := 1, bytes := 8, k := .sc, zero := [.nilFunc] }
def TryzI103 : TI := { size := 1, bytes := 8, k := .sc, zero := [.nilFunc] }
def TryzI104 : TI := { size := 1, bytes := 8, k := .sc, zero := [.nilFunc] }
def TryzI105 : TI := { size := 1, bytes := 24, k := .slice 109, zero := [.slice none 0 0] }
def TryzI106 : TI := { size := 8, bytes := 96, k := .struct [(0, 1, false), (1, 1, false), (2, 1, false), (3, 4, true), (7, 1, false)], zero := [.int .i64 0, .int .i64 0, .int .i64 0, .int .i64 0, .int .i64 0, .int .i64 0, .slice none 0 0, .slice none 0 0] }
def TryzI107 : TI := { size := 8, bytes := 96, k := .struct [(0, 1, false), (1, 1, false), (2, 1, false), (3, 4, true), (7, 1, false)], zero := [.int .i64 0, .int .i64 0, .int .i64 0, .int .i64 0, .int .i64 0, .int .i64 0, .slice none 0 0, .slice none 0 0] }
def TryzI108 : TI := { size := 5, bytes := 56, k := .struct [(0, 1, false), (1, 4, true)], zero := [.int .i64 0, .int .i64 0, .int .i64 0, .int .i64 0, .slice none 0 0] }
def TryzI109 : TI := { size := 5, bytes := 56, k := .struct [(0, 1, false), (1, 4, true)], zero := [.int .i64 0, .int .i64 0, .int .i64 0, .int .i64 0, .slice none 0 0] }
def TryzI110 : TI := { size := 1, bytes := 8, k := .sc, zero := [.nilFunc] }
def TryzI111 : TI := { size := 3, bytes := 3, k := .arr 3 5, zero := [.int .u8 0, .int .u8 0, .int .u8 0] }
def TryzI112 : TI := { size := 1, bytes := 24, k := .slice 5, zero := [.slice none 0 0] }
def TryzI113 : TI := { size := 5, bytes := 56, k := .struct [(0, 3, true), (3, 1, false), (4, 1, false)], zero := [.int .u8 0, .int .u8 0, .int .u8 0, .slice none 0 0, .slice none 0 0] }
def TryzI114 : TI := { size := 5, bytes := 56, k := .struct [(0, 3, true), (3, 1, false), (4, 1, false)], zero := [.int .u8 0, .int .u8 0, .int .u8 0, .slice none 0 0, .slice none 0 0] }
def TryzI115 : TI := { size := 1, bytes := 8, k := .sc, zero := [.nilFunc] }
def TryzI117 : TI := { size := 1, bytes := 8, k := .sc, zero := [.nilFunc] }
def TryzI118 : TI := { size := 1, bytes := 8, k := .sc, zero := [.nilFunc] }
def TryzI120 : TI := { size := 1, bytes := 8, k := .sc, zero := [.nilFunc] }
def TryzI121 : TI := { size := 1, bytes := 8, k := .sc, zero := [.nilFunc] }
def TryzI122 : TI := { size := 1, bytes := 8, k := .sc, zero := [.nilFunc] }
def TryzI123 : TI := { size := 1, bytes := 8, k := .sc, zero := [.nilFunc] }
def TryzI124 : TI := { size := 1, bytes := 8, k := .sc, zero := [.nilFunc] }
def TryzI125 : TI := { size := 1, bytes := 8, k := .sc, zero := [.nilFunc] }
def TryzI126 : TI := { size := 1, bytes := 8, k := .sc, zero := [.nilFunc] }
def TryzI127 : TI := { size := 1, bytes := 8, k := .sc, zero := [.nilFunc] }
def TryzI129 : TI := { size := 1, bytes := 8, k := .sc, zero := [.nilFunc] }
def TryzI130 : TI := { size := 1, bytes := 24, k := .slice 4, zero := [.slice none 0 0] }
def TryzI131 : TI := { size := 1, bytes := 8, k := .sc, zero := [.nilFunc] }
def TryzI132 : TI := { size := 1, bytes := 8, k := .sc, zero := [.nilFunc] }
def TryzI133 : TI := { size := 1, bytes := 8, k := .sc, zero := [.nilFunc] }
def TryzI134 : TI := { size := 1, bytes := 8, k := .sc, zero := [.nilFunc] }
def TryzI135 : TI := { size := 1, bytes := 8, k := .sc, zero := [.nilFunc] }
def TryzI136 : TI := { size := 1, bytes := 24, k := .slice 181, zero := [.slice none 0 0] }
def TryzI137 : TI := { size := 3, bytes := 72, k := .struct [(0, 1, false), (1, 1, false), (2, 1, false)], zero := [.slice none 0 0, .slice none 0 0, .slice none 0 0] }
def TryzI138 : TI := { size := 3, bytes := 72, k := .struct [(0, 1, false), (1, 1, false), (2, 1, false)], zero := [.slice none 0 0, .slice none 0 0, .slice none 0 0] }
def TryzI139 : TI := { size := 1, bytes := 8, k := .sc, zero := [.nilFunc] }
def TryzI141 : TI := { size := 1, bytes := 8, k := .sc, zero := [.nilFunc] }
def TryzI142 : TI := { size := 1, bytes := 8, k := .sc, zero := [.nilFunc] }
def TryzI143 : TI := { size := 1, bytes := 8, k := .map 9 3, zero := [.map none] }
def TryzI144 : TI := { size := 1, bytes := 8, k := .sc, zero := [.nilFunc] }
def TryzI145 : TI := { size := 1, bytes := 8, k := .sc, zero := [.nilFunc] }
def TryzI147 : TI := { size := 1, bytes := 8, k := .sc, zero := [.nilFunc] }
def TryzI148 : TI := { size := 1, bytes := 8, k := .sc, zero := [.nilFunc] }
def TryzI149 : TI := { size := 1, bytes := 8, k := .ptr 151, zero := [.pointer none] }
def TryzI150 : TI := { size := 2, bytes := 32, k := .struct [(0, 1, false), (1, 1, false)], zero := [.pointer none, .slice none 0 0] }
def TryzI151 : TI := { size := 2, bytes := 32, k := .struct [(0, 1, false), (1, 1, false)], zero := [.pointer none, .slice none 0 0] }
def TryzI152 : TI := { size := 1, bytes := 16, k := .sc, zero := [.nilIface] }
def TryzI153 : TI := { size := 1, bytes := 16, k := .sc, zero := [.nilIface] }
def TryzI155 : TI := { size := 1, bytes := 8, k := .sc, zero := [.nilFunc] }
def TryzI156 : TI := { size := 1, bytes := 8, k := .sc, zero := [.nilFunc] }
def TryzI157 : TI := { size := 1, bytes := 8, k := .sc, zero := [.nilFunc] }
def TryzI158 : TI := { size := 1, bytes := 8, k := .sc, zero := [.nilFunc] }
def TryzI160 : TI := { size := 1, bytes := 8, k := .sc, zero := [.nilFunc] }
def TryzI161 : TI := { size := 1, bytes := 8, k := .sc, zero := [.nilFunc] }
def TryzI162 : TI := { size := 1, bytes := 8, k := .sc, zero := [.nilFunc] }
def TryzI163 : TI := { size := 1, bytes := 8, k := .sc, zero := [.nilFunc] }
def TryzI164 : TI := { size := 1, bytes := 1, k := .int .i8, zero := [.int .i8 0] }
def TryzI165 : TI := { size := 2, bytes := 2, k := .arr 2 164, zero := [.int .i8 0, .int .i8 0] }
def TryzI166 : TI := { size := 1, bytes := 8, k := .ptr 168, zero := [.pointer none] }
def TryzI167 : TI := { size := 3, bytes := 40, k := .struct [(0, 1, false), (1, 1, false), (2, 1, false)], zero := [.slice none 0 0, .int .i64 0, .int .i64 0] }
def TryzI168 : TI := { size := 3, bytes := 40, k := .struct [(0, 1, false), (1, 1, false), (2, 1, false)], zero := [.slice none 0 0, .int .i64 0, .int .i64 0] }
def TryzI169 : TI := { size := 1, bytes := 8, k := .sc, zero := [.nilFunc] }
def TryzI170 : TI := { size := 1, bytes := 8, k := .sc, zero := [.nilFunc] }
def TryzI171 : TI := { size := 1, bytes := 8, k := .sc, zero := [.nilFunc] }
def TryzI172 : TI := { size := 1, bytes := 8, k := .sc, zero := [.nilFunc] }
def TryzI173 : TI := { size := 1, bytes := 8, k := .sc, zero := [.nilFunc] }
def TryzI174 : TI := { size := 1, bytes := 8, k := .sc, zero := [.nilFunc] }
def TryzI175 : TI := { size := 1, bytes := 8, k := .sc, zero := [.nilFunc] }
def TryzI176 : TI := { size := 1, bytes := 8, k := .sc, zero := [.nilFunc] }
def TryzI177 : TI := { size := 1, bytes := 8, k := .sc, zero := [.nilFunc] }
def TryzI178 : TI := { size := 1, bytes := 8, k := .sc, zero := [.nilFunc] }
def TryzI179 : TI := { size := 1, bytes := 8, k := .sc, zero := [.nilFunc] }
def TryzI180 : TI := { size := 1, bytes := 8, k := .sc, zero := [.nilFunc] }
def TryzI181 : TI := { size := 1, bytes := 8, k := .map 182 3, zero := [.map none] }
def TryzI182 : TI := { size := 2, bytes := 16, k := .arr 2 3, zero := [.int .i64 0, .int .i64 0] }
def TryzI183 : TI := { size := 1, bytes := 8, k := .sc, zero := [.nilFunc] }
def TryzI184 : TI := { size := 1, bytes := 8, k := .ptr 3, zero := [.pointer none] }
def TryzI185 : TI := { size := 1, bytes := 8, k := .sc, zero := [.nilFunc] }
def TryzI186 : TI := { size := 1, bytes := 8, k := .ptr 5, zero := [.pointer none] }
def TryzI187 : TI := { size := 1, bytes := 8, k := .map 3 4, zero := [.map none] }
def TryzI188 : TI := { size := 1, bytes := 8, k := .sc, zero := [.nilFunc] }
def TryzI189 : TI := { size := 1, bytes := 8, k := .sc, zero := [.nilFunc] }
def TryzI190 : TI := { size := 1, bytes := 8, k := .int .u64, zero := [.int .u64 0] }
def TryzI191 : TI := { size := 1, bytes := 8, k := .sc, zero := [.nilFunc] }
def TryzI192 : TI := { size := 1, bytes := 8, k := .sc, zero := [.nilFunc] }
def TryzI193 : TI := { size := 1, bytes := 8, k := .sc, zero := [.nilFunc] }
def TryzI194 : TI := { size := 1, bytes := 8, k := .sc, zero := [.nilFunc] }
def TryzI195 : TI := { size := 1, bytes := 8, k := .ptr 107, zero := [.pointer none] }
def TryzI197 : TI := { size := 1, bytes := 8, k := .sc, zero := [.nilFunc] }
def TryzI198 : TI := { size := 1, bytes := 8, k := .sc, zero := [.nilFunc] }
def TryzI199 : TI := { size := 1, bytes := 8, k := .sc, zero := [.nilFunc] }
def TryzI200 : TI := { size := 1, bytes := 8, k := .sc, zero := [.nilFunc] }
def TryzI201 : TI := { size := 1, bytes := 8, k := .sc, zero := [.nilFunc] }
def TryzI202 : TI := { size := 1, bytes := 8, k := .sc, zero := [.nilFunc] }
def TryzI204 : TI := { size := 1, bytes := 8, k := .sc, zero := [.nilFunc] }
def TryzI205 : TI := { size := 1, bytes := 8, k := .sc, zero := [.nilFunc] }
def TryzI206 : TI := { size := 1, bytes := 8, k := .sc, zero := [.nilFunc] }
def TryzI207 : TI := { size := 1, bytes := 8, k := .int .i64, zero := [.int .i64 0] }
def TryzI209 : TI := { size := 1, bytes := 8, k := .sc, zero := [.nilFunc] }
def TryzI210 : TI := { size := 1, bytes := 8, k := .sc, zero := [.nilFunc] }
def TryzI211 : TI := { size := 1, bytes := 8, k := .sc, zero := [.nilFunc] }
def TryzI212 : TI := { size := 1, bytes := 8, k := .sc, zero := [.nilFunc] }
def TryzI213 : TI := { size := 1, bytes := 8, k := .sc, zero := [.nilFunc] }
def TryzI214 : TI := { size := 1, bytes := 4, k := .int .u32, zero := [.int .u32 0] }
def TryzI215 : TI := { size := 1, bytes := 8, k := .sc, zero := [.nilFunc] }
def TryzI216 : TI := { size := 1, bytes := 8, k := .int .u64, zero := [.int .u64 0] }
def TryzI217 : TI := { size := 1, bytes := 8, k := .sc, zero := [.nilFunc] }
def TryzI218 : TI := { size := 1, bytes := 8, k := .sc, zero := [.nilFunc] }
def TryzI219 : TI := { size := 1, bytes := 8, k := .sc, zero := [.nilFunc] }
def TryzI220 : TI := { size := 24, bytes := 24, k := .arr 24 5, zero := [.int .u8 0, .int .u8 0, .int .u8 0, .int .u8 0, .int .u8 0, .int .u8 0, .int .u8 0, .int .u8 0, .int .u8 0, .int .u8 0, .int .u8 0, .int .u8 0, .int .u8 0, .int .u8 0, .int .u8 0, .int .u8 0, .int .u8 0, .int .u8 0, .int .u8 0, .int .u8 0, .int .u8 0, .int .u8 0, .int .u8 0, .int .u8 0] }
def TryzI221 : TI := { size := 1, bytes := 8, k := .sc, zero := [.nilFunc] }
def TryzI223 : TI := { size := 1, bytes := 8, k := .sc, zero := [.nilFunc] }
def TryzI224 : TI := { size := 1, bytes := 8, k := .int .u64, zero := [.int .u64 0] }
def TryzI225 : TI := { size := 1, bytes := 8, k := .sc, zero := [.nilFunc] }
def TryzI226 : TI := { size := 1, bytes := 8, k := .sc, zero := [.nilFunc] }
def TryzI227 : TI := { size := 1, bytes := 8, k := .sc, zero := [.nilFunc] }
def TryzI228 : TI := { size := 1, bytes := 8, k := .sc, zero := [.nilFunc] }
def TryzI229 : TI := { size := 1, bytes := 8, k := .sc, zero := [.nilFunc] }
def TryzI230 : TI := { size := 20, bytes := 160, k := .arr 20 216, zero := [.int .u64 0, .int .u64 0, .int .u64 0, .int .u64 0, .int .u64 0, .int .u64 0, .int .u64 0, .int .u64 0, .int .u64 0, .int .u64 0, .int .u64 0, .int .u64 0, .int .u64 0, .int .u64 0, .int .u64 0, .int .u64 0, .int .u64 0, .int .u64 0, .int .u64 0, .int .u64 0] }
def TryzI232 : TI := { size := 1, bytes := 8, k := .ptr 224, zero := [.pointer none] }
def TryzI234 : TI := { size := 1, bytes := 8, k := .sc, zero := [.nilFunc] }
def TryzI235 : TI := { size := 32, bytes := 32, k := .arr 32 5, zero := [.int .u8 0, .int .u8 0, .int .u8 0, .int .u8 0, .int .u8 0, .int .u8 0, .int .u8 0, .int .u8 0, .int .u8 0, .int .u8 0, .int .u8 0, .int .u8 0, .int .u8 0, .int .u8 0, .int .u8 0, .int .u8 0, .int .u8 0, .int .u8 0, .int .u8 0, .int .u8 0, .int .u8 0, .int .u8 0, .int .u8 0, .int .u8 0, .int .u8 0, .int .u8 0, .int .u8 0, .int .u8 0, .int .u8 0, .int .u8 0, .int .u8 0, .int .u8 0] }
def TryzI236 : TI := { size := 64, bytes := 64, k := .arr 64 5, zero := [.int .u8 0, .int .u8 0, .int .u8 0, .int .u8 0, .int .u8 0, .int .u8 0, .int .u8 0, .int .u8 0, .int .u8 0, .int .u8 0, .int .u8 0, .int .u8 0, .int .u8 0, .int .u8 0, .int .u8 0, .int .u8 0, .int .u8 0, .int .u8 0, .int .u8 0, .int .u8 0, .int .u8 0, .int .u8 0, .int .u8 0, .int .u8 0, .int .u8 0, .int .u8 0, .int .u8 0, .int .u8 0, .int .u8 0, .int .u8 0, .int .u8 0, .int .u8 0, .int .u8 0, .int .u8 0, .int .u8 0, .int .u8 0, .int .u8 0, .int .u8 0, .int .u8 0, .int .u8 0, .int .u8 0, .int .u8 0, .int .u8 0, .int .u8 0, .int .u8 0, .int .u8 0, .int .u8 0, .int .u8 0, .int .u8 0, .int .u8 0, .int .u8 0, .int .u8 0, .int .u8 0, .int .u8 0, .int .u8 0, .int .u8 0, .int .u8 0, .int .u8 0, .int .u8 0, .int .u8 0, .int .u8 0, .int .u8 0, .int .u8 0, .int .u8 0] }
def TryzI237 : TI := { size := 4, bytes := 40, k := .struct [(0, 1, false), (1, 1, false), (2, 1, false), (3, 1, false)], zero := [.pointer none, .pointer none, .pointer none, .string ⟨#[]⟩] }
def TryzI238 : TI := { size := 4, bytes := 40, k := .struct [(0, 1, false), (1, 1, false), (2, 1, false), (3, 1, false)], zero := [.pointer none, .pointer none, .pointer none, .string ⟨#[]⟩] }
def TryzI242 : TI := { size := 1, bytes := 1, k := .int .u8, zero := [.int .u8 0] }
def TryzI243 : TI := { size := 1, bytes := 1, k := .int .u8, zero := [.int .u8 0] }
def TryzI244 : TI := { size := 1, bytes := 8, k := .sc, zero := [.nilFunc] }
def TryzI245 : TI := { size := 1, bytes := 4, k := .int .i32, zero := [.int .i32 0] }
def TryzI246 : TI := { size := 1, bytes := 4, k := .int .i32, zero := [.int .i32 0] }
def TryzI247 : TI := { size := 11, bytes := 48, k := .struct [(0, 1, false), (1, 1, false), (2, 1, false), (3, 1, false), (4, 1, false), (5, 1, false), (6, 1, false), (7, 1, false), (8, 1, false), (9, 1, false), (10, 1, false)], zero := [.int .u64 0, .int .u64 0, .int .u32 0, .int .u8 0, .int .u8 0, .int .u8 0, .int .u8 0, .nilFunc, .pointer none, .int .i32 0, .int .i32 0] }
def TryzI248 : TI := { size := 11, bytes := 48, k := .struct [(0, 1, false), (1, 1, false), (2, 1, false), (3, 1, false), (4, 1, false), (5, 1, false), (6, 1, false), (7, 1, false), (8, 1, false), (9, 1, false), (10, 1, false)], zero := [.int .u64 0, .int .u64 0, .int .u32 0, .int .u8 0, .int .u8 0, .int .u8 0, .int .u8 0, .nilFunc, .pointer none, .int .i32 0, .int .i32 0] }
theorem TryzI1_ok : TIok Tryz.prog 1 TryzI1 := tiok Tryz.type1 rfl rfl rfl rfl (by intro h; first | rfl | cases h) ⟨_, Tryz.underlying1, (by intro x h; cases h), (by intro x y h; cases h)⟩ (by decide) rfl (by decide) (.inl rfl)
theorem TryzI2_ok : TIok Tryz.prog 2 TryzI2 := tiok Tryz.type2 rfl rfl rfl rfl (by intro h; first | rfl | cases h) Tryz.underlying2 (by decide) rfl (by decide) (.inl rfl)
theorem TryzI3_ok : TIok Tryz.prog 3 TryzI3 := tiok Tryz.type3 rfl rfl rfl rfl (by intro h; first | rfl | cases h) Tryz.underlying3 (by decide) rfl (by decide) (.inl rfl)
theorem TryzI4_ok : TIok Tryz.prog 4 TryzI4 := tiok Tryz.type4 rfl rfl rfl rfl (by intro h; first | rfl | cases h) Tryz.underlying4 (by decide) rfl (by decide) (.inl rfl)
theorem TryzI5_ok : TIok Tryz.prog 5 TryzI5 := tiok Tryz.type5 rfl rfl rfl rfl (by intro h; first | rfl | cases h) Tryz.underlying5 (by decide) rfl (by decide) (.inl rfl)
theorem TryzI6_ok : TIok Tryz.prog 6 TryzI6 := tiok Tryz.type6 rfl rfl rfl rfl (by intro h; first | rfl | cases h) Tryz.underlying6 (by decide) rfl (by decide) (.inl rfl)
theorem TryzI7_ok : TIok Tryz.prog 7 TryzI7 := tiok Tryz.type7 rfl rfl rfl rfl (by intro h; first | rfl | cases h) (kind_struct Tryz.underlying7 (.cons ⟨rfl, ⟨_, Tryz.type2, rfl⟩, by decide, Tryz.isAgg2⟩ (.cons ⟨rfl, ⟨_, Tryz.type3, rfl⟩, by decide, Tryz.isAgg3⟩ (.cons ⟨rfl, ⟨_, Tryz.type4, rfl⟩, by decide, Tryz.isAgg4⟩ (.cons ⟨rfl, ⟨_, Tryz.type6, rfl⟩, by decide, Tryz.isAgg6⟩ .nil))))) (by decide) rfl (by decide) (.inl rfl)
theorem TryzI8_ok : TIok Tryz.prog 8 TryzI8 := tiok Tryz.type8 rfl rfl rfl rfl (by intro h; first | rfl | cases h) (kind_struct Tryz.underlying8 (.cons ⟨rfl, ⟨_, Tryz.type2, rfl⟩, by decide, Tryz.isAgg2⟩ (.cons ⟨rfl, ⟨_, Tryz.type3, rfl⟩, by decide, Tryz.isAgg3⟩ (.cons ⟨rfl, ⟨_, Tryz.type4, rfl⟩, by decide, Tryz.isAgg4⟩ (.cons ⟨rfl, ⟨_, Tryz.type6, rfl⟩, by decide, Tryz.isAgg6⟩ .nil))))) (by decide) rfl (by decide) (.inl rfl)
theorem TryzI9_ok : TIok Tryz.prog 9 TryzI9 := tiok Tryz.type9 rfl rfl rfl rfl (by intro h; first | rfl | cases h) Tryz.underlying9 (by decide) rfl (by decide) (.inl rfl)
theorem TryzI10_ok : TIok Tryz.prog 10 TryzI10 := tiok Tryz.type10 rfl rfl rfl rfl (by intro h; first | rfl | cases h) Tryz.underlying10 (by decide) rfl (by decide) (.inl rfl)
theorem TryzI11_ok : TIok Tryz.prog 11 TryzI11 := tiok Tryz.type11 rfl rfl rfl rfl (by intro h; first | rfl | cases h) Tryz.underlying11 (by decide) rfl (by decide) (.inl rfl)
theorem TryzI12_ok : TIok Tryz.prog 12 TryzI12 := tiok Tryz.type12 rfl rfl rfl rfl (by intro h; first | rfl | cases h) Tryz.underlying12 (by decide) rfl (by decide) (.inl rfl)
theorem TryzI13_ok : TIok Tryz.prog 13 TryzI13 := tiok Tryz.type13 rfl rfl rfl rfl (by intro h; first | rfl | cases h) (kind_struct Tryz.underlying13 (.cons ⟨rfl, ⟨_, Tryz.type9, rfl⟩, by decide, Tryz.isAgg9⟩ (.cons ⟨rfl, ⟨_, Tryz.type12, rfl⟩, by decide, Tryz.isAgg12⟩ .nil))) (by decide) rfl (by decide) (.inl rfl)
theorem TryzI14_ok : TIok Tryz.prog 14 TryzI14 := tiok Tryz.type14 rfl rfl rfl rfl (by intro h; first | rfl | cases h) (kind_struct Tryz.underlying14 (.cons ⟨rfl, ⟨_, Tryz.type9, rfl⟩, by decide, Tryz.isAgg9⟩ (.cons ⟨rfl, ⟨_, Tryz.type12, rfl⟩, by decide, Tryz.isAgg12⟩ .nil))) (by decide) rfl (by decide) (.inl rfl)
theorem TryzI15_ok : TIok Tryz.prog 15 TryzI15 := tiok Tryz.type15 rfl rfl rfl rfl (by intro h; first | rfl | cases h) Tryz.underlying15 (by decide) rfl (by decide) (.inl rfl)
theorem TryzI16_ok : TIok Tryz.prog 16 TryzI16 := tiok Tryz.type16 rfl rfl rfl rfl (by intro h; first | rfl | cases h) Tryz.underlying16 (by decide) rfl (by decide) (.inl rfl)
theorem TryzI17_ok : TIok Tryz.prog 17 TryzI17 := tiok Tryz.type17 rfl rfl rfl rfl (by intro h; first | rfl | cases h) Tryz.underlying17 (by decide) rfl (by decide) (.inl rfl)
theorem TryzI18_ok : TIok Tryz.prog 18 TryzI18 := tiok Tryz.type18 rfl rfl rfl rfl (by intro h; first | rfl | cases h) (kind_struct Tryz.underlying18 (.cons ⟨rfl, ⟨_, Tryz.type17, rfl⟩, by decide, Tryz.isAgg17⟩ .nil)) (by decide) rfl (by decide) (.inl rfl)
theorem TryzI19_ok : TIok Tryz.prog 19 TryzI19 := tiok Tryz.type19 rfl rfl rfl rfl (by intro h; first | rfl | cases h) (kind_struct Tryz.underlying19 (.cons ⟨rfl, ⟨_, Tryz.type17, rfl⟩, by decide, Tryz.isAgg17⟩ .nil)) (by decide) rfl (by decide) (.inl rfl)
theorem TryzI20_ok : TIok Tryz.prog 20 TryzI20 := tiok Tryz.type20 rfl rfl rfl rfl (by intro h; first | rfl | cases h) ⟨_, Tryz.underlying20, (by intro x h; cases h), (by intro x y h; cases h)⟩ (by decide) rfl (by decide) (.inl rfl)
theorem TryzI21_ok : TIok Tryz.prog 21 TryzI21 := tiok Tryz.type21 rfl rfl rfl rfl (by intro h; first | rfl | cases h) Tryz.underlying21 (by decide) rfl (by decide) (.inl rfl)
theorem TryzI22_ok : TIok Tryz.prog 22 TryzI22 := tiok Tryz.type22 rfl rfl rfl rfl (by intro h; first | rfl | cases h) Tryz.underlying22 (by decide) rfl (by decide) (.inl rfl)
theorem TryzI23_ok : TIok Tryz.prog 23 TryzI23 := tiok Tryz.type23 rfl rfl rfl rfl (by intro h; first | rfl | cases h) Tryz.underlying23 (by decide) rfl (by decide) (.inl rfl)
theorem TryzI24_ok : TIok Tryz.prog 24 TryzI24 := tiok Tryz.type24 rfl rfl rfl rfl (by intro h; first | rfl | cases h) (kind_struct Tryz.underlying24 (.cons ⟨rfl, ⟨_, Tryz.type5, rfl⟩, by decide, Tryz.isAgg5⟩ (.cons ⟨rfl, ⟨_, Tryz.type5, rfl⟩, by decide, Tryz.isAgg5⟩ (.cons ⟨rfl, ⟨_, Tryz.type22, rfl⟩, by decide, Tryz.isAgg22⟩ (.cons ⟨rfl, ⟨_, Tryz.type23, rfl⟩, by decide, Tryz.isAgg23⟩ .nil))))) (by decide) rfl (by decide) (.inl rfl)
theorem TryzI25_ok : TIok Tryz.prog 25 TryzI25 := tiok Tryz.type25 rfl rfl rfl rfl (by intro h; first | rfl | cases h) (kind_struct Tryz.underlying25 (.cons ⟨rfl, ⟨_, Tryz.type5, rfl⟩, by decide, Tryz.isAgg5⟩ (.cons ⟨rfl, ⟨_, Tryz.type5, rfl⟩, by decide, Tryz.isAgg5⟩ (.cons ⟨rfl, ⟨_, Tryz.type22, rfl⟩, by decide, Tryz.isAgg22⟩ (.cons ⟨rfl, ⟨_, Tryz.type23, rfl⟩, by decide, Tryz.isAgg23⟩ .nil))))) (by decide) rfl (by decide) (.inl rfl)
theorem TryzI26_ok : TIok Tryz.prog 26 TryzI26 := tiok Tryz.type26 rfl rfl rfl rfl (by intro h; first | rfl | cases h) (kind_struct Tryz.underlying26 (.cons ⟨rfl, ⟨_, Tryz.type25, rfl⟩, by decide, Tryz.isAgg25⟩ (.cons ⟨rfl, ⟨_, Tryz.type25, rfl⟩, by decide, Tryz.isAgg25⟩ .nil))) (by decide) rfl (by decide) (.inl rfl)
theorem TryzI27_ok : TIok Tryz.prog 27 TryzI27 := tiok Tryz.type27 rfl rfl rfl rfl (by intro h; first | rfl | cases h) (kind_struct Tryz.underlying27 (.cons ⟨rfl, ⟨_, Tryz.type25, rfl⟩, by decide, Tryz.isAgg25⟩ (.cons ⟨rfl, ⟨_, Tryz.type25, rfl⟩, by decide, Tryz.isAgg25⟩ .nil))) (by decide) rfl (by decide) (.inl rfl)
theorem TryzI28_ok : TIok Tryz.prog 28 TryzI28 := tiok Tryz.type28 rfl rfl rfl rfl (by intro h; first | rfl | cases h) ⟨_, Tryz.underlying28, (by intro x h; cases h), (by intro x y h; cases h)⟩ (by decide) rfl (by decide) (.inl rfl)
theorem TryzI29_ok : TIok Tryz.prog 29 TryzI29 := tiok Tryz.type29 rfl rfl rfl rfl (by intro h; first | rfl | cases h) Tryz.underlying29 (by decide) rfl (by decide) (.inl rfl)
theorem TryzI30_ok : TIok Tryz.prog 30 TryzI30 := tiok Tryz.type30 rfl rfl rfl rfl (by intro h; first | rfl | cases h) ⟨_, Tryz.underlying30, (by intro x h; cases h), (by intro x y h; cases h)⟩ (by decide) rfl (by decide) (.inl rfl)
theorem TryzI31_ok : TIok Tryz.prog 31 TryzI31 := tiok Tryz.type31 rfl rfl rfl rfl (by intro h; first | rfl | cases h) Tryz.underlying31 (by decide) rfl (by decide) (.inl rfl)
theorem TryzI32_ok : TIok Tryz.prog 32 TryzI32 := tiok Tryz.type32 rfl rfl rfl rfl (by intro h; first | rfl | cases h) Tryz.underlying32 (by decide) rfl (by decide) (.inl rfl)
theorem TryzI33_ok : TIok Tryz.prog 33 TryzI33 := tiok Tryz.type33 rfl rfl rfl rfl (by intro h; first | rfl | cases h) (kind_struct Tryz.underlying33 (.cons ⟨rfl, ⟨_, Tryz.type31, rfl⟩, by decide, Tryz.isAgg31⟩ (.cons ⟨rfl, ⟨_, Tryz.type3, rfl⟩, by decide, Tryz.isAgg3⟩ (.cons ⟨rfl, ⟨_, Tryz.type31, rfl⟩, by decide, Tryz.isAgg31⟩ (.cons ⟨rfl, ⟨_, Tryz.type32, rfl⟩, by decide, Tryz.isAgg32⟩ .nil))))) (by decide) rfl (by decide) (.inl rfl)
theorem TryzI34_ok : TIok Tryz.prog 34 TryzI34 := tiok Tryz.type34 rfl rfl rfl rfl (by intro h; first | rfl | cases h) (kind_struct Tryz.underlying34 (.cons ⟨rfl, ⟨_, Tryz.type31, rfl⟩, by decide, Tryz.isAgg31⟩ (.cons ⟨rfl, ⟨_, Tryz.type3, rfl⟩, by decide, Tryz.isAgg3⟩ (.cons ⟨rfl, ⟨_, Tryz.type31, rfl⟩, by decide, Tryz.isAgg31⟩ (.cons ⟨rfl, ⟨_, Tryz.type32, rfl⟩, by decide, Tryz.isAgg32⟩ .nil))))) (by decide) rfl (by decide) (.inl rfl)
theorem TryzI35_ok : TIok Tryz.prog 35 TryzI35 := tiok Tryz.type35 rfl rfl rfl rfl (by intro h; first | rfl | cases h) Tryz.underlying35 (by decide) rfl (by decide) (.inl rfl)
theorem TryzI36_ok : TIok Tryz.prog 36 TryzI36 := tiok Tryz.type36 rfl rfl rfl rfl (by intro h; first | rfl | cases h) Tryz.underlying36 (by decide) rfl (by decide) (.inl rfl)
theorem TryzI38_ok : TIok Tryz.prog 38 TryzI38 := tiok Tryz.type38 rfl rfl rfl rfl (by intro h; first | rfl | cases h) ⟨_, Tryz.underlying38, (by intro x h; cases h), (by intro x y h; cases h)⟩ (by decide) rfl (by decide) (.inl rfl)
theorem TryzI39_ok : TIok Tryz.prog 39 TryzI39 := tiok Tryz.type39 rfl rfl rfl rfl (by intro h; first | rfl | cases h) ⟨_, Tryz.underlying39, (by intro x h; cases h), (by intro x y h; cases h)⟩ (by decide) rfl (by decide) (.inl rfl)
theorem TryzI40_ok : TIok Tryz.prog 40 TryzI40 := tiok Tryz.type40 rfl rfl rfl rfl (by intro h; first | rfl | cases h) ⟨_, Tryz.underlying40, (by intro x h; cases h), (by intro x y h; cases h)⟩ (by decide) rfl (by decide) (.inl rfl)
theorem TryzI41_ok : TIok Tryz.prog 41 TryzI41 := tiok Tryz.type41 rfl rfl rfl rfl (by intro h; first | rfl | cases h) ⟨_, Tryz.underlying41, (by intro x h; cases h), (by intro x y h; cases h)⟩ (by decide) rfl (by decide) (.inl rfl)
theorem TryzI42_ok : TIok Tryz.prog 42 TryzI42 := tiok Tryz.type42 rfl rfl rfl rfl (by intro h; first | rfl | cases h) (kind_struct Tryz.underlying42 (.cons ⟨rfl, ⟨_, Tryz.type31, rfl⟩, by decide, Tryz.isAgg31⟩ (.cons ⟨rfl, ⟨_, Tryz.type31, rfl⟩, by decide, Tryz.isAgg31⟩ .nil))) (by decide) rfl (by decide) (.inl rfl)
theorem TryzI43_ok : TIok Tryz.prog 43 TryzI43 := tiok Tryz.type43 rfl rfl rfl rfl (by intro h; first | rfl | cases h) (kind_struct Tryz.underlying43 (.cons ⟨rfl, ⟨_, Tryz.type31, rfl⟩, by decide, Tryz.isAgg31⟩ (.cons ⟨rfl, ⟨_, Tryz.type31, rfl⟩, by decide, Tryz.isAgg31⟩ .nil))) (by decide) rfl (by decide) (.inl rfl)
theorem TryzI44_ok : TIok Tryz.prog 44 TryzI44 := tiok Tryz.type44 rfl rfl rfl rfl (by intro h; first | rfl | cases h) ⟨_, Tryz.underlying44, (by intro x h; cases h), (by intro x y h; cases h)⟩ (by decide) rfl (by decide) (.inl rfl)
theorem TryzI45_ok : TIok Tryz.prog 45 TryzI45 := tiok Tryz.type45 rfl rfl rfl rfl (by intro h; first | rfl | cases h) Tryz.underlying45 (by decide) rfl (by decide) (.inl rfl)
theorem TryzI46_ok : TIok Tryz.prog 46 TryzI46 := tiok Tryz.type46 rfl rfl rfl rfl (by intro h; first | rfl | cases h) Tryz.underlying46 (by decide) rfl (by decide) (.inl rfl)
theorem TryzI47_ok : TIok Tryz.prog 47 TryzI47 := tiok Tryz.type47 rfl rfl rfl rfl (by intro h; first | rfl | cases h) (kind_struct Tryz.underlying47 (.cons ⟨rfl, ⟨_, Tryz.type31, rfl⟩, by decide, Tryz.isAgg31⟩ (.cons ⟨rfl, ⟨_, Tryz.type3, rfl⟩, by decide, Tryz.isAgg3⟩ (.cons ⟨rfl, ⟨_, Tryz.type3, rfl⟩, by decide, Tryz.isAgg3⟩ (.cons ⟨rfl, ⟨_, Tryz.type31, rfl⟩, by decide, Tryz.isAgg31⟩ (.cons ⟨rfl, ⟨_, Tryz.type45, rfl⟩, by decide, Tryz.isAgg45⟩ (.cons ⟨rfl, ⟨_, Tryz.type46, rfl⟩, by decide, Tryz.isAgg46⟩ .nil))))))) (by decide) rfl (by decide) (.inl rfl)
theorem TryzI48_ok : TIok Tryz.prog 48 TryzI48 := tiok Tryz.type48 rfl rfl rfl rfl (by intro h; first | rfl | cases h) (kind_struct Tryz.underlying48 (.cons ⟨rfl, ⟨_, Tryz.type31, rfl⟩, by decide, Tryz.isAgg31⟩ (.cons ⟨rfl, ⟨_, Tryz.type3, rfl⟩, by decide, Tryz.isAgg3⟩ (.cons ⟨rfl, ⟨_, Tryz.type3, rfl⟩, by decide, Tryz.isAgg3⟩ (.cons ⟨rfl, ⟨_, Tryz.type31, rfl⟩, by decide, Tryz.isAgg31⟩ (.cons ⟨rfl, ⟨_, Tryz.type45, rfl⟩, by decide, Tryz.isAgg45⟩ (.cons ⟨rfl, ⟨_, Tryz.type46, rfl⟩, by decide, Tryz.isAgg46⟩ .nil))))))) (by decide) rfl (by decide) (.inl rfl)
theorem TryzI49_ok : TIok Tryz.prog 49 TryzI49 := tiok Tryz.type49 rfl rfl rfl rfl (by intro h; first | rfl | cases h) ⟨_, Tryz.underlying49, (by intro x h; cases h), (by intro x y h; cases h)⟩ (by decide) rfl (by decide) (.inl rfl)
theorem TryzI50_ok : TIok Tryz.prog 50 TryzI50 := tiok Tryz.type50 rfl rfl rfl rfl (by intro h; first | rfl | cases h) ⟨_, Tryz.underlying50, (by intro x h; cases h), (by intro x y h; cases h)⟩ (by decide) rfl (by decide) (.inl rfl)
theorem TryzI51_ok : TIok Tryz.prog 51 TryzI51 := tiok Tryz.type51 rfl rfl rfl rfl (by intro h; first | rfl | cases h) Tryz.underlying51 (by decide) rfl (by decide) (.inl rfl)
theorem TryzI53_ok : TIok Tryz.prog 53 TryzI53 := tiok Tryz.type53 rfl rfl rfl rfl (by intro h; first | rfl | cases h) ⟨_, Tryz.underlying53, (by intro x h; cases h), (by intro x y h; cases h)⟩ (by decide) rfl (by decide) (.inl rfl)
theorem TryzI54_ok : TIok Tryz.prog 54 TryzI54 := tiok Tryz.type54 rfl rfl rfl rfl (by intro h; first | rfl | cases h) ⟨_, Tryz.underlying54, (by intro x h; cases h), (by intro x y h; cases h)⟩ (by decide) rfl (by decide) (.inl rfl)
theorem TryzI55_ok : TIok Tryz.prog 55 TryzI55 := tiok Tryz.type55 rfl rfl rfl rfl (by intro h; first | rfl | cases h) ⟨_, Tryz.underlying55, (by intro x h; cases h), (by intro x y h; cases h)⟩ (by decide) rfl (by decide) (.inl rfl)
theorem TryzI56_ok : TIok Tryz.prog 56 TryzI56 := tiok Tryz.type56 rfl rfl rfl rfl (by intro h; first | rfl | cases h) ⟨_, Tryz.underlying56, (by intro x h; cases h), (by intro x y h; cases h)⟩ (by decide) rfl (by decide) (.inl rfl)
theorem TryzI57_ok : TIok Tryz.prog 57 TryzI57 := tiok Tryz.type57 rfl rfl rfl rfl (by intro h; first | rfl | cases h) ⟨_, Tryz.underlying57, (by intro x h; cases h), (by intro x y h; cases h)⟩ (by decide) rfl (by decide) (.inl rfl)
theorem TryzI58_ok : TIok Tryz.prog 58 TryzI58 := tiok Tryz.type58 rfl rfl rfl rfl (by intro h; first | rfl | cases h) ⟨_, Tryz.underlying58, (by intro x h; cases h), (by intro x y h; cases h)⟩ (by decide) rfl (by decide) (.inl rfl)
theorem TryzI59_ok : TIok Tryz.prog 59 TryzI59 := tiok Tryz.type59 rfl rfl rfl rfl (by intro h; first | rfl | cases h) (kind_struct Tryz.underlying59 (.cons ⟨rfl, ⟨_, Tryz.type3, rfl⟩, by decide, Tryz.isAgg3⟩ (.cons ⟨rfl, ⟨_, Tryz.type31, rfl⟩, by decide, Tryz.isAgg31⟩ .nil))) (by decide) rfl (by decide) (.inl rfl)
theorem TryzI60_ok : TIok Tryz.prog 60 TryzI60 := tiok Tryz.type60 rfl rfl rfl rfl (by intro h; first | rfl | cases h) (kind_struct Tryz.underlying60 (.cons ⟨rfl, ⟨_, Tryz.type3, rfl⟩, by decide, Tryz.isAgg3⟩ (.cons ⟨rfl, ⟨_, Tryz.type31, rfl⟩, by decide, Tryz.isAgg31⟩ .nil))) (by decide) rfl (by decide) (.inl rfl)
theorem TryzI61_ok : TIok Tryz.prog 61 TryzI61 := tiok Tryz.type61 rfl rfl rfl rfl (by intro h; first | rfl | cases h) ⟨_, Tryz.underlying61, (by intro x h; cases h), (by intro x y h; cases h)⟩ (by decide) rfl (by decide) (.inl rfl)
theorem TryzI62_ok : TIok Tryz.prog 62 TryzI62 := tiok Tryz.type62 rfl rfl rfl rfl (by intro h; first | rfl | cases h) ⟨_, Tryz.underlying62, (by intro x h; cases h), (by intro x y h; cases h)⟩ (by decide) rfl (by decide) (.inl rfl)
theorem TryzI63_ok : TIok Tryz.prog 63 TryzI63 := tiok Tryz.type63 rfl rfl rfl rfl (by intro h; first | rfl | cases h) ⟨_, Tryz.underlying63, (by intro x h; cases h), (by intro x y h; cases h)⟩ (by decide) rfl (by decide) (.inl rfl)
theorem TryzI64_ok : TIok Tryz.prog 64 TryzI64 := tiok Tryz.type64 rfl rfl rfl rfl (by intro h; first | rfl | cases h) ⟨_, Tryz.underlying64, (by intro x h; cases h), (by intro x y h; cases h)⟩ (by decide) rfl (by decide) (.inl rfl)
theorem TryzI66_ok : TIok Tryz.prog 66 TryzI66 := tiok Tryz.type66 rfl rfl rfl rfl (by intro h; first | rfl | cases h) ⟨_, Tryz.underlying66, (by intro x h; cases h), (by intro x y h; cases h)⟩ (by decide) rfl (by decide) (.inl rfl)
theorem TryzI67_ok : TIok Tryz.prog 67 TryzI67 := tiok Tryz.type67 rfl rfl rfl rfl (by intro h; first | rfl | cases h) ⟨_, Tryz.underlying67, (by intro x h; cases h), (by intro x y h; cases h)⟩ (by decide) rfl (by decide) (.inl rfl)
theorem TryzI68_ok : TIok Tryz.prog 68 TryzI68 := tiok Tryz.type68 rfl rfl rfl rfl (by intro h; first | rfl | cases h) Tryz.underlying68 (by decide) rfl (by decide) (.inl rfl)
theorem TryzI69_ok : TIok Tryz.prog 69 TryzI69 := tiok Tryz.type69 rfl rfl rfl rfl (by intro h; first | rfl | cases h) Tryz.underlying69 (by decide) rfl (by decide) (.inl rfl)
theorem TryzI70_ok : TIok Tryz.prog 70 TryzI70 := tiok Tryz.type70 rfl rfl rfl rfl (by intro h; first | rfl | cases h) Tryz.underlying70 (by decide) rfl (by decide) (.inl rfl)
theorem TryzI71_ok : TIok Tryz.prog 71 TryzI71 := tiok Tryz.type71 rfl rfl rfl rfl (by intro h; first | rfl | cases h) Tryz.underlying71 (by decide) rfl (by decide) (.inl rfl)
theorem TryzI72_ok : TIok Tryz.prog 72 TryzI72 := tiok Tryz.type72 rfl rfl rfl rfl (by intro h; first | rfl | cases h) (kind_struct Tryz.underlying72 (.cons ⟨rfl, ⟨_, Tryz.type5, rfl⟩, by decide, Tryz.isAgg5⟩ (.cons ⟨rfl, ⟨_, Tryz.type5, rfl⟩, by decide, Tryz.isAgg5⟩ (.cons ⟨rfl, ⟨_, Tryz.type71, rfl⟩, by decide, Tryz.isAgg71⟩ .nil)))) (by decide) rfl (by decide) (.inl rfl)
theorem TryzI73_ok : TIok Tryz.prog 73 TryzI73 := tiok Tryz.type73 rfl rfl rfl rfl (by intro h; first | rfl | cases h) (kind_struct Tryz.underlying73 (.cons ⟨rfl, ⟨_, Tryz.type5, rfl⟩, by decide, Tryz.isAgg5⟩ (.cons ⟨rfl, ⟨_, Tryz.type5, rfl⟩, by decide, Tryz.isAgg5⟩ (.cons ⟨rfl, ⟨_, Tryz.type71, rfl⟩, by decide, Tryz.isAgg71⟩ .nil)))) (by decide) rfl (by decide) (.inl rfl)
theorem TryzI75_ok : TIok Tryz.prog 75 TryzI75 := tiok Tryz.type75 rfl rfl rfl rfl (by intro h; first | rfl | cases h) Tryz.underlying75 (by decide) rfl (by decide) (.inl rfl)
theorem TryzI76_ok : TIok Tryz.prog 76 TryzI76 := tiok Tryz.type76 rfl rfl rfl rfl (by intro h; first | rfl | cases h) ⟨_, Tryz.underlying76, (by intro x h; cases h), (by intro x y h; cases h)⟩ (by decide) rfl (by decide) (.inl rfl)
theorem TryzI77_ok : TIok Tryz.prog 77 TryzI77 := tiok Tryz.type77 rfl rfl rfl rfl (by intro h; first | rfl | cases h) ⟨_, Tryz.underlying77, (by intro x h; cases h), (by intro x y h; cases h)⟩ (by decide) rfl (by decide) (.inl rfl)
theorem TryzI79_ok : TIok Tryz.prog 79 TryzI79 := tiok Tryz.type79 rfl rfl rfl rfl (by intro h; first | rfl | cases h) ⟨_, Tryz.underlying79, (by intro x h; cases h), (by intro x y h; cases h)⟩ (by decide) rfl (by decide) (.inl rfl)
theorem TryzI80_ok : TIok Tryz.prog 80 TryzI80 := tiok Tryz.type80 rfl rfl rfl rfl (by intro h; first | rfl | cases h) Tryz.underlying80 (by decide) rfl (by decide) (.inl rfl)
theorem TryzI82_ok : TIok Tryz.prog 82 TryzI82 := tiok Tryz.type82 rfl rfl rfl rfl (by intro h; first | rfl | cases h) ⟨_, Tryz.underlying82, (by intro x h; cases h), (by intro x y h; cases h)⟩ (by decide) rfl (by decide) (.inl rfl)
theorem TryzI83_ok : TIok Tryz.prog 83 TryzI83 := tiok Tryz.type83 rfl rfl rfl rfl (by intro h; first | rfl | cases h) ⟨_, Tryz.underlying83, (by intro x h; cases h), (by intro x y h; cases h)⟩ (by decide) rfl (by decide) (.inl rfl)
theorem TryzI84_ok : TIok Tryz.prog 84 TryzI84 := tiok Tryz.type84 rfl rfl rfl rfl (by intro h; first | rfl | cases h) ⟨_, Tryz.underlying84, (by intro x h; cases h), (by intro x y h; cases h)⟩ (by decide) rfl (by decide) (.inl rfl)
theorem TryzI85_ok : TIok Tryz.prog 85 TryzI85 := tiok Tryz.type85 rfl rfl rfl rfl (by intro h; first | rfl | cases h) Tryz.underlying85 (by decide) rfl (by decide) (.inl rfl)
theorem TryzI86_ok : TIok Tryz.prog 86 TryzI86 := tiok Tryz.type86 rfl rfl rfl rfl (by intro h; first | rfl | cases h) (kind_struct Tryz.underlying86 (.cons ⟨rfl, ⟨_, Tryz.type3, rfl⟩, by decide, Tryz.isAgg3⟩ (.cons ⟨rfl, ⟨_, Tryz.type3, rfl⟩, by decide, Tryz.isAgg3⟩ (.cons ⟨rfl, ⟨_, Tryz.type3, rfl⟩, by decide, Tryz.isAgg3⟩ (.cons ⟨rfl, ⟨_, Tryz.type85, rfl⟩, by decide, Tryz.isAgg85⟩ .nil))))) (by decide) rfl (by decide) (.inl rfl)
theorem TryzI87_ok : TIok Tryz.prog 87 TryzI87 := tiok Tryz.type87 rfl rfl rfl rfl (by intro h; first | rfl | cases h) (kind_struct Tryz.underlying87 (.cons ⟨rfl, ⟨_, Tryz.type3, rfl⟩, by decide, Tryz.isAgg3⟩ (.cons ⟨rfl, ⟨_, Tryz.type3, rfl⟩, by decide, Tryz.isAgg3⟩ (.cons ⟨rfl, ⟨_, Tryz.type3, rfl⟩, by decide, Tryz.isAgg3⟩ (.cons ⟨rfl, ⟨_, Tryz.type85, rfl⟩, by decide, Tryz.isAgg85⟩ .nil))))) (by decide) rfl (by decide) (.inl rfl)
theorem TryzI88_ok : TIok Tryz.prog 88 TryzI88 := tiok Tryz.type88 rfl rfl rfl rfl (by intro h; first | rfl | cases h) ⟨_, Tryz.underlying88, (by intro x h; cases h), (by intro x y h; cases h)⟩ (by decide) rfl (by decide) (.inl rfl)
theorem TryzI89_ok : TIok Tryz.prog 89 TryzI89 := tiok Tryz.type89 rfl rfl rfl rfl (by intro h; first | rfl | cases h) ⟨_, Tryz.underlying89, (by intro x h; cases h), (by intro x y h; cases h)⟩ (by decide) rfl (by decide) (.inl rfl)
theorem TryzI91_ok : TIok Tryz.prog 91 TryzI91 := tiok Tryz.type91 rfl rfl rfl rfl (by intro h; first | rfl | cases h) ⟨_, Tryz.underlying91, (by intro x h; cases h), (by intro x y h; cases h)⟩ (by decide) rfl (by decide) (.inl rfl)
theorem TryzI92_ok : TIok Tryz.prog 92 TryzI92 := tiok Tryz.type92 rfl rfl rfl rfl (by intro h; first | rfl | cases h) (kind_struct Tryz.underlying92 (.cons ⟨rfl, ⟨_, Tryz.type3, rfl⟩, by decide, Tryz.isAgg3⟩ (.cons ⟨rfl, ⟨_, Tryz.type3, rfl⟩, by decide, Tryz.isAgg3⟩ (.cons ⟨rfl, ⟨_, Tryz.type3, rfl⟩, by decide, Tryz.isAgg3⟩ .nil)))) (by decide) rfl (by decide) (.inl rfl)
theorem TryzI93_ok : TIok Tryz.prog 93 TryzI93 := tiok Tryz.type93 rfl rfl rfl rfl (by intro h; first | rfl | cases h) (kind_struct Tryz.underlying93 (.cons ⟨rfl, ⟨_, Tryz.type3, rfl⟩, by decide, Tryz.isAgg3⟩ (.cons ⟨rfl, ⟨_, Tryz.type3, rfl⟩, by decide, Tryz.isAgg3⟩ (.cons ⟨rfl, ⟨_, Tryz.type3, rfl⟩, by decide, Tryz.isAgg3⟩ .nil)))) (by decide) rfl (by decide) (.inr ⟨Tryz.underlying93, by kernel_rfl, Tryz.eqGuardType93, ⟨by decide, rfl, Tryz.underlying3, ⟨by decide, rfl, Tryz.underlying3, ⟨by decide, rfl, Tryz.underlying3, trivial⟩⟩⟩⟩)
theorem TryzI94_ok : TIok Tryz.prog 94 TryzI94 := tiok Tryz.type94 rfl rfl rfl rfl (by intro h; first | rfl | cases h) ⟨_, Tryz.underlying94, (by intro x h; cases h), (by intro x y h; cases h)⟩ (by decide) rfl (by decide) (.inl rfl)
theorem TryzI95_ok : TIok Tryz.prog 95 TryzI95 := tiok Tryz.type95 rfl rfl rfl rfl (by intro h; first | rfl | cases h) (kind_struct Tryz.underlying95 (.cons ⟨rfl, ⟨_, Tryz.type9, rfl⟩, by decide, Tryz.isAgg9⟩ (.cons ⟨rfl, ⟨_, Tryz.type3, rfl⟩, by decide, Tryz.isAgg3⟩ (.cons ⟨rfl, ⟨_, Tryz.type3, rfl⟩, by decide, Tryz.isAgg3⟩ (.cons ⟨rfl, ⟨_, Tryz.type3, rfl⟩, by decide, Tryz.isAgg3⟩ .nil))))) (by decide) rfl (by decide) (.inl rfl)
theorem TryzI96_ok : TIok Tryz.prog 96 TryzI96 := tiok Tryz.type96 rfl rfl rfl rfl (by intro h; first | rfl | cases h) (kind_struct Tryz.underlying96 (.cons ⟨rfl, ⟨_, Tryz.type9, rfl⟩, by decide, Tryz.isAgg9⟩ (.cons ⟨rfl, ⟨_, Tryz.type3, rfl⟩, by decide, Tryz.isAgg3⟩ (.cons ⟨rfl, ⟨_, Tryz.type3, rfl⟩, by decide, Tryz.isAgg3⟩ (.cons ⟨rfl, ⟨_, Tryz.type3, rfl⟩, by decide, Tryz.isAgg3⟩ .nil))))) (by decide) rfl (by decide) (.inr ⟨Tryz.underlying96, by kernel_rfl, Tryz.eqGuardType96, ⟨by decide, rfl, Tryz.underlying9, ⟨by decide, rfl, Tryz.underlying3, ⟨by decide, rfl, Tryz.underlying3, ⟨by decide, rfl, Tryz.underlying3, trivial⟩⟩⟩⟩⟩)
theorem TryzI97_ok : TIok Tryz.prog 97 TryzI97 := tiok Tryz.type97 rfl rfl rfl rfl (by intro h; first | rfl | cases h) ⟨_, Tryz.underlying97, (by intro x h; cases h), (by intro x y h; cases h)⟩ (by decide) rfl (by decide) (.inl rfl)
theorem TryzI98_ok : TIok Tryz.prog 98 TryzI98 := tiok Tryz.type98 rfl rfl rfl rfl (by intro h; first | rfl | cases h) ⟨_, Tryz.underlying98, (by intro x h; cases h), (by intro x y h; cases h)⟩ (by decide) rfl (by decide) (.inl rfl)
theorem TryzI99_ok : TIok Tryz.prog 99 TryzI99 := tiok Tryz.type99 rfl rfl rfl rfl (by intro h; first | rfl | cases h) ⟨_, Tryz.underlying99, (by intro x h; cases h), (by intro x y h; cases h)⟩ (by decide) rfl (by decide) (.inl rfl)
theorem TryzI100_ok : TIok Tryz.prog 100 TryzI100 := tiok Tryz.type100 rfl rfl rfl rfl (by intro h; first | rfl | cases h) ⟨_, Tryz.underlying100, (by intro x h; cases h), (by intro x y h; cases h)⟩ (by decide) rfl (by decide) (.inl rfl)
theorem TryzI101_ok : TIok Tryz.prog 101 TryzI101 := tiok Tryz.type101 rfl rfl rfl rfl (by intro h; first | rfl | cases h) ⟨_, Tryz.underlying101, (by intro x h; cases h), (by intro x y h; cases h)⟩ (by decide) rfl (by decide) (.inl rfl)
theorem TryzI102_ok : TIok Tryz.prog 102 TryzI102 := tiok Tryz.type102 rfl rfl rfl rfl (by intro h; first | rfl | cases h) ⟨_, Tryz.underlying102, (by intro x h; cases h), (by intro x y h; cases h)⟩ (by decide) rfl (by decide) (.inl rfl)
theorem TryzI103_ok : TIok Tryz.prog 103 TryzI103 := tiok Tryz.type103 rfl rfl rfl rfl (by intro h; first | rfl | cases h) ⟨_, Tryz.underlying103, (by intro x h; cases h), (by intro x y h; cases h)⟩ (by decide) rfl (by decide) (.inl rfl)
theorem TryzI104_ok : TIok Tryz.prog 104 TryzI104 := tiok Tryz.type104 rfl rfl rfl rfl (by intro h; first | rfl | cases h) ⟨_, Tryz.underlying104, (by intro x h; cases h), (by intro x y h; cases h)⟩ (by decide) rfl (by decide) (.inl rfl)
theorem TryzI105_ok : TIok Tryz.prog 105 TryzI105 := tiok Tryz.type105 rfl rfl rfl rfl (by intro h; first | rfl | cases h) Tryz.underlying105 (by decide) rfl (by decide) (.inl rfl)
theorem TryzI106_ok : TIok Tryz.prog 106 TryzI106 := tiok Tryz.type106 rfl rfl rfl rfl (by intro h; first | rfl | cases h) (kind_struct Tryz.underlying106 (.cons ⟨rfl, ⟨_, Tryz.type3, rfl⟩, by decide, Tryz.isAgg3⟩ (.cons ⟨rfl, ⟨_, Tryz.type3, rfl⟩, by decide, Tryz.isAgg3⟩ (.cons ⟨rfl, ⟨_, Tryz.type3, rfl⟩, by decide, Tryz.isAgg3⟩ (.cons ⟨rfl, ⟨_, Tryz.type87, rfl⟩, by decide, Tryz.isAgg87⟩ (.cons ⟨rfl, ⟨_, Tryz.type105, rfl⟩, by decide, Tryz.isAgg105⟩ .nil)))))) (by decide) rfl (by decide) (.inl rfl)
theorem TryzI107_ok : TIok Tryz.prog 107 TryzI107 := tiok Tryz.type107 rfl rfl rfl rfl (by intro h; first | rfl | cases h) (kind_struct Tryz.underlying107 (.cons ⟨rfl, ⟨_, Tryz.type3, rfl⟩, by decide, Tryz.isAgg3⟩ (.cons ⟨rfl, ⟨_, Tryz.type3, rfl⟩, by decide, Tryz.isAgg3⟩ (.cons ⟨rfl, ⟨_, Tryz.type3, rfl⟩, by decide, Tryz.isAgg3⟩ (.cons ⟨rfl, ⟨_, Tryz.type87, rfl⟩, by decide, Tryz.isAgg87⟩ (.cons ⟨rfl, ⟨_, Tryz.type105, rfl⟩, by decide, Tryz.isAgg105⟩ .nil)))))) (by decide) rfl (by decide) (.inl rfl)
theorem TryzI108_ok : TIok Tryz.prog 108 TryzI108 := tiok Tryz.type108 rfl rfl rfl rfl (by intro h; first | rfl | cases h) (kind_struct Tryz.underlying108 (.cons ⟨rfl, ⟨_, Tryz.type3, rfl⟩, by decide, Tryz.isAgg3⟩ (.cons ⟨rfl, ⟨_, Tryz.type87, rfl⟩, by decide, Tryz.isAgg87⟩ .nil))) (by decide) rfl (by decide) (.inl rfl)
theorem TryzI109_ok : TIok Tryz.prog 109 TryzI109 := tiok Tryz.type109 rfl rfl rfl rfl (by intro h; first | rfl | cases h) (kind_struct Tryz.underlying109 (.cons ⟨rfl, ⟨_, Tryz.type3, rfl⟩, by decide, Tryz.isAgg3⟩ (.cons ⟨rfl, ⟨_, Tryz.type87, rfl⟩, by decide, Tryz.isAgg87⟩ .nil))) (by decide) rfl (by decide) (.inl rfl)
theorem TryzI110_ok : TIok Tryz.prog 110 TryzI110 := tiok Tryz.type110 rfl rfl rfl rfl (by intro h; first | rfl | cases h) ⟨_, Tryz.underlying110, (by intro x h; cases h), (by intro x y h; cases h)⟩ (by decide) rfl (by decide) (.inl rfl)
theorem TryzI111_ok : TIok Tryz.prog 111 TryzI111 := tiok Tryz.type111 rfl rfl rfl rfl (by intro h; first | rfl | cases h) Tryz.underlying111 (by decide) rfl (by decide) (.inl rfl)
theorem TryzI112_ok : TIok Tryz.prog 112 TryzI112 := tiok Tryz.type112 rfl rfl rfl rfl (by intro h; first | rfl | cases h) Tryz.underlying112 (by decide) rfl (by decide) (.inl rfl)
theorem TryzI113_ok : TIok Tryz.prog 113 TryzI113 := tiok Tryz.type113 rfl rfl rfl rfl (by intro h; first | rfl | cases h) (kind_struct Tryz.underlying113 (.cons ⟨rfl, ⟨_, Tryz.type111, rfl⟩, by decide, Tryz.isAgg111⟩ (.cons ⟨rfl, ⟨_, Tryz.type112, rfl⟩, by decide, Tryz.isAgg112⟩ (.cons ⟨rfl, ⟨_, Tryz.type112, rfl⟩, by decide, Tryz.isAgg112⟩ .nil)))) (by decide) rfl (by decide) (.inl rfl)
theorem TryzI114_ok : TIok Tryz.prog 114 TryzI114 := tiok Tryz.type114 rfl rfl rfl rfl (by intro h; first | rfl | cases h) (kind_struct Tryz.underlying114 (.cons ⟨rfl, ⟨_, Tryz.type111, rfl⟩, by decide, Tryz.isAgg111⟩ (.cons ⟨rfl, ⟨_, Tryz.type112, rfl⟩, by decide, Tryz.isAgg112⟩ (.cons ⟨rfl, ⟨_, Tryz.type112, rfl⟩, by decide, Tryz.isAgg112⟩ .nil)))) (by decide) rfl (by decide) (.inl rfl)
theorem TryzI115_ok : TIok Tryz.prog 115 TryzI115 := tiok Tryz.type115 rfl rfl rfl rfl (by intro h; first | rfl | cases h) ⟨_, Tryz.underlying115, (by intro x h; cases h), (by intro x y h; cases h)⟩ (by decide) rfl (by decide) (.inl rfl)
theorem TryzI117_ok : TIok Tryz.prog 117 TryzI117 := tiok Tryz.type117 rfl rfl rfl rfl (by intro h; first | rfl | cases h) ⟨_, Tryz.underlying117, (by intro x h; cases h), (by intro x y h; cases h)⟩ (by decide) rfl (by decide) (.inl rfl)
theorem TryzI118_ok : TIok Tryz.prog 118 TryzI118 := tiok Tryz.type118 rfl rfl rfl rfl (by intro h; first | rfl | cases h) ⟨_, Tryz.underlying118, (by intro x h; cases h), (by intro x y h; cases h)⟩ (by decide) rfl (by decide) (.inl rfl)
theorem TryzI120_ok : TIok Tryz.prog 120 TryzI120 := tiok Tryz.type120 rfl rfl rfl rfl (by intro h; first | rfl | cases h) ⟨_, Tryz.underlying120, (by intro x h; cases h), (by intro x y h; cases h)⟩ (by decide) rfl (by decide) (.inl rfl)
theorem TryzI121_ok : TIok Tryz.prog 121 TryzI121 := tiok Tryz.type121 rfl rfl rfl rfl (by intro h; first | rfl | cases h) ⟨_, Tryz.underlying121, (by intro x h; cases h), (by intro x y h; cases h)⟩ (by decide) rfl (by decide) (.inl rfl)
theorem TryzI122_ok : TIok Tryz.prog 122 TryzI122 := tiok Tryz.type122 rfl rfl rfl rfl (by intro h; first | rfl | cases h) ⟨_, Tryz.underlying122, (by intro x h; cases h), (by intro x y h; cases h)⟩ (by decide) rfl (by decide) (.inl rfl)
theorem TryzI123_ok : TIok Tryz.prog 123 TryzI123 := tiok Tryz.type123 rfl rfl rfl rfl (by intro h; first | rfl | cases h) ⟨_, Tryz.underlying123, (by intro x h; cases h), (by intro x y h; cases h)⟩ (by decide) rfl (by decide) (.inl rfl)
theorem TryzI124_ok : TIok Tryz.prog 124 TryzI124 := tiok Tryz.type124 rfl rfl rfl rfl (by intro h; first | rfl | cases h) ⟨_, Tryz.underlying124, (by intro x h; cases h), (by intro x y h; cases h)⟩ (by decide) rfl (by decide) (.inl rfl)
theorem TryzI125_ok : TIok Tryz.prog 125 TryzI125 := tiok Tryz.type125 rfl rfl rfl rfl (by intro h; first | rfl | cases h) ⟨_, Tryz.underlying125, (by intro x h; cases h), (by intro x y h; cases h)⟩ (by decide) rfl (by decide) (.inl rfl)
theorem TryzI126_ok : TIok Tryz.prog 126 TryzI126 := tiok Tryz.type126 rfl rfl rfl rfl (by intro h; first | rfl | cases h) ⟨_, Tryz.underlying126, (by intro x h; cases h), (by intro x y h; cases h)⟩ (by decide) rfl (by decide) (.inl rfl)
theorem TryzI127_ok : TIok Tryz.prog 127 TryzI127 := tiok Tryz.type127 rfl rfl rfl rfl (by intro h; first | rfl | cases h) ⟨_, Tryz.underlying127, (by intro x h; cases h), (by intro x y h; cases h)⟩ (by decide) rfl (by decide) (.inl rfl)
theorem TryzI129_ok : TIok Tryz.prog 129 TryzI129 := tiok Tryz.type129 rfl rfl rfl rfl (by intro h; first | rfl | cases h) ⟨_, Tryz.underlying129, (by intro x h; cases h), (by intro x y h; cases h)⟩ (by decide) rfl (by decide) (.inl rfl)
theorem TryzI130_ok : TIok Tryz.prog 130 TryzI130 := tiok Tryz.type130 rfl rfl rfl rfl (by intro h; first | rfl | cases h) Tryz.underlying130 (by decide) rfl (by decide) (.inl rfl)
theorem TryzI131_ok : TIok Tryz.prog 131 TryzI131 := tiok Tryz.type131 rfl rfl rfl rfl (by intro h; first | rfl | cases h) ⟨_, Tryz.underlying131, (by intro x h; cases h), (by intro x y h; cases h)⟩ (by decide) rfl (by decide) (.inl rfl)
theorem TryzI132_ok : TIok Tryz.prog 132 TryzI132 := tiok Tryz.type132 rfl rfl rfl rfl (by intro h; first | rfl | cases h) ⟨_, Tryz.underlying132, (by intro x h; cases h), (by intro x y h; cases h)⟩ (by decide) rfl (by decide) (.inl rfl)
theorem TryzI133_ok : TIok Tryz.prog 133 TryzI133 := tiok Tryz.type133 rfl rfl rfl rfl (by intro h; first | rfl | cases h) ⟨_, Tryz.underlying133, (by intro x h; cases h), (by intro x y h; cases h)⟩ (by decide) rfl (by decide) (.inl rfl)
theorem TryzI134_ok : TIok Tryz.prog 134 TryzI134 := tiok Tryz.type134 rfl rfl rfl rfl (by intro h; first | rfl | cases h) ⟨_, Tryz.underlying134, (by intro x h; cases h), (by intro x y h; cases h)⟩ (by decide) rfl (by decide) (.inl rfl)
theorem TryzI135_ok : TIok Tryz.prog 135 TryzI135 := tiok Tryz.type135 rfl rfl rfl rfl (by intro h; first | rfl | cases h) ⟨_, Tryz.underlying135, (by intro x h; cases h), (by intro x y h; cases h)⟩ (by decide) rfl (by decide) (.inl rfl)
theorem TryzI136_ok : TIok Tryz.prog 136 TryzI136 := tiok Tryz.type136 rfl rfl rfl rfl (by intro h; first | rfl | cases h) Tryz.underlying136 (by decide) rfl (by decide) (.inl rfl)
theorem TryzI137_ok : TIok Tryz.prog 137 TryzI137 := tiok Tryz.type137 rfl rfl rfl rfl (by intro h; first | rfl | cases h) (kind_struct Tryz.underlying137 (.cons ⟨rfl, ⟨_, Tryz.type75, rfl⟩, by decide, Tryz.isAgg75⟩ (.cons ⟨rfl, ⟨_, Tryz.type31, rfl⟩, by decide, Tryz.isAgg31⟩ (.cons ⟨rfl, ⟨_, Tryz.type136, rfl⟩, by decide, Tryz.isAgg136⟩ .nil)))) (by decide) rfl (by decide) (.inl rfl)
theorem TryzI138_ok : TIok Tryz.prog 138 TryzI138 := tiok Tryz.type138 rfl rfl rfl rfl (by intro h; first | rfl | cases h) (kind_struct Tryz.underlying138 (.cons ⟨rfl, ⟨_, Tryz.type75, rfl⟩, by decide, Tryz.isAgg75⟩ (.cons ⟨rfl, ⟨_, Tryz.type31, rfl⟩, by decide, Tryz.isAgg31⟩ (.cons ⟨rfl, ⟨_, Tryz.type136, rfl⟩, by decide, Tryz.isAgg136⟩ .nil)))) (by decide) rfl (by decide) (.inl rfl)
theorem TryzI139_ok : TIok Tryz.prog 139 TryzI139 := tiok Tryz.type139 rfl rfl rfl rfl (by intro h; first | rfl | cases h) ⟨_, Tryz.underlying139, (by intro x h; cases h), (by intro x y h; cases h)⟩ (by decide) rfl (by decide) (.inl rfl)
theorem TryzI141_ok : TIok Tryz.prog 141 TryzI141 := tiok Tryz.type141 rfl rfl rfl rfl (by intro h; first | rfl | cases h) ⟨_, Tryz.underlying141, (by intro x h; cases h), (by intro x y h; cases h)⟩ (by decide) rfl (by decide) (.inl rfl)
theorem TryzI142_ok : TIok Tryz.prog 142 TryzI142 := tiok Tryz.type142 rfl rfl rfl rfl (by intro h; first | rfl | cases h) ⟨_, Tryz.underlying142, (by intro x h; cases h), (by intro x y h; cases h)⟩ (by decide) rfl (by decide) (.inl rfl)
theorem TryzI143_ok : TIok Tryz.prog 143 TryzI143 := tiok Tryz.type143 rfl rfl rfl rfl (by intro h; first | rfl | cases h) Tryz.underlying143 (by decide) rfl (by decide) (.inl rfl)
theorem TryzI144_ok : TIok Tryz.prog 144 TryzI144 := tiok Tryz.type144 rfl rfl rfl rfl (by intro h; first | rfl | cases h) ⟨_, Tryz.underlying144, (by intro x h; cases h), (by intro x y h; cases h)⟩ (by decide) rfl (by decide) (.inl rfl)
theorem TryzI145_ok : TIok Tryz.prog 145 TryzI145 := tiok Tryz.type145 rfl rfl rfl rfl (by intro h; first | rfl | cases h) ⟨_, Tryz.underlying145, (by intro x h; cases h), (by intro x y h; cases h)⟩ (by decide) rfl (by decide) (.inl rfl)
theorem TryzI147_ok : TIok Tryz.prog 147 TryzI147 := tiok Tryz.type147 rfl rfl rfl rfl (by intro h; first | rfl | cases h) ⟨_, Tryz.underlying147, (by intro x h; cases h), (by intro x y h; cases h)⟩ (by decide) rfl (by decide) (.inl rfl)
theorem TryzI148_ok : TIok Tryz.prog 148 TryzI148 := tiok Tryz.type148 rfl rfl rfl rfl (by intro h; first | rfl | cases h) ⟨_, Tryz.underlying148, (by intro x h; cases h), (by intro x y h; cases h)⟩ (by decide) rfl (by decide) (.inl rfl)
theorem TryzI149_ok : TIok Tryz.prog 149 TryzI149 := tiok Tryz.type149 rfl rfl rfl rfl (by intro h; first | rfl | cases h) Tryz.underlying149 (by decide) rfl (by decide) (.inl rfl)
theorem TryzI150_ok : TIok Tryz.prog 150 TryzI150 := tiok Tryz.type150 rfl rfl rfl rfl (by intro h; first | rfl | cases h) (kind_struct Tryz.underlying150 (.cons ⟨rfl, ⟨_, Tryz.type149, rfl⟩, by decide, Tryz.isAgg149⟩ (.cons ⟨rfl, ⟨_, Tryz.type112, rfl⟩, by decide, Tryz.isAgg112⟩ .nil))) (by decide) rfl (by decide) (.inl rfl)
theorem TryzI151_ok : TIok Tryz.prog 151 TryzI151 := tiok Tryz.type151 rfl rfl rfl rfl (by intro h; first | rfl | cases h) (kind_struct Tryz.underlying151 (.cons ⟨rfl, ⟨_, Tryz.type149, rfl⟩, by decide, Tryz.isAgg149⟩ (.cons ⟨rfl, ⟨_, Tryz.type112, rfl⟩, by decide, Tryz.isAgg112⟩ .nil))) (by decide) rfl (by decide) (.inl rfl)
theorem TryzI152_ok : TIok Tryz.prog 152 TryzI152 := tiok Tryz.type152 rfl rfl rfl rfl (by intro h; first | rfl | cases h) ⟨_, Tryz.underlying152, (by intro x h; cases h), (by intro x y h; cases h)⟩ (by decide) rfl (by decide) (.inl rfl)
theorem TryzI153_ok : TIok Tryz.prog 153 TryzI153 := tiok Tryz.type153 rfl rfl rfl rfl (by intro h; first | rfl | cases h) ⟨_, Tryz.underlying153, (by intro x h; cases h), (by intro x y h; cases h)⟩ (by decide) rfl (by decide) (.inl rfl)
theorem TryzI155_ok : TIok Tryz.prog 155 TryzI155 := tiok Tryz.type155 rfl rfl rfl rfl (by intro h; first | rfl | cases h) ⟨_, Tryz.underlying155, (by intro x h; cases h), (by intro x y h; cases h)⟩ (by decide) rfl (by decide) (.inl rfl)
theorem TryzI156_ok : TIok Tryz.prog 156 TryzI156 := tiok Tryz.type156 rfl rfl rfl rfl (by intro h; first | rfl | cases h) ⟨_, Tryz.underlying156, (by intro x h; cases h), (by intro x y h; cases h)⟩ (by decide) rfl (by decide) (.inl rfl)
theorem TryzI157_ok : TIok Tryz.prog 157 TryzI157 := tiok Tryz.type157 rfl rfl rfl rfl (by intro h; first | rfl | cases h) ⟨_, Tryz.underlying157, (by intro x h; cases h), (by intro x y h; cases h)⟩ (by decide) rfl (by decide) (.inl rfl)
theorem TryzI158_ok : TIok Tryz.prog 158 TryzI158 := tiok Tryz.type158 rfl rfl rfl rfl (by intro h; first | rfl | cases h) ⟨_, Tryz.underlying158, (by intro x h; cases h), (by intro x y h; cases h)⟩ (by decide) rfl (by decide) (.inl rfl)
theorem TryzI160_ok : TIok Tryz.prog 160 TryzI160 := tiok Tryz.type160 rfl rfl rfl rfl (by intro h; first | rfl | cases h) ⟨_, Tryz.underlying160, (by intro x h; cases h), (by intro x y h; cases h)⟩ (by decide) rfl (by decide) (.inl rfl)
theorem TryzI161_ok : TIok Tryz.prog 161 TryzI161 := tiok Tryz.type161 rfl rfl rfl rfl (by intro h; first | rfl | cases h) ⟨_, Tryz.underlying161, (by intro x h; cases h), (by intro x y h; cases h)⟩ (by decide) rfl (by decide) (.inl rfl)
theorem TryzI162_ok : TIok Tryz.prog 162 TryzI162 := tiok Tryz.type162 rfl rfl rfl rfl (by intro h; first | rfl | cases h) ⟨_, Tryz.underlying162, (by intro x h; cases h), (by intro x y h; cases h)⟩ (by decide) rfl (by decide) (.inl rfl)
theorem TryzI163_ok : TIok Tryz.prog 163 TryzI163 := tiok Tryz.type163 rfl rfl rfl rfl (by intro h; first | rfl | cases h) ⟨_, Tryz.underlying163, (by intro x h; cases h), (by intro x y h; cases h)⟩ (by decide) rfl (by decide) (.inl rfl)
theorem TryzI164_ok : TIok Tryz.prog 164 TryzI164 := tiok Tryz.type164 rfl rfl rfl rfl (by intro h; first | rfl | cases h) Tryz.underlying164 (by decide) rfl (by decide) (.inl rfl)
theorem TryzI165_ok : TIok Tryz.prog 165 TryzI165 := tiok Tryz.type165 rfl rfl rfl rfl (by intro h; first | rfl | cases h) Tryz.underlying165 (by decide) rfl (by decide) (.inl rfl)
theorem TryzI166_ok : TIok Tryz.prog 166 TryzI166 := tiok Tryz.type166 rfl rfl rfl rfl (by intro h; first | rfl | cases h) Tryz.underlying166 (by decide) rfl (by decide) (.inl rfl)
theorem TryzI167_ok : TIok Tryz.prog 167 TryzI167 := tiok Tryz.type167 rfl rfl rfl rfl (by intro h; first | rfl | cases h) (kind_struct Tryz.underlying167 (.cons ⟨rfl, ⟨_, Tryz.type112, rfl⟩, by decide, Tryz.isAgg112⟩ (.cons ⟨rfl, ⟨_, Tryz.type3, rfl⟩, by decide, Tryz.isAgg3⟩ (.cons ⟨rfl, ⟨_, Tryz.type3, rfl⟩, by decide, Tryz.isAgg3⟩ .nil)))) (by decide) rfl (by decide) (.inl rfl)
theorem TryzI168_ok : TIok Tryz.prog 168 TryzI168 := tiok Tryz.type168 rfl rfl rfl rfl (by intro h; first | rfl | cases h) (kind_struct Tryz.underlying168 (.cons ⟨rfl, ⟨_, Tryz.type112, rfl⟩, by decide, Tryz.isAgg112⟩ (.cons ⟨rfl, ⟨_, Tryz.type3, rfl⟩, by decide, Tryz.isAgg3⟩ (.cons ⟨rfl, ⟨_, Tryz.type3, rfl⟩, by decide, Tryz.isAgg3⟩ .nil)))) (by decide) rfl (by decide) (.inl rfl)
theorem TryzI169_ok : TIok Tryz.prog 169 TryzI169 := tiok Tryz.type169 rfl rfl rfl rfl (by intro h; first | rfl | cases h) ⟨_, Tryz.underlying169, (by intro x h; cases h), (by intro x y h; cases h)⟩ (by decide) rfl (by decide) (.inl rfl)
theorem TryzI170_ok : TIok Tryz.prog 170 TryzI170 := tiok Tryz.type170 rfl rfl rfl rfl (by intro h; first | rfl | cases h) ⟨_, Tryz.underlying170, (by intro x h; cases h), (by intro x y h; cases h)⟩ (by decide) rfl (by decide) (.inl rfl)
theorem TryzI171_ok : TIok Tryz.prog 171 TryzI171 := tiok Tryz.type171 rfl rfl rfl rfl (by intro h; first | rfl | cases h) ⟨_, Tryz.underlying171, (by intro x h; cases h), (by intro x y h; cases h)⟩ (by decide) rfl (by decide) (.inl rfl)
theorem TryzI172_ok : TIok Tryz.prog 172 TryzI172 := tiok Tryz.type172 rfl rfl rfl rfl (by intro h; first | rfl | cases h) ⟨_, Tryz.underlying172, (by intro x h; cases h), (by intro x y h; cases h)⟩ (by decide) rfl (by decide) (.inl rfl)
theorem TryzI173_ok : TIok Tryz.prog 173 TryzI173 := tiok Tryz.type173 rfl rfl rfl rfl (by intro h; first | rfl | cases h) ⟨_, Tryz.underlying173, (by intro x h; cases h), (by intro x y h; cases h)⟩ (by decide) rfl (by decide) (.inl rfl)
theorem TryzI174_ok : TIok Tryz.prog 174 TryzI174 := tiok Tryz.type174 rfl rfl rfl rfl (by intro h; first | rfl | cases h) ⟨_, Tryz.underlying174, (by intro x h; cases h), (by intro x y h; cases h)⟩ (by decide) rfl (by decide) (.inl rfl)
theorem TryzI175_ok : TIok Tryz.prog 175 TryzI175 := tiok Tryz.type175 rfl rfl rfl rfl (by intro h; first | rfl | cases h) ⟨_, Tryz.underlying175, (by intro x h; cases h), (by intro x y h; cases h)⟩ (by decide) rfl (by decide) (.inl rfl)
theorem TryzI176_ok : TIok Tryz.prog 176 TryzI176 := tiok Tryz.type176 rfl rfl rfl rfl (by intro h; first | rfl | cases h) ⟨_, Tryz.underlying176, (by intro x h; cases h), (by intro x y h; cases h)⟩ (by decide) rfl (by decide) (.inl rfl)
theorem TryzI177_ok : TIok Tryz.prog 177 TryzI177 := tiok Tryz.type177 rfl rfl rfl rfl (by intro h; first | rfl | cases h) ⟨_, Tryz.underlying177, (by intro x h; cases h), (by intro x y h; cases h)⟩ (by decide) rfl (by decide) (.inl rfl)
theorem TryzI178_ok : TIok Tryz.prog 178 TryzI178 := tiok Tryz.type178 rfl rfl rfl rfl (by intro h; first | rfl | cases h) ⟨_, Tryz.underlying178, (by intro x h; cases h), (by intro x y h; cases h)⟩ (by decide) rfl (by decide) (.inl rfl)
theorem TryzI179_ok : TIok Tryz.prog 179 TryzI179 := tiok Tryz.type179 rfl rfl rfl rfl (by intro h; first | rfl | cases h) ⟨_, Tryz.underlying179, (by intro x h; cases h), (by intro x y h; cases h)⟩ (by decide) rfl (by decide) (.inl rfl)
theorem TryzI180_ok : TIok Tryz.prog 180 TryzI180 := tiok Tryz.type180 rfl rfl rfl rfl (by intro h; first | rfl | cases h) ⟨_, Tryz.underlying180, (by intro x h; cases h), (by intro x y h; cases h)⟩ (by decide) rfl (by decide) (.inl rfl)
theorem TryzI181_ok : TIok Tryz.prog 181 TryzI181 := tiok Tryz.type181 rfl rfl rfl rfl (by intro h; first | rfl | cases h) Tryz.underlying181 (by decide) rfl (by decide) (.inl rfl)
theorem TryzI182_ok : TIok Tryz.prog 182 TryzI182 := tiok Tryz.type182 rfl rfl rfl rfl (by intro h; first | rfl | cases h) Tryz.underlying182 (by decide) rfl (by decide) (.inl rfl)
theorem TryzI183_ok : TIok Tryz.prog 183 TryzI183 := tiok Tryz.type183 rfl rfl rfl rfl (by intro h; first | rfl | cases h) ⟨_, Tryz.underlying183, (by intro x h; cases h), (by intro x y h; cases h)⟩ (by decide) rfl (by decide) (.inl rfl)
theorem TryzI184_ok : TIok Tryz.prog 184 TryzI184 := tiok Tryz.type184 rfl rfl rfl rfl (by intro h; first | rfl | cases h) Tryz.underlying184 (by decide) rfl (by decide) (.inl rfl)
theorem TryzI185_ok : TIok Tryz.prog 185 TryzI185 := tiok Tryz.type185 rfl rfl rfl rfl (by intro h; first | rfl | cases h) ⟨_, Tryz.underlying185, (by intro x h; cases h), (by intro x y h; cases h)⟩ (by decide) rfl (by decide) (.inl rfl)
theorem TryzI186_ok : TIok Tryz.prog 186 TryzI186 := tiok Tryz.type186 rfl rfl rfl rfl (by intro h; first | rfl | cases h) Tryz.underlying186 (by decide) rfl (by decide) (.inl rfl)
theorem TryzI187_ok : TIok Tryz.prog 187 TryzI187 := tiok Tryz.type187 rfl rfl rfl rfl (by intro h; first | rfl | cases h) Tryz.underlying187 (by decide) rfl (by decide) (.inl rfl)
theorem TryzI188_ok : TIok Tryz.prog 188 TryzI188 := tiok Tryz.type188 rfl rfl rfl rfl (by intro h; first | rfl | cases h) ⟨_, Tryz.underlying188, (by intro x h; cases h), (by intro x y h; cases h)⟩ (by decide) rfl (by decide) (.inl rfl)
theorem TryzI189_ok : TIok Tryz.prog 189 TryzI189 := tiok Tryz.type189 rfl rfl rfl rfl (by intro h; first | rfl | cases h) ⟨_, Tryz.underlying189, (by intro x h; cases h), (by intro x y h; cases h)⟩ (by decide) rfl (by decide) (.inl rfl)
theorem TryzI190_ok : TIok Tryz.prog 190 TryzI190 := tiok Tryz.type190 rfl rfl rfl rfl (by intro h; first | rfl | cases h) Tryz.underlying190 (by decide) rfl (by decide) (.inl rfl)
theorem TryzI191_ok : TIok Tryz.prog 191 TryzI191 := tiok Tryz.type191 rfl rfl rfl rfl (by intro h; first | rfl | cases h) ⟨_, Tryz.underlying191, (by intro x h; cases h), (by intro x y h; cases h)⟩ (by decide) rfl (by decide) (.inl rfl)
theorem TryzI192_ok : TIok Tryz.prog 192 TryzI192 := tiok Tryz.type192 rfl rfl rfl rfl (by intro h; first | rfl | cases h) ⟨_, Tryz.underlying192, (by intro x h; cases h), (by intro x y h; cases h)⟩ (by decide) rfl (by decide) (.inl rfl)
theorem TryzI193_ok : TIok Tryz.prog 193 TryzI193 := tiok Tryz.type193 rfl rfl rfl rfl (by intro h; first | rfl | cases h) ⟨_, Tryz.underlying193, (by intro x h; cases h), (by intro x y h; cases h)⟩ (by decide) rfl (by decide) (.inl rfl)
theorem TryzI194_ok : TIok Tryz.prog 194 TryzI194 := tiok Tryz.type194 rfl rfl rfl rfl (by intro h; first | rfl | cases h) ⟨_, Tryz.underlying194, (by intro x h; cases h), (by intro x y h; cases h)⟩ (by decide) rfl (by decide) (.inl rfl)
theorem TryzI195_ok : TIok Tryz.prog 195 TryzI195 := tiok Tryz.type195 rfl rfl rfl rfl (by intro h; first | rfl | cases h) Tryz.underlying195 (by decide) rfl (by decide) (.inl rfl)
theorem TryzI197_ok : TIok Tryz.prog 197 TryzI197 := tiok Tryz.type197 rfl rfl rfl rfl (by intro h; first | rfl | cases h) ⟨_, Tryz.underlying197, (by intro x h; cases h), (by intro x y h; cases h)⟩ (by decide) rfl (by decide) (.inl rfl)
theorem TryzI198_ok : TIok Tryz.prog 198 TryzI198 := tiok Tryz.type198 rfl rfl rfl rfl (by intro h; first | rfl | cases h) ⟨_, Tryz.underlying198, (by intro x h; cases h), (by intro x y h; cases h)⟩ (by decide) rfl (by decide) (.inl rfl)
theorem TryzI199_ok : TIok Tryz.prog 199 TryzI199 := tiok Tryz.type199 rfl rfl rfl rfl (by intro h; first | rfl | cases h) ⟨_, Tryz.underlying199, (by intro x h; cases h), (by intro x y h; cases h)⟩ (by decide) rfl (by decide) (.inl rfl)
theorem TryzI200_ok : TIok Tryz.prog 200 TryzI200 := tiok Tryz.type200 rfl rfl rfl rfl (by intro h; first | rfl | cases h) ⟨_, Tryz.underlying200, (by intro x h; cases h), (by intro x y h; cases h)⟩ (by decide) rfl (by decide) (.inl rfl)
theorem TryzI201_ok : TIok Tryz.prog 201 TryzI201 := tiok Tryz.type201 rfl rfl rfl rfl (by intro h; first | rfl | cases h) ⟨_, Tryz.underlying201, (by intro x h; cases h), (by intro x y h; cases h)⟩ (by decide) rfl (by decide) (.inl rfl)
theorem TryzI202_ok : TIok Tryz.prog 202 TryzI202 := tiok Tryz.type202 rfl rfl rfl rfl (by intro h; first | rfl | cases h) ⟨_, Tryz.underlying202, (by intro x h; cases h), (by intro x y h; cases h)⟩ (by decide) rfl (by decide) (.inl rfl)
theorem TryzI204_ok : TIok Tryz.prog 204 TryzI204 := tiok Tryz.type204 rfl rfl rfl rfl (by intro h; first | rfl | cases h) ⟨_, Tryz.underlying204, (by intro x h; cases h), (by intro x y h; cases h)⟩ (by decide) rfl (by decide) (.inl rfl)
theorem TryzI205_ok : TIok Tryz.prog 205 TryzI205 := tiok Tryz.type205 rfl rfl rfl rfl (by intro h; first | rfl | cases h) ⟨_, Tryz.underlying205, (by intro x h; cases h), (by intro x y h; cases h)⟩ (by decide) rfl (by decide) (.inl rfl)
theorem TryzI206_ok : TIok Tryz.prog 206 TryzI206 := tiok Tryz.type206 rfl rfl rfl rfl (by intro h; first | rfl | cases h) ⟨_, Tryz.underlying206, (by intro x h; cases h), (by intro x y h; cases h)⟩ (by decide) rfl (by decide) (.inl rfl)
theorem TryzI207_ok : TIok Tryz.prog 207 TryzI207 := tiok Tryz.type207 rfl rfl rfl rfl (by intro h; first | rfl | cases h) Tryz.underlying207 (by decide) rfl (by decide) (.inl rfl)
theorem TryzI209_ok : TIok Tryz.prog 209 TryzI209 := tiok Tryz.type209 rfl rfl rfl rfl (by intro h; first | rfl | cases h) ⟨_, Tryz.underlying209, (by intro x h; cases h), (by intro x y h; cases h)⟩ (by decide) rfl (by decide) (.inl rfl)
theorem TryzI210_ok : TIok Tryz.prog 210 TryzI210 := tiok Tryz.type210 rfl rfl rfl rfl (by intro h; first | rfl | cases h) ⟨_, Tryz.underlying210, (by intro x h; cases h), (by intro x y h; cases h)⟩ (by decide) rfl (by decide) (.inl rfl)
theorem TryzI211_ok : TIok Tryz.prog 211 TryzI211 := tiok Tryz.type211 rfl rfl rfl rfl (by intro h; first | rfl | cases h) ⟨_, Tryz.underlying211, (by intro x h; cases h), (by intro x y h; cases h)⟩ (by decide) rfl (by decide) (.inl rfl)
theorem TryzI212_ok : TIok Tryz.prog 212 TryzI212 := tiok Tryz.type212 rfl rfl rfl rfl (by intro h; first | rfl | cases h) ⟨_, Tryz.underlying212, (by intro x h; cases h), (by intro x y h; cases h)⟩ (by decide) rfl (by decide) (.inl rfl)
theorem TryzI213_ok : TIok Tryz.prog 213 TryzI213 := tiok Tryz.type213 rfl rfl rfl rfl (by intro h; first | rfl | cases h) ⟨_, Tryz.underlying213, (by intro x h; cases h), (by intro x y h; cases h)⟩ (by decide) rfl (by decide) (.inl rfl)
theorem TryzI214_ok : TIok Tryz.prog 214 TryzI214 := tiok Tryz.type214 rfl rfl rfl rfl (by intro h; first | rfl | cases h) Tryz.underlying214 (by decide) rfl (by decide) (.inl rfl)
theorem TryzI215_ok : TIok Tryz.prog 215 TryzI215 := tiok Tryz.type215 rfl rfl rfl rfl (by intro h; first | rfl | cases h) ⟨_, Tryz.underlying215, (by intro x h; cases h), (by intro x y h; cases h)⟩ (by decide) rfl (by decide) (.inl rfl)
theorem TryzI216_ok : TIok Tryz.prog 216 TryzI216 := tiok Tryz.type216 rfl rfl rfl rfl (by intro h; first | rfl | cases h) Tryz.underlying216 (by decide) rfl (by decide) (.inl rfl)
theorem TryzI217_ok : TIok Tryz.prog 217 TryzI217 := tiok Tryz.type217 rfl rfl rfl rfl (by intro h; first | rfl | cases h) ⟨_, Tryz.underlying217, (by intro x h; cases h), (by intro x y h; cases h)⟩ (by decide) rfl (by decide) (.inl rfl)
theorem TryzI218_ok : TIok Tryz.prog 218 TryzI218 := tiok Tryz.type218 rfl rfl rfl rfl (by intro h; first | rfl | cases h) ⟨_, Tryz.underlying218, (by intro x h; cases h), (by intro x y h; cases h)⟩ (by decide) rfl (by decide) (.inl rfl)
theorem TryzI219_ok : TIok Tryz.prog 219 TryzI219 := tiok Tryz.type219 rfl rfl rfl rfl (by intro h; first | rfl | cases h) ⟨_, Tryz.underlying219, (by intro x h; cases h), (by intro x y h; cases h)⟩ (by decide) rfl (by decide) (.inl rfl)
theorem TryzI220_ok : TIok Tryz.prog 220 TryzI220 := tiok Tryz.type220 rfl rfl rfl rfl (by intro h; first | rfl | cases h) Tryz.underlying220 (by decide) rfl (by decide) (.inl rfl)
theorem TryzI221_ok : TIok Tryz.prog 221 TryzI221 := tiok Tryz.type221 rfl rfl rfl rfl (by intro h; first | rfl | cases h) ⟨_, Tryz.underlying221, (by intro x h; cases h), (by intro x y h; cases h)⟩ (by decide) rfl (by decide) (.inl rfl)
theorem TryzI223_ok : TIok Tryz.prog 223 TryzI223 := tiok Tryz.type223 rfl rfl rfl rfl (by intro h; first | rfl | cases h) ⟨_, Tryz.underlying223, (by intro x h; cases h), (by intro x y h; cases h)⟩ (by decide) rfl (by decide) (.inl rfl)
theorem TryzI224_ok : TIok Tryz.prog 224 TryzI224 := tiok Tryz.type224 rfl rfl rfl rfl (by intro h; first | rfl | cases h) Tryz.underlying224 (by decide) rfl (by decide) (.inl rfl)
theorem TryzI225_ok : TIok Tryz.prog 225 TryzI225 := tiok Tryz.type225 rfl rfl rfl rfl (by intro h; first | rfl | cases h) ⟨_, Tryz.underlying225, (by intro x h; cases h), (by intro x y h; cases h)⟩ (by decide) rfl (by decide) (.inl rfl)
theorem TryzI226_ok : TIok Tryz.prog 226 TryzI226 := tiok Tryz.type226 rfl rfl rfl rfl (by intro h; first | rfl | cases h) ⟨_, Tryz.underlying226, (by intro x h; cases h), (by intro x y h; cases h)⟩ (by decide) rfl (by decide) (.inl rfl)
theorem TryzI227_ok : TIok Tryz.prog 227 TryzI227 := tiok Tryz.type227 rfl rfl rfl rfl (by intro h; first | rfl | cases h) ⟨_, Tryz.underlying227, (by intro x h; cases h), (by intro x y h; cases h)⟩ (by decide) rfl (by decide) (.inl rfl)
theorem TryzI228_ok : TIok Tryz.prog 228 TryzI228 := tiok Tryz.type228 rfl rfl rfl rfl (by intro h; first | rfl | cases h) ⟨_, Tryz.underlying228, (by intro x h; cases h), (by intro x y h; cases h)⟩ (by decide) rfl (by decide) (.inl rfl)
theorem TryzI229_ok : TIok Tryz.prog 229 TryzI229 := tiok Tryz.type229 rfl rfl rfl rfl (by intro h; first | rfl | cases h) ⟨_, Tryz.underlying229, (by intro x h; cases h), (by intro x y h; cases h)⟩ (by decide) rfl (by decide) (.inl rfl)
theorem TryzI230_ok : TIok Tryz.prog 230 TryzI230 := tiok Tryz.type230 rfl rfl rfl rfl (by intro h; first | rfl | cases h) Tryz.underlying230 (by decide) rfl (by decide) (.inl rfl)
theorem TryzI232_ok : TIok Tryz.prog 232 TryzI232 := tiok Tryz.type232 rfl rfl rfl rfl (by intro h; first | rfl | cases h) Tryz.underlying232 (by decide) rfl (by decide) (.inl rfl)
theorem TryzI234_ok : TIok Tryz.prog 234 TryzI234 := tiok Tryz.type234 rfl rfl rfl rfl (by intro h; first | rfl | cases h) ⟨_, Tryz.underlying234, (by intro x h; cases h), (by intro x y h; cases h)⟩ (by decide) rfl (by decide) (.inl rfl)
theorem TryzI235_ok : TIok Tryz.prog 235 TryzI235 := tiok Tryz.type235 rfl rfl rfl rfl (by intro h; first | rfl | cases h) Tryz.underlying235 (by decide) rfl (by decide) (.inl rfl)
theorem TryzI236_ok : TIok Tryz.prog 236 TryzI236 := tiok Tryz.type236 rfl rfl rfl rfl (by intro h; first | rfl | cases h) Tryz.underlying236 (by decide) rfl (by decide) (.inl rfl)
theorem TryzI237_ok : TIok Tryz.prog 237 TryzI237 := tiok Tryz.type237 rfl rfl rfl rfl (by intro h; first | rfl | cases h) (kind_struct Tryz.underlying237 (.cons ⟨rfl, ⟨_, Tryz.type17, rfl⟩, by decide, Tryz.isAgg17⟩ (.cons ⟨rfl, ⟨_, Tryz.type17, rfl⟩, by decide, Tryz.isAgg17⟩ (.cons ⟨rfl, ⟨_, Tryz.type17, rfl⟩, by decide, Tryz.isAgg17⟩ (.cons ⟨rfl, ⟨_, Tryz.type9, rfl⟩, by decide, Tryz.isAgg9⟩ .nil))))) (by decide) rfl (by decide) (.inl rfl)
theorem TryzI238_ok : TIok Tryz.prog 238 TryzI238 := tiok Tryz.type238 rfl rfl rfl rfl (by intro h; first | rfl | cases h) (kind_struct Tryz.underlying238 (.cons ⟨rfl, ⟨_, Tryz.type17, rfl⟩, by decide, Tryz.isAgg17⟩ (.cons ⟨rfl, ⟨_, Tryz.type17, rfl⟩, by decide, Tryz.isAgg17⟩ (.cons ⟨rfl, ⟨_, Tryz.type17, rfl⟩, by decide, Tryz.isAgg17⟩ (.cons ⟨rfl, ⟨_, Tryz.type9, rfl⟩, by decide, Tryz.isAgg9⟩ .nil))))) (by decide) rfl (by decide) (.inl rfl)
theorem TryzI242_ok : TIok Tryz.prog 242 TryzI242 := tiok Tryz.type242 rfl rfl rfl rfl (by intro h; first | rfl | cases h) Tryz.underlying242 (by decide) rfl (by decide) (.inl rfl)
theorem TryzI243_ok : TIok Tryz.prog 243 TryzI243 := tiok Tryz.type243 rfl rfl rfl rfl (by intro h; first | rfl | cases h) Tryz.underlying243 (by decide) rfl (by decide) (.inl rfl)
theorem TryzI244_ok : TIok Tryz.prog 244 TryzI244 := tiok Tryz.type244 rfl rfl rfl rfl (by intro h; first | rfl | cases h) ⟨_, Tryz.underlying244, (by intro x h; cases h), (by intro x y h; cases h)⟩ (by decide) rfl (by decide) (.inl rfl)
theorem TryzI245_ok : TIok Tryz.prog 245 TryzI245 := tiok Tryz.type245 rfl rfl rfl rfl (by intro h; first | rfl | cases h) Tryz.underlying245 (by decide) rfl (by decide) (.inl rfl)
theorem TryzI246_ok : TIok Tryz.prog 246 TryzI246 := tiok Tryz.type246 rfl rfl rfl rfl (by intro h; first | rfl | cases h) Tryz.underlying246 (by decide) rfl (by decide) (.inl rfl)
theorem TryzI247_ok : TIok Tryz.prog 247 TryzI247 := tiok Tryz.type247 rfl rfl rfl rfl (by intro h; first | rfl | cases h) (kind_struct Tryz.underlying247 (.cons ⟨rfl, ⟨_, Tryz.type12, rfl⟩, by decide, Tryz.isAgg12⟩ (.cons ⟨rfl, ⟨_, Tryz.type12, rfl⟩, by decide, Tryz.isAgg12⟩ (.cons ⟨rfl, ⟨_, Tryz.type214, rfl⟩, by decide, Tryz.isAgg214⟩ (.cons ⟨rfl, ⟨_, Tryz.type242, rfl⟩, by decide, Tryz.isAgg242⟩ (.cons ⟨rfl, ⟨_, Tryz.type5, rfl⟩, by decide, Tryz.isAgg5⟩ (.cons ⟨rfl, ⟨_, Tryz.type5, rfl⟩, by decide, Tryz.isAgg5⟩ (.cons ⟨rfl, ⟨_, Tryz.type243, rfl⟩, by decide, Tryz.isAgg243⟩ (.cons ⟨rfl, ⟨_, Tryz.type244, rfl⟩, by decide, Tryz.isAgg244⟩ (.cons ⟨rfl, ⟨_, Tryz.type186, rfl⟩, by decide, Tryz.isAgg186⟩ (.cons ⟨rfl, ⟨_, Tryz.type245, rfl⟩, by decide, Tryz.isAgg245⟩ (.cons ⟨rfl, ⟨_, Tryz.type246, rfl⟩, by decide, Tryz.isAgg246⟩ .nil)))))))))))) (by decide) rfl (by decide) (.inl rfl)
theorem TryzI248_ok : TIok Tryz.prog 248 TryzI248 := tiok Tryz.type248 rfl rfl rfl rfl (by intro h; first | rfl | cases h) (kind_struct Tryz.underlying248 (.cons ⟨rfl, ⟨_, Tryz.type12, rfl⟩, by decide, Tryz.isAgg12⟩ (.cons ⟨rfl, ⟨_, Tryz.type12, rfl⟩, by decide, Tryz.isAgg12⟩ (.cons ⟨rfl, ⟨_, Tryz.type214, rfl⟩, by decide, Tryz.isAgg214⟩ (.cons ⟨rfl, ⟨_, Tryz.type242, rfl⟩, by decide, Tryz.isAgg242⟩ (.cons ⟨rfl, ⟨_, Tryz.type5, rfl⟩, by decide, Tryz.isAgg5⟩ (.cons ⟨rfl, ⟨_, Tryz.type5, rfl⟩, by decide, Tryz.isAgg5⟩ (.cons ⟨rfl, ⟨_, Tryz.type243, rfl⟩, by decide, Tryz.isAgg243⟩ (.cons ⟨rfl, ⟨_, Tryz.type244, rfl⟩, by decide, Tryz.isAgg244⟩ (.cons ⟨rfl, ⟨_, Tryz.type186, rfl⟩, by decide, Tryz.isAgg186⟩ (.cons ⟨rfl, ⟨_, Tryz.type245, rfl⟩, by decide, Tryz.isAgg245⟩ (.cons ⟨rfl, ⟨_, Tryz.type246, rfl⟩, by decide, Tryz.isAgg246⟩ .nil)))))))))))) (by decide) rfl (by decide) (.inl rfl)
def TryzT : TT := [
  (1, TryzI1),
  (2, TryzI2),
  (3, TryzI3),
  (4, TryzI4),
  (5, TryzI5),
  (6, TryzI6),
  (7, TryzI7),
  (8, TryzI8),
  (9, TryzI9),
  (10, TryzI10),
  (11, TryzI11),
  (12, TryzI12),
  (13, TryzI13),
  (14, TryzI14),
  (15, TryzI15),
  (16, TryzI16),
  (17, TryzI17),
  (18, TryzI18),
  (19, TryzI19),
  (20, TryzI20),
  (21, TryzI21),
  (22, TryzI22),
  (23, TryzI23),
  (24, TryzI24),
  (25, TryzI25),
  (26, TryzI26),
  (27, TryzI27),
  (28, TryzI28),
  (29, TryzI29),
  (30, TryzI30),
  (31, TryzI31),
  (32, TryzI32),
  (33, TryzI33),
  (34, TryzI34),
  (35, TryzI35),
  (36, TryzI36),
  (38, TryzI38),
  (39, TryzI39),
  (40, TryzI40),
  (41, TryzI41),
  (42, TryzI42),
  (43, TryzI43),
  (44, TryzI44),
  (45, TryzI45),
  (46, TryzI46),
  (47, TryzI47),
  (48, TryzI48),
  (49, TryzI49),
  (50, TryzI50),
  (51, TryzI51),
  (53, TryzI53),
  (54, TryzI54),
  (55, TryzI55),
  (56, TryzI56),
  (57, TryzI57),
  (58, TryzI58),
  (59, TryzI59),
  (60, TryzI60),
  (61, TryzI61),
  (62, TryzI62),
  (63, TryzI63),
  (64, TryzI64),
  (66, TryzI66),
  (67, TryzI67),
  (68, TryzI68),
  (69, TryzI69),
  (70, TryzI70),
  (71, TryzI71),
  (72, TryzI72),
  (73, TryzI73),
  (75, TryzI75),
  (76, TryzI76),
  (77, TryzI77),
  (79, TryzI79),
  (80, TryzI80),
  (82, TryzI82),
  (83, TryzI83),
  (84, TryzI84),
  (85, TryzI85),
  (86, TryzI86),
  (87, TryzI87),
  (88, TryzI88),
  (89, TryzI89),
  (91, TryzI91),
  (92, TryzI92),
  (93, TryzI93),
  (94, TryzI94),
  (95, TryzI95),
  (96, TryzI96),
  (97, TryzI97),
  (98, TryzI98),
  (99, TryzI99),
  (100, TryzI100),
  (101, TryzI101),
  (102, TryzI102),
  (103, TryzI103),
  (104, TryzI104),
  (105, TryzI105),
  (106, TryzI106),
  (107, TryzI107),
  (108, TryzI108),
  (109, TryzI109),
  (110, TryzI110),
  (111, TryzI111),
  (112, TryzI112),
  (113, TryzI113),
  (114, TryzI114),
  (115, TryzI115),
  (117, TryzI117),
  (118, TryzI118),
  (120, TryzI120),
  (121, TryzI121),
  (122, TryzI122),
  (123, TryzI123),
  (124, TryzI124),
  (125, TryzI125),
  (126, TryzI126),
  (127, TryzI127),
  (129, TryzI129),
  (130, TryzI130),
  (131, TryzI131),
  (132, TryzI132),
  (133, TryzI133),
  (134, TryzI134),
  (135, TryzI135),
  (136, TryzI136),
  (137, TryzI137),
  (138, TryzI138),
  (139, TryzI139),
  (141, TryzI141),
  (142, TryzI142),
  (143, TryzI143),
  (144, TryzI144),
  (145, TryzI145),
  (147, TryzI147),
  (148, TryzI148),
  (149, TryzI149),
  (150, TryzI150),
  (151, TryzI151),
  (152, TryzI152),
  (153, TryzI153),
  (155, TryzI155),
  (156, TryzI156),
  (157, TryzI157),
  (158, TryzI158),
  (160, TryzI160),
  (161, TryzI161),
  (162, TryzI162),
  (163, TryzI163),
  (164, TryzI164),
  (165, TryzI165),
  (166, TryzI166),
  (167, TryzI167),
  (168, TryzI168),
  (169, TryzI169),
  (170, TryzI170),
  (171, TryzI171),
  (172, TryzI172),
  (173, TryzI173),
  (174, TryzI174),
  (175, TryzI175),
  (176, TryzI176),
  (177, TryzI177),
  (178, TryzI178),
  (179, TryzI179),
  (180, TryzI180),
  (181, TryzI181),
  (182, TryzI182),
  (183, TryzI183),
  (184, TryzI184),
  (185, TryzI185),
  (186, TryzI186),
  (187, TryzI187),
  (188, TryzI188),
  (189, TryzI189),
  (190, TryzI190),
  (191, TryzI191),
  (192, TryzI192),
  (193, TryzI193),
  (194, TryzI194),
  (195, TryzI195),
  (197, TryzI197),
  (198, TryzI198),
  (199, TryzI199),
  (200, TryzI200),
  (201, TryzI201),
  (202, TryzI202),
  (204, TryzI204),
  (205, TryzI205),
  (206, TryzI206),
  (207, TryzI207),
  (209, TryzI209),
  (210, TryzI210),
  (211, TryzI211),
  (212, TryzI212),
  (213, TryzI213),
  (214, TryzI214),
  (215, TryzI215),
  (216, TryzI216),
  (217, TryzI217),
  (218, TryzI218),
  (219, TryzI219),
  (220, TryzI220),
  (221, TryzI221),
  (223, TryzI223),
  (224, TryzI224),
  (225, TryzI225),
  (226, TryzI226),
  (227, TryzI227),
  (228, TryzI228),
  (229, TryzI229),
  (230, TryzI230),
  (232, TryzI232),
  (234, TryzI234),
  (235, TryzI235),
  (236, TryzI236),
  (237, TryzI237),
  (238, TryzI238),
  (242, TryzI242),
  (243, TryzI243),
  (244, TryzI244),
  (245, TryzI245),
  (246, TryzI246),
  (247, TryzI247),
  (248, TryzI248)]
theorem Tk : TOk Tryz.prog TryzT := tok_of ⟨TryzI1_ok, TryzI2_ok, TryzI3_ok, TryzI4_ok, TryzI5_ok, TryzI6_ok, TryzI7_ok, TryzI8_ok, TryzI9_ok, TryzI10_ok, TryzI11_ok, TryzI12_ok, TryzI13_ok, TryzI14_ok, TryzI15_ok, TryzI16_ok, TryzI17_ok, TryzI18_ok, TryzI19_ok, TryzI20_ok, TryzI21_ok, TryzI22_ok, TryzI23_ok, TryzI24_ok, TryzI25_ok, TryzI26_ok, TryzI27_ok, TryzI28_ok, TryzI29_ok, TryzI30_ok, TryzI31_ok, TryzI32_ok, TryzI33_ok, TryzI34_ok, TryzI35_ok, TryzI36_ok, TryzI38_ok, TryzI39_ok, TryzI40_ok, TryzI41_ok, TryzI42_ok, TryzI43_ok, TryzI44_ok, TryzI45_ok, TryzI46_ok, TryzI47_ok, TryzI48_ok, TryzI49_ok, TryzI50_ok, TryzI51_ok, TryzI53_ok, TryzI54_ok, TryzI55_ok, TryzI56_ok, TryzI57_ok, TryzI58_ok, TryzI59_ok, TryzI60_ok, TryzI61_ok, TryzI62_ok, TryzI63_ok, TryzI64_ok, TryzI66_ok, TryzI67_ok, TryzI68_ok, TryzI69_ok, TryzI70_ok, TryzI71_ok, TryzI72_ok, TryzI73_ok, TryzI75_ok, TryzI76_ok, TryzI77_ok, TryzI79_ok, TryzI80_ok, TryzI82_ok, TryzI83_ok, TryzI84_ok, TryzI85_ok, TryzI86_ok, TryzI87_ok, TryzI88_ok, TryzI89_ok, TryzI91_ok, TryzI92_ok, TryzI93_ok, TryzI94_ok, TryzI95_ok, TryzI96_ok, TryzI97_ok, TryzI98_ok, TryzI99_ok, TryzI100_ok, TryzI101_ok, TryzI102_ok, TryzI103_ok, TryzI104_ok, TryzI105_ok, TryzI106_ok, TryzI107_ok, TryzI108_ok, TryzI109_ok, TryzI110_ok, TryzI111_ok, TryzI112_ok, TryzI113_ok, TryzI114_ok, TryzI115_ok, TryzI117_ok, TryzI118_ok, TryzI120_ok, TryzI121_ok, TryzI122_ok, TryzI123_ok, TryzI124_ok, TryzI125_ok, TryzI126_ok, TryzI127_ok, TryzI129_ok, TryzI130_ok, TryzI131_ok, TryzI132_ok, TryzI133_ok, TryzI134_ok, TryzI135_ok, TryzI136_ok, TryzI137_ok, TryzI138_ok, TryzI139_ok, TryzI141_ok, TryzI142_ok, TryzI143_ok, TryzI144_ok, TryzI145_ok, TryzI147_ok, TryzI148_ok, TryzI149_ok, TryzI150_ok, TryzI151_ok, TryzI152_ok, TryzI153_ok, TryzI155_ok, TryzI156_ok, TryzI157_ok, TryzI158_ok, TryzI160_ok, TryzI161_ok, TryzI162_ok, TryzI163_ok, TryzI164_ok, TryzI165_ok, TryzI166_ok, TryzI167_ok, TryzI168_ok, TryzI169_ok, TryzI170_ok, TryzI171_ok, TryzI172_ok, TryzI173_ok, TryzI174_ok, TryzI175_ok, TryzI176_ok, TryzI177_ok, TryzI178_ok, TryzI179_ok, TryzI180_ok, TryzI181_ok, TryzI182_ok, TryzI183_ok, TryzI184_ok, TryzI185_ok, TryzI186_ok, TryzI187_ok, TryzI188_ok, TryzI189_ok, TryzI190_ok, TryzI191_ok, TryzI192_ok, TryzI193_ok, TryzI194_ok, TryzI195_ok, TryzI197_ok, TryzI198_ok, TryzI199_ok, TryzI200_ok, TryzI201_ok, TryzI202_ok, TryzI204_ok, TryzI205_ok, TryzI206_ok, TryzI207_ok, TryzI209_ok, TryzI210_ok, TryzI211_ok, TryzI212_ok, TryzI213_ok, TryzI214_ok, TryzI215_ok, TryzI216_ok, TryzI217_ok, TryzI218_ok, TryzI219_ok, TryzI220_ok, TryzI221_ok, TryzI223_ok, TryzI224_ok, TryzI225_ok, TryzI226_ok, TryzI227_ok, TryzI228_ok, TryzI229_ok, TryzI230_ok, TryzI232_ok, TryzI234_ok, TryzI235_ok, TryzI236_ok, TryzI237_ok, TryzI238_ok, TryzI242_ok, TryzI243_ok, TryzI244_ok, TryzI245_ok, TryzI246_ok, TryzI247_ok, TryzI248_ok, trivial⟩
end Go.AI


namespace Go.AI
open Go.Proofs
set_option maxRecDepth 20000
theorem mixedT : Tryz.prog.follows .mixedOrders = true := rfl
theorem isNaN91 (O : List Heap) (a : Int) : ASpec Tryz.prog 147 [ii a] O (bb false) [] O := by
  refine aspec_intro Tk Tryz.func147 rfl Tryz.call147 Tryz.ntmps147 (Nat.le_of_ble_eq_true rfl) fun E => ?_
  refine rch_run Tk Tryz.func147 ?_
  refine m_ret' (hT := Tk) (r := bb _) rfl rfl rfl trivial rfl rfl ?_
  simp
theorem isNaN83 (O : List Heap) (a : Int) : ASpec Tryz.prog 134 [ii a] O (bb false) [] O := by
  refine aspec_intro Tk Tryz.func134 rfl Tryz.call134 Tryz.ntmps134 (Nat.le_of_ble_eq_true rfl) fun E => ?_
  refine rch_run Tk Tryz.func134 ?_
  refine m_ret' (hT := Tk) (r := bb _) rfl rfl rfl trivial rfl rfl ?_
  simp
theorem less82 (O : List Heap) (a b : Int) : ASpec Tryz.prog 129 [ii a, ii b] O (bb (decide (a < b))) [] O := by
  refine aspec_intro Tk Tryz.func129 rfl Tryz.call129 Tryz.ntmps129 (Nat.le_of_ble_eq_true rfl) fun E => ?_
  refine rch_run Tk Tryz.func129 ?_
  refine m_call Tk Tryz.func129 (isNaN91 _ a) rfl rfl rfl rfl rfl ?_
  refine m_know Tk Tryz.func129 rfl (fun h1 => by cases h1) (fun _ => ?_)
  refine m_know Tk Tryz.func129 rfl (fun h1 => by cases h1) (fun _ => ?_)
  refine m_ret' (hT := Tk) (r := bb _) rfl rfl rfl trivial rfl rfl ?_
  rfl
end Go.AI
