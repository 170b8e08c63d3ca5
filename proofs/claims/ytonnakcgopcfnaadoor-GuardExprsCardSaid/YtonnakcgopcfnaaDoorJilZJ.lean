/- The layer of abstract runs, part 36. -/
import Derived.Test.YtonnakcgopcfnaaDoorJilZI
import Derived.Shelf.Strings.Builder1
import Derived.Shelf.Strconv.Itoa0
import Derived.Shelf.Strconv.Itoa1
import Derived.Shelf.LaysM
import Derived.Shelf.Strconv.Itoa2
import Derived.Shelf.Strconv.Itoa3
import Derived.Shelf.Slices.Reverse
import Derived.Shelf.Slices.Cells
import Derived.Test.YtonnakcgopcfnaaDoorProg
set_option linter.unusedSimpArgs false
set_option linter.unusedVariables false
set_option linter.all false

/-
  The contracts of strconv.Itoa, slices.Reverse and strings.Builder.String, laid at this program by a tool of the kit (in plain words).
-/
namespace Go.Proofs
open Go.Shelf
def Tryd.lays169_ren : Go.Shelf.Ren := ⟨fun | 169 => 93 | n => n, fun | 70 => 166 | 9 => 9 | 0 => 0 | 72 => 168 | 37 => 38 | 127 => 231 | 3 => 3 | 5 => 5 | n => n, fun | n => n⟩
theorem Tryd.lays169 : Go.Proofs.Lays.n169 Tryd.prog Tryd.lays169_ren := {
  mixed := by kernel_rfl
  f169 := Tryd.func93.trans (congrArg some (by kernel_rfl))
  t0 := Tryd.underlying0
  a0 := Tryd.isAgg0
  z0 := Tryd.sizeOf0
  v0 := Tryd.zeroValue0
  t3 := Tryd.underlying3
  a3 := Tryd.isAgg3
  z3 := Tryd.sizeOf3
  v3 := Tryd.zeroValue3
  t9 := Tryd.underlying9
  a9 := Tryd.isAgg9
  z9 := Tryd.sizeOf9
  v9 := Tryd.zeroValue9
  t37 := Tryd.underlying38
  a37 := Tryd.isAgg38
  z37 := Tryd.sizeOf38
  v37 := Tryd.zeroValue38
  t70 := Tryd.underlying166
  a70 := Tryd.isAgg166
  z70 := Tryd.sizeOf166
  v70 := Tryd.zeroValue166
  t72 := Tryd.underlying168
  a72 := Tryd.isAgg168
  z72 := Tryd.sizeOf168
  v72 := Tryd.zeroValue168
  t127 := Tryd.underlying231
  a127 := Tryd.isAgg231
  z127 := Tryd.sizeOf231
  v127 := Tryd.zeroValue231 }
theorem Tryd.Builder_Extra_169 : Builder.Extra Tryd.prog Tryd.lays169_ren := {
  sizeBuilder := by kernel_rfl
  liesBuilder := by kernel_rfl
  t5 := Tryd.underlying5
  a5 := Tryd.isAgg5
  z5 := Tryd.sizeOf5
  v5 := Tryd.zeroValue5
  infoByte := by kernel_rfl
  cellsByte := by kernel_rfl
  sizeByte := by kernel_rfl
  neB5 := by decide }
def Tryd.laysM171_ren : Go.Shelf.Ren := ⟨fun | 171 => 149 | 243 => 175 | 246 => 188 | 283 => 190 | 284 => 191 | 285 => 192 | 286 => 193 | 129 => 195 | 317 => 194 | 318 => 196 | 319 => 197 | 320 => 198 | 337 => 199 | 338 => 200 | n => n, fun | 3 => 3 | 9 => 9 | 2 => 2 | 4 => 4 | 171 => 265 | 0 => 0 | 53 => 23 | 37 => 38 | 5 => 5 | 173 => 268 | 212 => 271 | 51 => 272 | 20 => 20 | 213 => 273 | 46 => 258 | 232 => 276 | 233 => 277 | n => n, fun | 17 => 0 | 18 => 1 | 19 => 2 | n => n⟩
theorem Tryd.laysM171 : Go.Proofs.LaysM.n171 Tryd.prog Tryd.laysM171_ren := {
  mixed := by kernel_rfl
  f129 := Tryd.func195.trans (congrArg some (by kernel_rfl))
  f171 := Tryd.func149.trans (congrArg some (by kernel_rfl))
  f243 := Tryd.func175.trans (congrArg some (by kernel_rfl))
  f246 := Tryd.func188.trans (congrArg some (by kernel_rfl))
  f283 := Tryd.func190.trans (congrArg some (by kernel_rfl))
  f284 := Tryd.func191.trans (congrArg some (by kernel_rfl))
  f285 := Tryd.func192.trans (congrArg some (by kernel_rfl))
  f286 := Tryd.func193.trans (congrArg some (by kernel_rfl))
  f317 := Tryd.func194.trans (congrArg some (by kernel_rfl))
  f318 := Tryd.func196.trans (congrArg some (by kernel_rfl))
  f319 := Tryd.func197.trans (congrArg some (by kernel_rfl))
  f320 := Tryd.func198.trans (congrArg some (by kernel_rfl))
  f337 := Tryd.func199.trans (congrArg some (by kernel_rfl))
  f338 := Tryd.func200.trans (congrArg some (by kernel_rfl))
  t0 := Tryd.underlying0
  a0 := Tryd.isAgg0
  z0 := Tryd.sizeOf0
  v0 := Tryd.zeroValue0
  t2 := Tryd.underlying2
  a2 := Tryd.isAgg2
  z2 := Tryd.sizeOf2
  v2 := Tryd.zeroValue2
  t3 := Tryd.underlying3
  a3 := Tryd.isAgg3
  z3 := Tryd.sizeOf3
  v3 := Tryd.zeroValue3
  t4 := Tryd.underlying4
  a4 := Tryd.isAgg4
  z4 := Tryd.sizeOf4
  v4 := Tryd.zeroValue4
  t5 := Tryd.underlying5
  a5 := Tryd.isAgg5
  z5 := Tryd.sizeOf5
  v5 := Tryd.zeroValue5
  t9 := Tryd.underlying9
  a9 := Tryd.isAgg9
  z9 := Tryd.sizeOf9
  v9 := Tryd.zeroValue9
  t20 := Tryd.underlying20
  a20 := Tryd.isAgg20
  z20 := Tryd.sizeOf20
  v20 := Tryd.zeroValue20
  t37 := Tryd.underlying38
  a37 := Tryd.isAgg38
  z37 := Tryd.sizeOf38
  v37 := Tryd.zeroValue38
  t46 := Tryd.underlying258
  a46 := Tryd.isAgg258
  z46 := Tryd.sizeOf258
  v46 := Tryd.zeroValue258
  t51 := Tryd.underlying272
  a51 := Tryd.isAgg272
  z51 := Tryd.sizeOf272
  v51 := Tryd.zeroValue272
  t53 := Tryd.underlying23
  a53 := Tryd.isAgg23
  z53 := Tryd.sizeOf23
  v53 := Tryd.zeroValue23
  t171 := Tryd.underlying265
  a171 := Tryd.isAgg265
  z171 := Tryd.sizeOf265
  v171 := Tryd.zeroValue265
  t173 := Tryd.underlying268
  a173 := Tryd.isAgg268
  z173 := Tryd.sizeOf268
  v173 := Tryd.zeroValue268
  t212 := Tryd.underlying271
  a212 := Tryd.isAgg271
  z212 := Tryd.sizeOf271
  v212 := Tryd.zeroValue271
  t213 := Tryd.underlying273
  a213 := Tryd.isAgg273
  z213 := Tryd.sizeOf273
  t232 := Tryd.underlying276
  a232 := Tryd.isAgg276
  z232 := Tryd.sizeOf276
  v232 := Tryd.zeroValue276
  t233 := Tryd.underlying277
  a233 := Tryd.isAgg277
  z233 := Tryd.sizeOf277
  v233 := Tryd.zeroValue277
  g17 := by kernel_rfl
  g18 := by kernel_rfl
  g19 := by kernel_rfl
  i0 := by kernel_rfl
  i2 := by kernel_rfl
  i3 := by kernel_rfl
  i4 := by kernel_rfl
  i5 := by kernel_rfl
  i9 := by kernel_rfl
  i20 := by kernel_rfl
  i37 := by kernel_rfl
  i46 := by kernel_rfl
  i51 := by kernel_rfl
  i53 := by kernel_rfl
  i171 := by kernel_rfl
  i173 := by kernel_rfl
  i212 := by kernel_rfl
  i232 := by kernel_rfl
  i233 := by kernel_rfl
  m17 := by kernel_rfl
  m18 := by kernel_rfl
  m19 := by kernel_rfl }
open Go.RowKit Go.Sort Go.Lib in
/-- strconv.Itoa: "Itoa is equivalent to FormatInt(int64(i), 10).": i's DECIMAL NUMERAL ('Lib.itoa': a '-' where i is negative, then the digits), FOR EVERY int. The world behind the call: the world before it, new blocks behind the heap (the library's 'var a [24]byte'), draws. (LAID: no walk: one application.) -/
theorem Tryd.strconv_Itoa (n : Int) (h0 : -9223372036854775808 ≤ n) (h1 : n ≤ 9223372036854775807) (w : World) (htab : Lib.TabIs Tryd.prog w "internal/strconv.uint64pow10" .u64 Lib.pow10Tab) :
    Calls Tryd.prog 149 #[.int .i64 n] w fun e w' => e = .returned (.string ⟨(Lib.itoa n).toArray⟩) ∧ ∃ k os, w' = grow (w.drewN k) os := Any.strconv_Itoa Tryd.laysM171 n h0 h1 w htab
end Go.Proofs
