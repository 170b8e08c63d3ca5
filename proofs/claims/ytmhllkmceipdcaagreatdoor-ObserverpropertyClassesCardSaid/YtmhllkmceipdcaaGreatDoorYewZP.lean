/- The layer of abstract runs, part 42. -/
import Derived.Test.YtmhllkmceipdcaaGreatDoorYewZO
import Derived.Shelf.Strings.Builder1
import Derived.Shelf.Strconv.Itoa0
import Derived.Shelf.Strconv.Itoa1
import Derived.Shelf.LaysM
import Derived.Shelf.Strconv.Itoa2
import Derived.Shelf.Strconv.Itoa3
import Derived.Shelf.Sort.Plain
import Derived.Shelf.Slices.CompactI
import Derived.Shelf.Slices.Cells
import Derived.Test.YtmhllkmceipdcaaGreatDoorProg
import Derived.KernelRfl
set_option linter.unusedSimpArgs false
set_option linter.unusedVariables false
set_option linter.all false

namespace Go.Proofs
open Go.Shelf
def Tryz.lays169_ren : Go.Shelf.Ren := ⟨fun | 169 => 115 | n => n, fun | 70 => 155 | 9 => 9 | 0 => 0 | 72 => 158 | 37 => 156 | 127 => 178 | 3 => 3 | 5 => 5 | n => n, fun | n => n⟩
theorem Tryz.lays169 : Go.Proofs.Lays.n169 Tryz.prog Tryz.lays169_ren := {
  mixed := by kernel_rfl
  f169 := Tryz.func115.trans (congrArg some (by kernel_rfl))
  t0 := Tryz.underlying0
  a0 := Tryz.isAgg0
  z0 := Tryz.sizeOf0
  v0 := Tryz.zeroValue0
  t3 := Tryz.underlying3
  a3 := Tryz.isAgg3
  z3 := Tryz.sizeOf3
  v3 := Tryz.zeroValue3
  t9 := Tryz.underlying9
  a9 := Tryz.isAgg9
  z9 := Tryz.sizeOf9
  v9 := Tryz.zeroValue9
  t37 := Tryz.underlying156
  a37 := Tryz.isAgg156
  z37 := Tryz.sizeOf156
  v37 := Tryz.zeroValue156
  t70 := Tryz.underlying155
  a70 := Tryz.isAgg155
  z70 := Tryz.sizeOf155
  v70 := Tryz.zeroValue155
  t72 := Tryz.underlying158
  a72 := Tryz.isAgg158
  z72 := Tryz.sizeOf158
  v72 := Tryz.zeroValue158
  t127 := Tryz.underlying178
  a127 := Tryz.isAgg178
  z127 := Tryz.sizeOf178
  v127 := Tryz.zeroValue178 }
theorem Tryz.Builder_Extra_169 : Builder.Extra Tryz.prog Tryz.lays169_ren := {
  sizeBuilder := by kernel_rfl
  liesBuilder := by kernel_rfl
  t5 := Tryz.underlying5
  a5 := Tryz.isAgg5
  z5 := Tryz.sizeOf5
  v5 := Tryz.zeroValue5
  infoByte := by kernel_rfl
  cellsByte := by kernel_rfl
  sizeByte := by kernel_rfl
  neB5 := by decide }
def Tryz.laysM171_ren : Go.Shelf.Ren := ⟨fun | 171 => 113 | 243 => 133 | 246 => 143 | 283 => 146 | 284 => 147 | 285 => 148 | 286 => 149 | 129 => 127 | 317 => 150 | 318 => 151 | 319 => 152 | 320 => 153 | 337 => 154 | 338 => 155 | n => n, fun | 3 => 3 | 9 => 9 | 2 => 2 | 4 => 4 | 171 => 192 | 0 => 0 | 53 => 176 | 37 => 156 | 5 => 5 | 173 => 194 | 212 => 197 | 51 => 174 | 20 => 20 | 213 => 198 | 46 => 134 | 232 => 199 | 233 => 200 | n => n, fun | 17 => 0 | 18 => 1 | 19 => 2 | n => n⟩
theorem Tryz.laysM171 : Go.Proofs.LaysM.n171 Tryz.prog Tryz.laysM171_ren := {
  mixed := by kernel_rfl
  f129 := Tryz.func127.trans (congrArg some (by kernel_rfl))
  f171 := Tryz.func113.trans (congrArg some (by kernel_rfl))
  f243 := Tryz.func133.trans (congrArg some (by kernel_rfl))
  f246 := Tryz.func143.trans (congrArg some (by kernel_rfl))
  f283 := Tryz.func146.trans (congrArg some (by kernel_rfl))
  f284 := Tryz.func147.trans (congrArg some (by kernel_rfl))
  f285 := Tryz.func148.trans (congrArg some (by kernel_rfl))
  f286 := Tryz.func149.trans (congrArg some (by kernel_rfl))
  f317 := Tryz.func150.trans (congrArg some (by kernel_rfl))
  f318 := Tryz.func151.trans (congrArg some (by kernel_rfl))
  f319 := Tryz.func152.trans (congrArg some (by kernel_rfl))
  f320 := Tryz.func153.trans (congrArg some (by kernel_rfl))
  f337 := Tryz.func154.trans (congrArg some (by kernel_rfl))
  f338 := Tryz.func155.trans (congrArg some (by kernel_rfl))
  t0 := Tryz.underlying0
  a0 := Tryz.isAgg0
  z0 := Tryz.sizeOf0
  v0 := Tryz.zeroValue0
  t2 := Tryz.underlying2
  a2 := Tryz.isAgg2
  z2 := Tryz.sizeOf2
  v2 := Tryz.zeroValue2
  t3 := Tryz.underlying3
  a3 := Tryz.isAgg3
  z3 := Tryz.sizeOf3
  v3 := Tryz.zeroValue3
  t4 := Tryz.underlying4
  a4 := Tryz.isAgg4
  z4 := Tryz.sizeOf4
  v4 := Tryz.zeroValue4
  t5 := Tryz.underlying5
  a5 := Tryz.isAgg5
  z5 := Tryz.sizeOf5
  v5 := Tryz.zeroValue5
  t9 := Tryz.underlying9
  a9 := Tryz.isAgg9
  z9 := Tryz.sizeOf9
  v9 := Tryz.zeroValue9
  t20 := Tryz.underlying20
  a20 := Tryz.isAgg20
  z20 := Tryz.sizeOf20
  v20 := Tryz.zeroValue20
  t37 := Tryz.underlying156
  a37 := Tryz.isAgg156
  z37 := Tryz.sizeOf156
  v37 := Tryz.zeroValue156
  t46 := Tryz.underlying134
  a46 := Tryz.isAgg134
  z46 := Tryz.sizeOf134
  v46 := Tryz.zeroValue134
  t51 := Tryz.underlying174
  a51 := Tryz.isAgg174
  z51 := Tryz.sizeOf174
  v51 := Tryz.zeroValue174
  t53 := Tryz.underlying176
  a53 := Tryz.isAgg176
  z53 := Tryz.sizeOf176
  v53 := Tryz.zeroValue176
  t171 := Tryz.underlying192
  a171 := Tryz.isAgg192
  z171 := Tryz.sizeOf192
  v171 := Tryz.zeroValue192
  t173 := Tryz.underlying194
  a173 := Tryz.isAgg194
  z173 := Tryz.sizeOf194
  v173 := Tryz.zeroValue194
  t212 := Tryz.underlying197
  a212 := Tryz.isAgg197
  z212 := Tryz.sizeOf197
  v212 := Tryz.zeroValue197
  t213 := Tryz.underlying198
  a213 := Tryz.isAgg198
  z213 := Tryz.sizeOf198
  t232 := Tryz.underlying199
  a232 := Tryz.isAgg199
  z232 := Tryz.sizeOf199
  v232 := Tryz.zeroValue199
  t233 := Tryz.underlying200
  a233 := Tryz.isAgg200
  z233 := Tryz.sizeOf200
  v233 := Tryz.zeroValue200
  g17 := by kernel_rfl
  g18 := by kernel_rfl
  g19 := by kernel_rfl
  i0 := by kernel_rfl
  i2 := by kernel_rfl
  i3 := by kernel_rfl
  i4 := by kernel_rfl
  i5 := by kernel_rfl
  i9 := by kernel_rfl
  i20 := by kernel_rfl
  i37 := by kernel_rfl
  i46 := by kernel_rfl
  i51 := by kernel_rfl
  i53 := by kernel_rfl
  i171 := by kernel_rfl
  i173 := by kernel_rfl
  i212 := by kernel_rfl
  i232 := by kernel_rfl
  i233 := by kernel_rfl
  m17 := by kernel_rfl
  m18 := by kernel_rfl
  m19 := by kernel_rfl }
open Go.RowKit Go.Sort Go.Lib in
theorem Tryz.strconv_Itoa (n : Int) (h0 : -9223372036854775808 ≤ n) (h1 : n ≤ 9223372036854775807) (w : World) (htab : Lib.TabIs Tryz.prog w "internal/strconv.uint64pow10" .u64 Lib.pow10Tab) :
    Calls Tryz.prog 113 #[.int .i64 n] w fun e w' => e = .returned (.string ⟨(Lib.itoa n).toArray⟩) ∧ ∃ k os, w' = grow (w.drewN k) os := Any.strconv_Itoa Tryz.laysM171 n h0 h1 w htab
def Tryz.lays189_ren : Go.Shelf.Ren := ⟨fun | 189 => 48 | 125 => 90 | 257 => 89 | 128 => 126 | 129 => 127 | 294 => 117 | 295 => 118 | 296 => 119 | 297 => 120 | 298 => 121 | 299 => 122 | 216 => 123 | 300 => 124 | 301 => 125 | 328 => 134 | 329 => 135 | 330 => 136 | 331 => 137 | 332 => 138 | 215 => 139 | 343 => 144 | n => n, fun | 28 => 29 | 3 => 3 | 46 => 134 | 0 => 0 | 51 => 174 | 53 => 176 | 4 => 4 | 183 => 168 | 182 => 167 | 131 => 146 | 5 => 5 | 9 => 9 | 218 => 179 | 222 => 183 | 228 => 190 | 229 => 61 | n => n, fun | n => n⟩
theorem Tryz.lays189 : Go.Proofs.Lays.n189 Tryz.prog Tryz.lays189_ren := {
  mixed := by kernel_rfl
  f125 := Tryz.func90.trans (congrArg some (by kernel_rfl))
  f128 := Tryz.func126.trans (congrArg some (by kernel_rfl))
  f129 := Tryz.func127.trans (congrArg some (by kernel_rfl))
  f189 := Tryz.func48.trans (congrArg some (by kernel_rfl))
  f215 := Tryz.func139.trans (congrArg some (by kernel_rfl))
  f216 := Tryz.func123.trans (congrArg some (by kernel_rfl))
  f257 := Tryz.func89.trans (congrArg some (by kernel_rfl))
  f294 := Tryz.func117.trans (congrArg some (by kernel_rfl))
  f295 := Tryz.func118.trans (congrArg some (by kernel_rfl))
  f296 := Tryz.func119.trans (congrArg some (by kernel_rfl))
  f297 := Tryz.func120.trans (congrArg some (by kernel_rfl))
  f298 := Tryz.func121.trans (congrArg some (by kernel_rfl))
  f299 := Tryz.func122.trans (congrArg some (by kernel_rfl))
  f300 := Tryz.func124.trans (congrArg some (by kernel_rfl))
  f301 := Tryz.func125.trans (congrArg some (by kernel_rfl))
  f328 := Tryz.func134.trans (congrArg some (by kernel_rfl))
  f329 := Tryz.func135.trans (congrArg some (by kernel_rfl))
  f330 := Tryz.func136.trans (congrArg some (by kernel_rfl))
  f331 := Tryz.func137.trans (congrArg some (by kernel_rfl))
  f332 := Tryz.func138.trans (congrArg some (by kernel_rfl))
  f343 := Tryz.func144.trans (congrArg some (by kernel_rfl))
  t0 := Tryz.underlying0
  a0 := Tryz.isAgg0
  z0 := Tryz.sizeOf0
  v0 := Tryz.zeroValue0
  t3 := Tryz.underlying3
  a3 := Tryz.isAgg3
  z3 := Tryz.sizeOf3
  v3 := Tryz.zeroValue3
  t4 := Tryz.underlying4
  a4 := Tryz.isAgg4
  z4 := Tryz.sizeOf4
  v4 := Tryz.zeroValue4
  t5 := Tryz.underlying5
  a5 := Tryz.isAgg5
  z5 := Tryz.sizeOf5
  v5 := Tryz.zeroValue5
  t9 := Tryz.underlying9
  a9 := Tryz.isAgg9
  z9 := Tryz.sizeOf9
  v9 := Tryz.zeroValue9
  t28 := Tryz.underlying29
  a28 := Tryz.isAgg29
  z28 := Tryz.sizeOf29
  v28 := Tryz.zeroValue29
  t46 := Tryz.underlying134
  a46 := Tryz.isAgg134
  z46 := Tryz.sizeOf134
  v46 := Tryz.zeroValue134
  t51 := Tryz.underlying174
  a51 := Tryz.isAgg174
  z51 := Tryz.sizeOf174
  v51 := Tryz.zeroValue174
  t53 := Tryz.underlying176
  a53 := Tryz.isAgg176
  z53 := Tryz.sizeOf176
  v53 := Tryz.zeroValue176
  t131 := Tryz.underlying146
  a131 := Tryz.isAgg146
  z131 := Tryz.sizeOf146
  v131 := Tryz.zeroValue146
  t182 := Tryz.underlying167
  a182 := Tryz.isAgg167
  z182 := Tryz.sizeOf167
  v182 := Tryz.zeroValue167
  t183 := Tryz.underlying168
  a183 := Tryz.isAgg168
  z183 := Tryz.sizeOf168
  v183 := Tryz.zeroValue168
  t218 := Tryz.underlying179
  a218 := Tryz.isAgg179
  z218 := Tryz.sizeOf179
  v218 := Tryz.zeroValue179
  t222 := Tryz.underlying183
  a222 := Tryz.isAgg183
  z222 := Tryz.sizeOf183
  v222 := Tryz.zeroValue183
  t228 := Tryz.underlying190
  a228 := Tryz.isAgg190
  z228 := Tryz.sizeOf190
  v228 := Tryz.zeroValue190
  t229 := Tryz.underlying61
  a229 := Tryz.isAgg61
  z229 := Tryz.sizeOf61
  v229 := Tryz.zeroValue61 }
open Go.Sort Go.RowKit in
theorem Tryz.slices_Sort_int (blk off cap : Nat) (zs : List Int) (w : World) (hH : Holds (Value.int .i64) w blk off zs.toArray) (hblk : blk < w.heap.size) (hsz : zs.length < 4611686018427387904) :
    Calls Tryz.prog 48 #[.slice (some ⟨blk, off, none⟩) zs.length cap] w fun e w' =>
      e = .returned (.tuple #[]) ∧ ∃ n os, w' = grow (putRow (Value.int .i64) (Sort.ahead w n) blk off (zs.mergeSort fun x y => decide (x ≤ y)).toArray) os := Any.slices_Sort_int Tryz.lays189 blk off cap zs w hH hblk hsz
def Tryz.laysNm220_ren : Go.Shelf.Ren := ⟨fun | 20 => 93 | n => n, fun | 22 => 29 | 3 => 3 | 4 => 4 | 0 => 0 | n => n, fun | n => n⟩
theorem Tryz.laysNm220 : Go.Proofs.Lays2.n20 Tryz.prog Tryz.laysNm220_ren := {
  mixed := by kernel_rfl
  f20 := Tryz.func93.trans (congrArg some (by kernel_rfl))
  t0 := Tryz.underlying0
  a0 := Tryz.isAgg0
  z0 := Tryz.sizeOf0
  v0 := Tryz.zeroValue0
  t3 := Tryz.underlying3
  a3 := Tryz.isAgg3
  z3 := Tryz.sizeOf3
  v3 := Tryz.zeroValue3
  t4 := Tryz.underlying4
  a4 := Tryz.isAgg4
  z4 := Tryz.sizeOf4
  v4 := Tryz.zeroValue4
  t22 := Tryz.underlying29
  a22 := Tryz.isAgg29
  z22 := Tryz.sizeOf29
  v22 := Tryz.zeroValue29
  i3 := by kernel_rfl }
open Go.RowKit Go.Lib Go.Sort in
theorem Tryz.slices_Compact_int_cells (b off n c : Nat) (zs : List Int) (w : World) (hz : n ≤ zs.length) (hbig : n ≤ 9223372036854775807) (hcap : n ≤ c) (hc : ∀ j, j < zs.length → w.cell? ⟨b, off + j, none⟩ = some (.int .i64 (zs.getD j 0))) (hf : ∀ j, j < n → w.frozen? ⟨b, off + j, none⟩ = false) :
    Calls Tryz.prog 93 #[.slice (some ⟨b, off, none⟩) n c] w fun e w' => e = .returned (.slice (some ⟨b, off, none⟩) (Lib.compact (zs.take n)).length c) ∧ ∃ q, w' = (w.drewN q).setCells b off ((Lib.compact (zs.take n) ++ List.replicate (n - (Lib.compact (zs.take n)).length) 0).map (Value.int .i64)) := Any.slices_Compact_int_cells Tryz.laysNm220 b off n c zs w hz hbig hcap hc hf
end Go.Proofs


namespace Go.Proofs
open Go.Shelf Go.RowKit
theorem sizeB : (Tryz.prog.info? 158).map (·.size) = some 2 := by kernel_rfl
theorem liesB : liesAt Tryz.prog Tryz.prog.depth 158 (2 / Tryz.prog.cellsOf 158) 0 158 1 = true := by kernel_rfl
set_option maxHeartbeats 1000000 in
set_option maxRecDepth 100000 in
theorem chk_used (b : Nat) (w : World) (h0 : w.cell? ⟨b, 0, none⟩ = some (.pointer (some ⟨b, 0, none⟩))) :
    Calls Tryz.prog 132 #[.pointer (some ⟨b, 0, none⟩)] w fun e w' => e = .returned (.tuple #[]) ∧ w' = w := by
  obtain ⟨j, hj, _⟩ := Option.map_eq_some_iff.1 sizeB
  have u72 := run_underlying Tryz.underlying158
  have u70 := run_underlying Tryz.underlying155
  have u4 := run_underlying Tryz.underlying4
  have u164 := run_underlying Tryz.underlying187
  go_enter Tryz.func132, Tryz.ntmps132
  go_wp2
  rw [Lib.run_neq_ptr_same w _ Tryz.underlying155 hj]
  go_wp2
  go_end0
  exact ⟨rfl, rfl⟩
set_option maxHeartbeats 1000000 in
set_option maxRecDepth 100000 in
theorem chk_fresh (b : Nat) (w : World) (h0 : w.cell? ⟨b, 0, none⟩ = some (.pointer none)) (hsh : w.shape? b = some (158, 2)) (hfz : w.frozen? ⟨b, 0, none⟩ = false) :
    Calls Tryz.prog 132 #[.pointer (some ⟨b, 0, none⟩)] w fun e w' => e = .returned (.tuple #[]) ∧ w' = w.setCell ⟨b, 0, none⟩ (.pointer (some ⟨b, 0, none⟩)) := by
  obtain ⟨j, hj, hjs⟩ := Option.map_eq_some_iff.1 sizeB
  have u72 := run_underlying Tryz.underlying158
  have u70 := run_underlying Tryz.underlying155
  have u4 := run_underlying Tryz.underlying4
  have u164 := run_underlying Tryz.underlying187
  go_enter Tryz.func132, Tryz.ntmps132
  go_wp2
  rw [Lib.run_to_unsafe w ⟨b, 0, none⟩ Tryz.underlying155 Tryz.underlying187 hj (by rw [hjs]; decide) hsh (Nat.zero_lt_succ 1)]
  simp only [Result.andThen]
  rw [Oper.upon_value]
  go_wp2
  rw [run_callFunc_extern Tryz.func142 (by kernel_rfl) (by kernel_rfl) (by kernel_rfl) (e := Extern.AbiNoEscape.same) (by kernel_rfl)]
  rw [Lib.run_noEscape]
  simp only [Result.andThen]
  rw [Oper.upon_value]
  go_wp2
  rw [Lib.run_from_unsafe w ⟨b, 0, none⟩ Tryz.underlying187 Tryz.underlying155 hj hsh liesB]
  simp only [Result.andThen]
  rw [Oper.upon_value]
  go_wp2
  go_end0
  exact ⟨rfl, rfl⟩
theorem bld_check148 (b : Nat) (p v : Value) (bs : List Value) (w : World) (hp : p = .pointer none ∨ p = .pointer (some ⟨b, 0, none⟩)) (hbk : w.heap[b]? = some (.cells #[p, v] 158 (0, 0)))
    (hrow : w.ownsRow 0 5 1 v bs.length bs) (hne : v.ownBlock ≠ some b) :
    Calls Tryz.prog 132 #[.pointer (some ⟨b, 0, none⟩)] w fun e w' => e = .returned (.tuple #[]) ∧ (w'.heap[b]? = some (.cells #[.pointer (some ⟨b, 0, none⟩), v] 158 (0, 0)) ∧ w'.ownsRow 0 5 1 v bs.length bs) ∧
      ((w' = w ∧ p = .pointer (some ⟨b, 0, none⟩)) ∨ (w' = w.setCell ⟨b, 0, none⟩ (.pointer (some ⟨b, 0, none⟩)) ∧ p = .pointer none)) := by
  have hc : w.cell? ⟨b, 0, none⟩ = some p := by rw [Lib.cell_of_heap hbk]; rfl
  rcases hp with rfl | rfl
  · have hsh : w.shape? b = some (158, 2) := by simp [World.shape?, hbk]
    refine (chk_fresh b w hc hsh (Lib.frozen_of_heap hbk 0)).mono ?_
    rintro e w' ⟨rfl, rfl⟩
    exact ⟨rfl, ⟨heap_set0 hbk, ownsRow_at hrow fun k hk => Go.Deep.blk_setCell_other w _ _ k fun e => hne (by rw [hk, e])⟩, .inr ⟨rfl, rfl⟩⟩
  · refine (chk_used b w hc).mono ?_
    rintro e w' ⟨rfl, rfl⟩
    exact ⟨rfl, ⟨hbk, hrow⟩, .inl ⟨rfl, rfl⟩⟩
set_option maxHeartbeats 2000000 in
set_option maxRecDepth 100000 in
theorem bld_str90 (b : Nat) (p v0 : Value) (bs : List Value) (s : ByteArray) (w : World) (hp : p = .pointer none ∨ p = .pointer (some ⟨b, 0, none⟩)) (hbk0 : w.heap[b]? = some (.cells #[p, v0] 158 (0, 0)))
    (hrow : w.ownsRow 0 5 1 v0 bs.length bs) (hne : v0.ownBlock ≠ some b) (hlen : bs.length + s.size ≤ 140737488355328) :
    Calls Tryz.prog 112 #[.pointer (some ⟨b, 0, none⟩), .string s] w fun e w' => e = .returned (.tuple #[.int .i64 s.size, .nilIface]) ∧ Wrote 158 5 b p v0 bs (Lib.strCells s) w w' := by
  obtain ⟨i0, hi, hz0, hz1, hz2⟩ := info_parts Tryz.Builder_Extra_169.infoByte
  have u72 := run_underlying Tryz.underlying158
  have u70 := run_underlying Tryz.underlying155
  have u37 := run_underlying Tryz.underlying156
  have u9 := run_underlying Tryz.underlying9
  have u4 := run_underlying Tryz.underlying4
  have u5 := run_underlying Tryz.underlying5
  have u3 := run_underlying Tryz.underlying3
  have e240 : ∀ args w, (callFunc 132 args).run Tryz.prog w = .ok (.enter 132 args) w := Tryz.call132
  go_enter Tryz.func112, Tryz.ntmps112
  go_wp2_with (go_at_fn 132; refine (bld_check148 b p v0 bs _ hp hbk0 hrow hne).mono ?_)
  rintro e w1 ⟨rfl, ⟨hbk, hown⟩, hb1⟩
  have c0 : w1.cell? ⟨b, 0, none⟩ = some (.pointer (some ⟨b, 0, none⟩)) := by rw [Lib.cell_of_heap hbk]; rfl
  have c1 : w1.cell? ⟨b, 1, none⟩ = some v0 := by rw [Lib.cell_of_heap hbk]; rfl
  have hlt : b < w1.heap.size := by
    rcases Nat.lt_or_ge b w1.heap.size with h' | h'
    · exact h'
    · simp [Array.getElem?_eq_none h'] at hbk
  go_wp2_with (at_builtin; refine wpList_app_str _ rfl _ _ 156 9 rfl 5 i0 Tryz.underlying156 Tryz.underlying9 hi hz0 hz1 hz2 _ _ _ rfl hown s rfl ?c3 ?c4 ?_)
  case c3 => unfold maxLen; omega
  case c4 => omega
  intro v' w2 hown' hgrow hat
  have hb2 : w2.heap[b]? = some (.cells #[.pointer (some ⟨b, 0, none⟩), v0] 158 (0, 0)) := by
    rw [hgrow.block b hlt (fun e => hne e.symm)]
    exact hbk
  have d0 : w2.cell? ⟨b, 0, none⟩ = some (.pointer (some ⟨b, 0, none⟩)) := by rw [Lib.cell_of_heap hb2]; rfl
  have d1 : w2.cell? ⟨b, 1, none⟩ = some v0 := by rw [Lib.cell_of_heap hb2]; rfl
  have f1 : w2.frozen? ⟨b, 1, none⟩ = false := Lib.frozen_of_heap hb2 1
  have hfin : Wrote 158 5 b p v0 bs (Lib.strCells s) w (w2.setCell ⟨b, 1, none⟩ v') := ⟨w1, w1, w2, v', hb1, .inl rfl, by simpa [Lib.strCells_length] using hown', hgrow, hat, rfl⟩
  obtain ⟨ao, n', cap, rfl⟩ : ∃ ao n' cap, v' = .slice ao n' cap := by
    rcases hown'.2 with ⟨hv, _⟩ | ⟨g, cap, cur, hv, _⟩
    · exact ⟨_, _, _, hv⟩
    · exact ⟨_, _, _, hv⟩
  go_wp2
  go_ret2
  exact ⟨rfl, hfin⟩
set_option maxHeartbeats 2000000 in
set_option maxRecDepth 100000 in
theorem bld_byte155 (b : Nat) (p v0 : Value) (bs : List Value) (c : Int) (w : World) (hp : p = .pointer none ∨ p = .pointer (some ⟨b, 0, none⟩)) (hbk0 : w.heap[b]? = some (.cells #[p, v0] 158 (0, 0)))
    (hrow : w.ownsRow 0 5 1 v0 bs.length bs) (hne : v0.ownBlock ≠ some b) (hlen : bs.length + 1 ≤ 140737488355328) :
    Calls Tryz.prog 114 #[.pointer (some ⟨b, 0, none⟩), .int .u8 c] w fun e w' => e = .returned .nilIface ∧ Wrote 158 5 b p v0 bs [.int .u8 c] w w' := by
  obtain ⟨i0, hi, hz0, hz1, hz2⟩ := info_parts Tryz.Builder_Extra_169.infoByte
  have u72 := run_underlying Tryz.underlying158
  have u70 := run_underlying Tryz.underlying155
  have u37 := run_underlying Tryz.underlying156
  have u4 := run_underlying Tryz.underlying4
  have u5 := run_underlying Tryz.underlying5
  have e240 : ∀ args w, (callFunc 132 args).run Tryz.prog w = .ok (.enter 132 args) w := Tryz.call132
  go_enter Tryz.func114, Tryz.ntmps114
  go_wp2_with (go_at_fn 132; refine (bld_check148 b p v0 bs _ hp hbk0 hrow hne).mono ?_)
  rintro e w1 ⟨rfl, ⟨hbk, hown⟩, hb1⟩
  have c0 : w1.cell? ⟨b, 0, none⟩ = some (.pointer (some ⟨b, 0, none⟩)) := by rw [Lib.cell_of_heap hbk]; rfl
  have c1 : w1.cell? ⟨b, 1, none⟩ = some v0 := by rw [Lib.cell_of_heap hbk]; rfl
  have hlt : b < w1.heap.size := by
    rcases Nat.lt_or_ge b w1.heap.size with h' | h'
    · exact h'
    · simp [Array.getElem?_eq_none h'] at hbk
  go_wp2_with (at_builtin; refine wpList_app_row _ rfl _ _ 156 rfl 5 i0 Tryz.underlying156 hi hz0 hz1 hz2 _ _ _ rfl (hown.alloc _) ⟨w1.heap.size, 0, none⟩ 1 1 [.int .u8 c] rfl rfl ?c1 ?c2 ?c3 ?c4 ?_)
  case c1 =>
    intro j u hj
    match j, hj with
    | 0, hj => simp at hj; subst hj; simp [Addr.add]
  case c2 => intro u hu; simp at hu; subst hu; rfl
  case c3 => unfold maxLen; omega
  case c4 => omega
  intro v' w2 hown' hgrow hat
  have hb2 : w2.heap[b]? = some (.cells #[.pointer (some ⟨b, 0, none⟩), v0] 158 (0, 0)) := by
    rw [hgrow.block b (by simp; omega) (fun e => hne e.symm), Lib.alloc_old w1 _ b hlt]
    exact hbk
  have d0 : w2.cell? ⟨b, 0, none⟩ = some (.pointer (some ⟨b, 0, none⟩)) := by rw [Lib.cell_of_heap hb2]; rfl
  have d1 : w2.cell? ⟨b, 1, none⟩ = some v0 := by rw [Lib.cell_of_heap hb2]; rfl
  have f1 : w2.frozen? ⟨b, 1, none⟩ = false := Lib.frozen_of_heap hb2 1
  have hfin : Wrote 158 5 b p v0 bs [.int .u8 c] w (w2.setCell ⟨b, 1, none⟩ v') := ⟨w1, _, w2, v', hb1, .inr ⟨_, rfl⟩, by simpa using hown', hgrow, hat, rfl⟩
  obtain ⟨g, cap, rfl⟩ : ∃ g cap, v' = .slice (some ⟨g, 0, none⟩) (bs.length + 1) cap := by
    rcases hown'.2 with ⟨_, h0⟩ | ⟨g, cap, cur, hv, _⟩
    · omega
    · exact ⟨g, cap, hv⟩
  go_wp2
  go_ret
  exact ⟨rfl, hfin⟩
end Go.Proofs
namespace Go.AI
open Go.Proofs
theorem wspec90 (s : ByteArray) : WSpec Tryz.prog 112 158 5 (.tuple #[.int .i64 s.size, .nilIface]) (.string s) (Lib.strCells s) :=
  fun b p v0 bs w hp hbk hrow hne hlen => bld_str90 b p v0 bs s w hp hbk hrow hne (by rw [Lib.strCells_length] at hlen; exact hlen)
theorem wspec155 (c : Int) : WSpec Tryz.prog 114 158 5 .nilIface (.int .u8 c) [.int .u8 c] :=
  fun b p v0 bs w hp hbk hrow hne hlen => bld_byte155 b p v0 bs c w hp hbk hrow hne (by simpa using hlen)
theorem sspec93 : SSpec Tryz.prog 115 158 5 := fun b p v l w hbk hown h0 => bld_string Tryz.lays169 Tryz.Builder_Extra_169 b p v l w hbk hown h0
end Go.AI


namespace Go.Proofs
open Go.Shelf Go.RowKit
def runeB (r : Int) : List Value := if r ≤ 127 then [.int .u8 r] else if r ≤ 2047 then [.int .u8 (192 + r / 64), .int .u8 (128 + r % 64)] else [.int .u8 (224 + r / 4096), .int .u8 (128 + r / 64 % 64), .int .u8 (128 + r % 64)]
set_option maxHeartbeats 4000000 in
set_option maxRecDepth 100000 in
theorem app145_two (v : Value) (n : Nat) (xs : List Value) (r : Int) (h0 : 128 ≤ r) (h1 : r ≤ 2047) (w : World) (hown : w.ownsRow 0 5 1 v n xs) (hlen : n + 2 ≤ 140737488355328) :
    Calls Tryz.prog 145 #[v, .int .i32 r] w fun e w' => ∃ v', e = .returned v' ∧ w'.ownsRow 0 5 1 v' (n + 2) (xs ++ [.int .u8 (192 + r / 64), .int .u8 (128 + r % 64)]) ∧ ∃ o, (w.alloc o).grownBy w' v.ownBlock ∧ RowAt (w.alloc o) v v' := by
  obtain ⟨i0, hi, hz0, hz1, hz2⟩ := info_parts Tryz.Builder_Extra_169.infoByte
  have u4 := run_underlying Tryz.underlying4
  have u5 := run_underlying Tryz.underlying5
  have u21 := run_underlying Tryz.underlying21
  have u156 := run_underlying Tryz.underlying156
  have u134 := run_underlying Tryz.underlying134
  have u174 := run_underlying Tryz.underlying174
  go_enter Tryz.func145, Tryz.ntmps145
  go_wp2_with (at_builtin; refine wpList_app_row _ rfl _ _ 156 rfl 5 i0 Tryz.underlying156 hi hz0 hz1 hz2 _ _ _ rfl (hown.alloc _) ⟨w.heap.size, 0, none⟩ 2 2 [.int .u8 (192 + r / 64), .int .u8 (128 + r % 64)] rfl rfl ?c1 ?c2 ?c3 ?c4 ?_)
  case c1 =>
    intro j u hj
    match j, hj with
    | 0, hj => simp at hj; subst hj; simp [Addr.add]
    | 1, hj => simp at hj; subst hj; simp [Addr.add]
    | (j + 2), hj => simp at hj
  case c2 => intro u hu; simp at hu; rcases hu with rfl | rfl <;> rfl
  case c3 => unfold maxLen; omega
  case c4 => omega
  intro v' w2 hown' hgrow hat
  go_wp2
  go_ret
  exact ⟨_, rfl, hown', _, hgrow, hat⟩
set_option maxHeartbeats 4000000 in
set_option maxRecDepth 100000 in
theorem app145_three (v : Value) (n : Nat) (xs : List Value) (r : Int) (h0 : 2048 ≤ r) (h1 : r < 55296) (w : World) (hown : w.ownsRow 0 5 1 v n xs) (hlen : n + 3 ≤ 140737488355328) :
    Calls Tryz.prog 145 #[v, .int .i32 r] w fun e w' => ∃ v', e = .returned v' ∧ w'.ownsRow 0 5 1 v' (n + 3) (xs ++ [.int .u8 (224 + r / 4096), .int .u8 (128 + r / 64 % 64), .int .u8 (128 + r % 64)]) ∧ ∃ o, (w.alloc o).grownBy w' v.ownBlock ∧ RowAt (w.alloc o) v v' := by
  obtain ⟨i0, hi, hz0, hz1, hz2⟩ := info_parts Tryz.Builder_Extra_169.infoByte
  have u4 := run_underlying Tryz.underlying4
  have u5 := run_underlying Tryz.underlying5
  have u21 := run_underlying Tryz.underlying21
  have u156 := run_underlying Tryz.underlying156
  have u134 := run_underlying Tryz.underlying134
  have u174 := run_underlying Tryz.underlying174
  go_enter Tryz.func145, Tryz.ntmps145
  go_wp2_with (at_builtin; refine wpList_app_row _ rfl _ _ 156 rfl 5 i0 Tryz.underlying156 hi hz0 hz1 hz2 _ _ _ rfl (hown.alloc _) ⟨w.heap.size, 0, none⟩ 3 3 [.int .u8 (224 + r / 4096), .int .u8 (128 + r / 64 % 64), .int .u8 (128 + r % 64)] rfl rfl ?c1 ?c2 ?c3 ?c4 ?_)
  case c1 =>
    intro j u hj
    match j, hj with
    | 0, hj => simp at hj; subst hj; simp [Addr.add]
    | 1, hj => simp at hj; subst hj; simp [Addr.add]
    | 2, hj => simp at hj; subst hj; simp [Addr.add]
    | (j + 3), hj => simp at hj
  case c2 => intro u hu; simp at hu; rcases hu with rfl | rfl | rfl <;> rfl
  case c3 => unfold maxLen; omega
  case c4 => omega
  intro v' w2 hown' hgrow hat
  go_wp2
  go_ret
  exact ⟨_, rfl, hown', _, hgrow, hat⟩
set_option maxHeartbeats 4000000 in
set_option maxRecDepth 100000 in
theorem app141 (v : Value) (n : Nat) (xs : List Value) (r : Int) (h0 : 0 ≤ r) (h1 : r < 55296) (w : World) (hown : w.ownsRow 0 5 1 v n xs) (hlen : n + (runeB r).length ≤ 140737488355328) :
    Calls Tryz.prog 141 #[v, .int .i32 r] w fun e w' => ∃ v', e = .returned v' ∧ w'.ownsRow 0 5 1 v' (n + (runeB r).length) (xs ++ runeB r) ∧ ∃ o, (w.alloc o).grownBy w' v.ownBlock ∧ RowAt (w.alloc o) v v' := by
  obtain ⟨i0, hi, hz0, hz1, hz2⟩ := info_parts Tryz.Builder_Extra_169.infoByte
  have u4 := run_underlying Tryz.underlying4
  have u5 := run_underlying Tryz.underlying5
  have u21 := run_underlying Tryz.underlying21
  have u156 := run_underlying Tryz.underlying156
  have u134 := run_underlying Tryz.underlying134
  have u174 := run_underlying Tryz.underlying174
  have e145 : ∀ args w, (callFunc 145 args).run Tryz.prog w = .ok (.enter 145 args) w := Tryz.call145
  unfold runeB at hlen ⊢
  by_cases c1 : r ≤ 127
  · rw [if_pos c1] at hlen ⊢
    simp only [List.length_singleton] at hlen
    go_enter Tryz.func141, Tryz.ntmps141
    go_wp2_with (at_builtin; refine wpList_app_row _ rfl _ _ 156 rfl 5 i0 Tryz.underlying156 hi hz0 hz1 hz2 _ _ _ rfl (hown.alloc _) ⟨w.heap.size, 0, none⟩ 1 1 [.int .u8 r] rfl rfl ?c1 ?c2 ?c3 ?c4 ?_)
    case c1 =>
      intro j u hj
      match j, hj with
      | 0, hj => simp at hj; subst hj; simp [Addr.add]
      | (j + 1), hj => simp at hj
    case c2 => intro u hu; simp at hu; subst hu; rfl
    case c3 => unfold maxLen; omega
    case c4 => omega
    intro v' w2 hown' hgrow hat
    go_wp2
    go_ret
    exact ⟨_, rfl, hown', _, hgrow, hat⟩
  · rw [if_neg c1] at hlen ⊢
    have c1' : 128 ≤ r := by omega
    clear c1
    by_cases c2 : r ≤ 2047
    · rw [if_pos c2] at hlen ⊢
      simp only [List.length_cons, List.length_nil] at hlen
      go_enter Tryz.func141, Tryz.ntmps141
      go_wp2_with (go_at_fn 145; refine (app145_two v n xs r (by omega) c2 _ hown hlen).mono ?_)
      rintro e w1 ⟨v', rfl, h1, o, h2, h3⟩
      go_wp2
      go_ret
      exact ⟨_, rfl, h1, _, h2, h3⟩
    · rw [if_neg c2] at hlen ⊢
      simp only [List.length_cons, List.length_nil] at hlen
      have c2' : 2048 ≤ r := by omega
      clear c2
      go_enter Tryz.func141, Tryz.ntmps141
      go_wp2_with (go_at_fn 145; refine (app145_three v n xs r (by omega) h1 _ hown hlen).mono ?_)
      rintro e w1 ⟨v', rfl, h1, o, h2, h3⟩
      go_wp2
      go_ret
      exact ⟨_, rfl, h1, _, h2, h3⟩
end Go.Proofs
namespace Go.Proofs
open Go.Shelf Go.RowKit
theorem runeB_le (r : Int) : (runeB r).length ≤ 3 := by
  unfold runeB
  split
  · simp
  · split <;> simp
set_option maxHeartbeats 4000000 in
set_option maxRecDepth 100000 in
theorem bld_rune (b : Nat) (p v0 : Value) (bs : List Value) (r : Int) (h0 : 0 ≤ r) (h1 : r < 55296) (w : World) (hp : p = .pointer none ∨ p = .pointer (some ⟨b, 0, none⟩)) (hbk0 : w.heap[b]? = some (.cells #[p, v0] 158 (0, 0)))
    (hrow : w.ownsRow 0 5 1 v0 bs.length bs) (hne : v0.ownBlock ≠ some b) (hlen : bs.length + (runeB r).length ≤ 140737488355328) :
    Calls Tryz.prog 130 #[.pointer (some ⟨b, 0, none⟩), .int .i32 r] w fun e w' => e = .returned (.tuple #[.int .i64 (runeB r).length, .nilIface]) ∧ Wrote 158 5 b p v0 bs (runeB r) w w' := by
  obtain ⟨i0, hi, hz0, hz1, hz2⟩ := info_parts Tryz.Builder_Extra_169.infoByte
  have u158 := run_underlying Tryz.underlying158
  have u155 := run_underlying Tryz.underlying155
  have u156 := run_underlying Tryz.underlying156
  have u4 := run_underlying Tryz.underlying4
  have u5 := run_underlying Tryz.underlying5
  have u3 := run_underlying Tryz.underlying3
  have u21 := run_underlying Tryz.underlying21
  have e132 : ∀ args w, (callFunc 132 args).run Tryz.prog w = .ok (.enter 132 args) w := Tryz.call132
  have e141 : ∀ args w, (callFunc 141 args).run Tryz.prog w = .ok (.enter 141 args) w := Tryz.call141
  have hrl := runeB_le r
  obtain ⟨ao0, n0, cap0, hv0⟩ : ∃ ao n cap, v0 = .slice ao n cap := by
    rcases hrow.2 with ⟨hv, _⟩ | ⟨g, cap, cur, hv, _⟩
    · exact ⟨_, _, _, hv⟩
    · exact ⟨_, _, _, hv⟩
  have hn0 : n0 = bs.length := by
    rcases hrow.2 with ⟨hv, hx⟩ | ⟨g, cap, cur, hv, _⟩
    · rw [hv0] at hv; simp at hv; omega
    · rw [hv0] at hv; simp at hv; exact hv.2.1
  subst hn0
  subst hv0
  go_enter Tryz.func130, Tryz.ntmps130
  go_wp2_with (go_at_fn 132; refine (bld_check148 b p _ bs _ hp hbk0 hrow hne).mono ?_)
  rintro e w1 ⟨rfl, ⟨hbk, hown⟩, hb1⟩
  have c0 : w1.cell? ⟨b, 0, none⟩ = some (.pointer (some ⟨b, 0, none⟩)) := by rw [Lib.cell_of_heap hbk]; rfl
  have c1 : w1.cell? ⟨b, 1, none⟩ = some (.slice ao0 bs.length cap0) := by rw [Lib.cell_of_heap hbk]; rfl
  have hlt : b < w1.heap.size := by
    rcases Nat.lt_or_ge b w1.heap.size with h' | h'
    · exact h'
    · simp [Array.getElem?_eq_none h'] at hbk
  go_wp2_with (go_at_fn 141; refine (app141 _ _ bs r h0 h1 _ hown hlen).mono ?_)
  rintro e w2 ⟨v', rfl, hown', o, hgrow, hat⟩
  have hb2 : w2.heap[b]? = some (.cells #[.pointer (some ⟨b, 0, none⟩), .slice ao0 bs.length cap0] 158 (0, 0)) := by
    rw [hgrow.block b (by simp [World.size_alloc]; omega) (fun e => hne e.symm), Lib.alloc_old w1 _ b hlt]
    exact hbk
  have d0 : w2.cell? ⟨b, 0, none⟩ = some (.pointer (some ⟨b, 0, none⟩)) := by rw [Lib.cell_of_heap hb2]; rfl
  have d1 : w2.cell? ⟨b, 1, none⟩ = some (.slice ao0 bs.length cap0) := by rw [Lib.cell_of_heap hb2]; rfl
  have f1 : w2.frozen? ⟨b, 1, none⟩ = false := Lib.frozen_of_heap hb2 1
  have hfin : Wrote 158 5 b p (.slice ao0 bs.length cap0) bs (runeB r) w (w2.setCell ⟨b, 1, none⟩ v') := ⟨w1, _, w2, v', hb1, .inr ⟨_, rfl⟩, hown', hgrow, hat, rfl⟩
  obtain ⟨ao, n', cap, rfl, hn'⟩ : ∃ ao n' cap, v' = .slice ao n' cap ∧ n' = bs.length + (runeB r).length := by
    rcases hown'.2 with ⟨hv, hx⟩ | ⟨g, cap, cur, hv, _⟩
    · exact ⟨_, _, _, hv, by omega⟩
    · exact ⟨_, _, _, hv, rfl⟩
  subst hn'
  go_wp2
  rw [show ((bs.length : Int) + ((runeB r).length : Int) - (bs.length : Int)) = ((runeB r).length : Int) by omega]
  go_ret2
  exact ⟨rfl, hfin⟩
end Go.Proofs
namespace Go.AI
open Go.Proofs
theorem wspec130 (r : Int) (h0 : 0 ≤ r) (h1 : r < 55296) : WSpec Tryz.prog 130 158 5 (.tuple #[.int .i64 (runeB r).length, .nilIface]) (.int .i32 r) (runeB r) :=
  fun b p v0 bs w hp hbk hrow hne hlen => bld_rune b p v0 bs r h0 h1 w hp hbk hrow hne hlen
def runeL (r : Int) : List UInt8 := if r ≤ 127 then [UInt8.ofNat r.toNat] else if r ≤ 2047 then [UInt8.ofNat (192 + r / 64).toNat, UInt8.ofNat (128 + r % 64).toNat] else [UInt8.ofNat (224 + r / 4096).toNat, UInt8.ofNat (128 + r / 64 % 64).toNat, UInt8.ofNat (128 + r % 64).toNat]
theorem u8_of (k : Int) (h0 : 0 ≤ k) (h1 : k < 256) : ((UInt8.ofNat k.toNat).toNat : Int) = k := by
  have : (UInt8.ofNat k.toNat).toNat = k.toNat % 256 := by simp
  omega
theorem runeB_eq (r : Int) (h0 : 0 ≤ r) (h1 : r < 55296) : runeB r = (runeL r).map fun b => Value.int .u8 b.toNat := by
  unfold runeB runeL
  by_cases c1 : r ≤ 127
  · rw [if_pos c1, if_pos c1]
    simp only [List.map_cons, List.map_nil]
    rw [u8_of r h0 (by omega)]
  · rw [if_neg c1, if_neg c1]
    by_cases c2 : r ≤ 2047
    · rw [if_pos c2, if_pos c2]
      simp only [List.map_cons, List.map_nil]
      rw [u8_of _ (by omega) (by omega), u8_of _ (by omega) (by omega)]
    · rw [if_neg c2, if_neg c2]
      simp only [List.map_cons, List.map_nil]
      rw [u8_of _ (by omega) (by omega), u8_of _ (by omega) (by omega), u8_of _ (by omega) (by omega)]
theorem runeL_ne (r : Int) : runeL r ≠ [] := by
  unfold runeL
  split
  · simp
  · split <;> simp
theorem runeL_le (r : Int) : (runeL r).length ≤ 3 := by
  unfold runeL
  split
  · simp
  · split <;> simp
abbrev oby (T : List UInt8) : Ob := .arr 5 1 T.length (u8l T) true
theorem oby_app (T s : List UInt8) : Ob.arr 5 1 (T.length + s.length) (u8l T ++ u8l s) true = oby (T ++ s) := by rw [u8l_app]; simp [oby]
theorem strCells_u8 (K : Kn) (s : ByteArray) : RepL K (Lib.strCells s) (u8l s.data.toList).flatten := u8l_rep K s.data.toList
theorem size_list (s : ByteArray) : s.data.toList.length = s.size := by rw [Array.length_toList]; rfl
theorem does_ws {c : Cx} (hP : c.P = Tryz.prog) {s : St} {o : Oper} {t nm nm2 : Nat} {dp : D} {H : Heap} {O : List Heap} (sb : ByteArray) (T : List UInt8) (hdp : dp = .i (.v (.pointer none)) ∨ dp = .own 0 nm 0 0) (hlim : T.length + sb.size ≤ 140737488355328) (ht : o.dst = some t) (hn : t < s.n) (hS : s.S = H :: O)
    (hb : look H nm = some (.tb 158 [dp, .osl 0 nm2])) (ha : look H nm2 = some (oby T)) (hne : nm ≠ nm2) :
    Wp c o s 112 [.own 0 nm 0 0, .i (.v (.string sb))] { σ := (t, .tup [ii sb.size, .i (.v .nilIface)]) :: killσ nm2 s.σ, S := ((nm, .tb 158 [.own 0 nm 0 0, .osl 0 nm2]) :: (nm2, oby (T ++ sb.data.toList)) :: killH nm2 ((nm, .tb 158 [.own 0 nm 0 0, .osl 0 nm2]) :: H)) :: O, n := s.n } := by
  have h := does_write (c := c) (s := s) (o := o) (ys := u8l sb.data.toList) (m := sb.data.toList.length) (T := 158) (ty := 5) (rd := .tup [ii sb.size, .i (.v .nilIface)]) (dx := .i (.v (.string sb))) (x := .string sb) (res := .tuple #[.int .i64 sb.size, .nilIface]) (xs := u8l T) (n := T.length) (by rw [hP]; exact wspec90 sb) (by rw [hP]; exact Tryz.call112)
    (fun K ρ sh v h => inv_v h) (fun K ρ sh => .tup (.cons (.i (.v rfl)) (.cons (.i (.v rfl)) .nil))) hdp ht hn hS hb ha hne (fun K => strCells_u8 K sb) (u8l_el _) (by simp [u8l]) (by rw [size_list]; exact hlim)
  rwa [oby_app] at h
theorem does_bs {c : Cx} (hP : c.P = Tryz.prog) {s : St} {o : Oper} {t nm nm2 : Nat} {dp : D} {H : Heap} {O : List Heap} {T : List UInt8} (h0 : T ≠ []) (ht : o.dst = some t) (hn : t < s.n) (hS : s.S = H :: O)
    (hb : look H nm = some (.tb 158 [dp, .osl 0 nm2])) (ha : look H nm2 = some (oby T)) :
    Wp c o s 115 [.own 0 nm 0 0] { σ := (t, .i (.v (.string ⟨T.toArray⟩))) :: killσ nm2 s.σ, S := ((nm2, .arr 5 1 0 [] true) :: killH nm2 H) :: O, n := s.n } :=
  does_bstr (c := c) (s := s) (o := o) (T := 158) (ty := 5) (by rw [hP]; exact sspec93) (by rw [hP]; exact Tryz.call115) h0 ht hn hS hb ha
theorem does_wb {c : Cx} (hP : c.P = Tryz.prog) {s : St} {o : Oper} {t nm nm2 : Nat} {dp : D} {H : Heap} {O : List Heap} (b : UInt8) (T : List UInt8) (hdp : dp = .i (.v (.pointer none)) ∨ dp = .own 0 nm 0 0) (hlim : T.length + 1 ≤ 140737488355328) (ht : o.dst = some t) (hn : t < s.n) (hS : s.S = H :: O)
    (hb : look H nm = some (.tb 158 [dp, .osl 0 nm2])) (ha : look H nm2 = some (oby T)) (hne : nm ≠ nm2) :
    Wp c o s 114 [.own 0 nm 0 0, .i (.v (.int .u8 b.toNat))] { σ := (t, .i (.v .nilIface)) :: killσ nm2 s.σ, S := ((nm, .tb 158 [.own 0 nm 0 0, .osl 0 nm2]) :: (nm2, oby (T ++ [b])) :: killH nm2 ((nm, .tb 158 [.own 0 nm 0 0, .osl 0 nm2]) :: H)) :: O, n := s.n } := by
  have h := does_write (c := c) (s := s) (o := o) (ys := u8l [b]) (m := 1) (T := 158) (ty := 5) (rd := .i (.v .nilIface)) (dx := .i (.v (.int .u8 b.toNat))) (x := .int .u8 b.toNat) (res := .nilIface) (xs := u8l T) (n := T.length) (by rw [hP]; exact wspec155 b.toNat) (by rw [hP]; exact Tryz.call114)
    (fun K ρ sh v h => inv_v h) (fun K ρ sh => .i (.v rfl)) hdp ht hn hS hb ha hne (fun K => u8l_rep K [b]) (u8l_el _) (by simp [u8l]) hlim
  rwa [show T.length + 1 = T.length + [b].length from rfl, oby_app] at h
theorem does_wr {c : Cx} (hP : c.P = Tryz.prog) {s : St} {o : Oper} {t nm nm2 : Nat} {dp : D} {H : Heap} {O : List Heap} (r : Int) (h0 : 0 ≤ r) (h1 : r < 55296) (T : List UInt8) (hdp : dp = .i (.v (.pointer none)) ∨ dp = .own 0 nm 0 0) (hlim : T.length + 3 ≤ 140737488355328) (ht : o.dst = some t) (hn : t < s.n) (hS : s.S = H :: O)
    (hb : look H nm = some (.tb 158 [dp, .osl 0 nm2])) (ha : look H nm2 = some (oby T)) (hne : nm ≠ nm2) :
    Wp c o s 130 [.own 0 nm 0 0, .i (.v (.int .i32 r))] { σ := (t, .dead) :: killσ nm2 s.σ, S := ((nm, .tb 158 [.own 0 nm 0 0, .osl 0 nm2]) :: (nm2, oby (T ++ runeL r)) :: killH nm2 ((nm, .tb 158 [.own 0 nm 0 0, .osl 0 nm2]) :: H)) :: O, n := s.n } := by
  have hl := runeL_le r
  have h := does_write (c := c) (s := s) (o := o) (ys := u8l (runeL r)) (m := (runeL r).length) (T := 158) (ty := 5) (rd := .dead) (dx := .i (.v (.int .i32 r))) (x := .int .i32 r) (res := .tuple #[.int .i64 (runeB r).length, .nilIface]) (xs := u8l T) (n := T.length) (by rw [hP]; exact wspec130 r h0 h1) (by rw [hP]; exact Tryz.call130)
    (fun K ρ sh v h => inv_v h) (fun K ρ sh => .dead _) hdp ht hn hS hb ha hne (fun K => by rw [runeB_eq r h0 h1]; exact u8l_rep K (runeL r)) (u8l_el _) (by simp [u8l]) (by omega)
  rwa [oby_app] at h
end Go.AI


namespace Go.AI
structure Unf (σ : Type) where
  sts : List σ
  mkl : List Int
  eds : List (Int × Int × Int)
def kOf : List (Int × Int × Int) → Nat → Option Nat
  | [], k => some k
  | e :: r, k => if (0 ≤ e.1 ∧ e.1 < k) ∧ 0 ≤ e.2.2 ∧ e.2.2 ≤ k then kOf r (if e.2.2 = k then k + 1 else k) else none
theorem kOf_app : ∀ (l r : List (Int × Int × Int)) (k : Nat), kOf (l ++ r) k = (kOf l k).bind (kOf r)
  | [], r, k => rfl
  | e :: l, r, k => by
    simp only [List.cons_append, kOf]
    split
    · exact kOf_app l r _
    · rfl
section
variable {σ : Type} (eq : σ → σ → Bool) (lim : Bool) (step : σ → Int → σ × Bool × Int) (mkd : σ → Bool)
def uvisit (i : Nat) (s : σ) (ev : Int) (U : Unf σ) : Except Int (Unf σ) :=
  if (step s ev).2.2 ≠ 0 then .error (step s ev).2.2 else
  if (step s ev).2.1 = false then .ok U else
  if U.sts.findIdx (eq (step s ev).1) < U.sts.length then .ok { U with eds := U.eds ++ [((i : Int), ev, ((U.sts.findIdx (eq (step s ev).1) : Nat) : Int))] } else
  if lim = true ∧ U.sts.length = 4096 then .error 3 else
  .ok { sts := U.sts ++ [(step s ev).1], mkl := U.mkl, eds := U.eds ++ [((i : Int), ev, ((U.sts.findIdx (eq (step s ev).1) : Nat) : Int))] }
def uvisits (i : Nat) (s : σ) : List Int → Unf σ → Except Int (Unf σ)
  | [], U => .ok U
  | ev :: r, U => match uvisit eq lim step i s ev U with
    | .error e => .error e
    | .ok U' => uvisits i s r U'
def umark (i : Nat) (s : σ) (U : Unf σ) : Unf σ := if mkd s then { U with mkl := U.mkl ++ [(i : Int)] } else U
def uloop (alpha : List Int) : Nat → Nat → Unf σ → Except Int (Unf σ)
  | 0, _, U => .ok U
  | f + 1, i, U => match U.sts[i]? with
    | none => .ok U
    | some s => match uvisits eq lim step i s alpha (umark mkd i s U) with
      | .error e => .error e
      | .ok U' => uloop alpha f (i + 1) U'
def unf0 (first : σ) : Unf σ := ⟨[first], [], []⟩
def unfR (alpha : List Int) (first : σ) : Except Int (Unf σ) := uloop eq lim step mkd alpha 4097 0 (unf0 first)
theorem umark_sts (i : Nat) (s : σ) (U : Unf σ) : (umark mkd i s U).sts = U.sts ∧ (umark mkd i s U).eds = U.eds := by
  unfold umark; split <;> exact ⟨rfl, rfl⟩
end
theorem findIdx_congr {α : Type} {p q : α → Bool} : ∀ {l : List α}, (∀ x ∈ l, p x = q x) → l.findIdx p = l.findIdx q
  | [], _ => rfl
  | x :: r, h => by
    rw [List.findIdx_cons, List.findIdx_cons, h x (by simp), findIdx_congr (l := r) fun y hy => h y (by simp [hy])]
theorem findIdx_none {α : Type} {p : α → Bool} : ∀ {l : List α}, (∀ x ∈ l, p x = false) → l.findIdx p = l.length
  | [], _ => rfl
  | x :: r, h => by
    rw [List.findIdx_cons, h x (by simp), findIdx_none (l := r) fun y hy => h y (by simp [hy])]
    rfl
theorem findIdx_app {α : Type} {p : α → Bool} : ∀ {l : List α} (r : List α), (∃ x ∈ l, p x = true) → (l ++ r).findIdx p = l.findIdx p
  | [], _, h => by obtain ⟨x, hx, _⟩ := h; cases hx
  | x :: l, r, h => by
    rw [List.cons_append, List.findIdx_cons, List.findIdx_cons]
    cases hx : p x with
    | true => rfl
    | false =>
      rw [findIdx_app r]
      obtain ⟨y, hy, hp⟩ := h
      rcases List.mem_cons.1 hy with rfl | hy
      · rw [hx] at hp; cases hp
      · exact ⟨y, hy, hp⟩
theorem findIdx_lt {α : Type} {p : α → Bool} : ∀ {l : List α}, (∃ x ∈ l, p x = true) → l.findIdx p < l.length
  | [], h => by obtain ⟨x, hx, _⟩ := h; cases hx
  | x :: l, h => by
    rw [List.findIdx_cons]
    cases hx : p x with
    | true => exact Nat.zero_lt_succ _
    | false =>
      have := findIdx_lt (p := p) (l := l) (by
        obtain ⟨y, hy, hp⟩ := h
        rcases List.mem_cons.1 hy with rfl | hy
        · rw [hx] at hp; cases hp
        · exact ⟨y, hy, hp⟩)
      simp only [cond_false, List.length_cons]
      omega
theorem findIdx_le {α : Type} {p : α → Bool} : ∀ {l : List α}, l.findIdx p ≤ l.length
  | [] => Nat.le_refl _
  | x :: l => by
    have := findIdx_le (p := p) (l := l)
    rw [List.findIdx_cons]
    cases p x with
    | true => exact Nat.zero_le _
    | false => simp only [cond_false, List.length_cons]; omega
section
variable {σ : Type} [DecidableEq σ]
def eqB (a b : σ) : Bool := decide (a = b)
theorem idx_self {l : List σ} (hn : l.Nodup) {i : Nat} (h : i < l.length) : l.findIdx (eqB l[i]) = i := by
  induction l generalizing i with
  | nil => cases h
  | cons x r ih =>
    rw [List.nodup_cons] at hn
    rw [List.findIdx_cons]
    cases i with
    | zero => simp [eqB]
    | succ i =>
      have hi : i < r.length := by simpa using h
      have hne : r[i] ≠ x := fun e => hn.1 (e ▸ List.getElem_mem hi)
      have e1 : eqB ((x :: r)[i + 1]) x = false := by simp [eqB, hne]
      rw [e1]
      simp only [cond_false, List.getElem_cons_succ]
      rw [ih hn.2 hi]
theorem idx_get {l : List σ} {s : σ} (h : s ∈ l) : l[l.findIdx (eqB s)]? = some s := by
  induction l with
  | nil => cases h
  | cons x r ih =>
    rw [List.findIdx_cons]
    by_cases e : s = x
    · subst e; simp [eqB]
    · have e1 : eqB s x = false := by simp [eqB, e]
      rw [e1]
      simp only [cond_false, List.getElem?_cons_succ]
      exact ih (by simpa [e] using h)
variable (step : σ → Int → σ × Bool × Int) (mkd : σ → Bool)
def eOf (sts : List σ) (i : Nat) (s : σ) (ev : Int) : Option (Int × Int × Int) := if (step s ev).2.1 = true then some ((i : Int), ev, ((sts.findIdx (eqB (step s ev).1) : Nat) : Int)) else none
theorem eOf_app {sts r : List σ} {i : Nat} {s : σ} {ev : Int} (h : (step s ev).2.1 = true → (step s ev).1 ∈ sts) : eOf step (sts ++ r) i s ev = eOf step sts i s ev := by
  unfold eOf
  split
  · rename_i hp
    rw [findIdx_app r ⟨_, h hp, by simp [eqB]⟩]
  · rfl
theorem filterMap_congr' {α β : Type} {f g : α → Option β} : ∀ {l : List α}, (∀ x ∈ l, f x = g x) → l.filterMap f = l.filterMap g
  | [], _ => rfl
  | x :: r, h => by
    simp only [List.filterMap_cons, h x (by simp)]
    rw [filterMap_congr' (l := r) fun y hy => h y (by simp [hy])]
structure Fin1 (eq : σ → σ → Bool) (lim : Bool) (P : σ → Prop) : Prop where
  step : ∀ s ev, P s → (step s ev).2.1 = true → P (step s ev).1
  eq : ∀ s t, P s → P t → eq s t = eqB s t
  few : lim = true → ∀ l : List σ, (∀ s ∈ l, P s) → l.Nodup → l.length < 4096
structure UOk (P : σ → Prop) (U : Unf σ) : Prop where
  ok : ∀ s ∈ U.sts, P s
  nd : U.sts.Nodup
  fr : kOf U.eds 1 = some U.sts.length
variable {step} {eq : σ → σ → Bool} {lim : Bool} {P : σ → Prop}
theorem uvisit_spec (hF : Fin1 step eq lim P) {i : Nat} {s : σ} {ev : Int} {U : Unf σ} (hU : UOk P U) (hs : P s) (hi : i < U.sts.length) :
    if (step s ev).2.2 ≠ 0 then uvisit eq lim step i s ev U = .error (step s ev).2.2 else ∃ r, uvisit eq lim step i s ev U = .ok ⟨U.sts ++ r, U.mkl, U.eds ++ [ev].filterMap (eOf step (U.sts ++ r) i s)⟩ ∧
      UOk P ⟨U.sts ++ r, U.mkl, U.eds ++ [ev].filterMap (eOf step (U.sts ++ r) i s)⟩ ∧ ((step s ev).2.1 = true → (step s ev).1 ∈ U.sts ++ r) := by
  unfold uvisit
  split
  · rfl
  cases hp : (step s ev).2.1 with
  | false =>
    refine ⟨[], ?_, ?_, fun h => by cases h⟩
    · simp [List.filterMap_cons, eOf, hp]
    · simpa [List.filterMap_cons, eOf, hp] using hU
  | true =>
    have hn := hF.step s ev hs hp
    have hq : U.sts.findIdx (eq (step s ev).1) = U.sts.findIdx (eqB (step s ev).1) := findIdx_congr fun x hx => hF.eq _ _ hn (hU.ok x hx)
    rw [hq]
    simp only [Bool.true_eq_false, if_false]
    by_cases hm : (step s ev).1 ∈ U.sts
    · have hlt : U.sts.findIdx (eqB (step s ev).1) < U.sts.length := findIdx_lt ⟨_, hm, by simp [eqB]⟩
      rw [if_pos hlt]
      have e1 : [ev].filterMap (eOf step (U.sts ++ []) i s) = [((i : Int), ev, ((U.sts.findIdx (eqB (step s ev).1) : Nat) : Int))] := by
        simp [List.filterMap_cons, eOf, hp]
      refine ⟨[], ?_, ⟨?_, ?_, ?_⟩, fun _ => by simpa using hm⟩
      · rw [e1, List.append_nil]
      · simpa using hU.ok
      · simpa using hU.nd
      · show kOf (U.eds ++ _) 1 = some (U.sts ++ []).length
        rw [e1, kOf_app, hU.fr, List.append_nil]
        simp only [Option.bind_some, kOf]
        rw [if_pos ⟨⟨by omega, by omega⟩, by omega, by omega⟩, if_neg (by omega)]
    · have hno : U.sts.findIdx (eqB (step s ev).1) = U.sts.length := findIdx_none fun x hx => by
        simp only [eqB, decide_eq_false_iff_not]
        exact fun e => hm (e ▸ hx)
      have hnd : (U.sts ++ [(step s ev).1]).Nodup := by
        unfold List.Nodup
        rw [List.pairwise_append]
        refine ⟨hU.nd, List.pairwise_singleton _ _, fun a ha b hb => ?_⟩
        rw [List.mem_singleton] at hb
        subst hb
        exact fun e => hm (e ▸ ha)
      have hok : ∀ t ∈ U.sts ++ [(step s ev).1], P t := by
        intro t ht
        rcases List.mem_append.1 ht with ht | ht
        · exact hU.ok t ht
        · rw [List.mem_singleton] at ht; subst ht; exact hn
      have hfew : ¬ (lim = true ∧ U.sts.length = 4096) := by
        rintro ⟨h1, h2⟩
        have := hF.few h1 _ hok hnd
        simp only [List.length_append, List.length_singleton] at this
        omega
      rw [hno, if_neg (Nat.lt_irrefl _), if_neg hfew]
      have e2 : (U.sts ++ [(step s ev).1]).findIdx (eqB (step s ev).1) = U.sts.length := by
        have h := idx_self hnd (i := U.sts.length) (by simp)
        simpa using h
      have e1 : [ev].filterMap (eOf step (U.sts ++ [(step s ev).1]) i s) = [((i : Int), ev, ((U.sts.length : Nat) : Int))] := by
        simp [List.filterMap_cons, eOf, hp, e2]
      refine ⟨[(step s ev).1], ?_, ⟨hok, hnd, ?_⟩, fun _ => by simp⟩
      · rw [e1]
      · show kOf (U.eds ++ _) 1 = some (U.sts ++ _).length
        rw [e1, kOf_app, hU.fr]
        simp only [Option.bind_some, kOf]
        rw [if_pos ⟨⟨by omega, by omega⟩, by omega, by omega⟩, if_pos True.intro]
        simp
theorem uvisits_spec (hF : Fin1 step eq lim P) {i : Nat} {s : σ} (hs : P s) : ∀ (l : List Int) {U : Unf σ}, UOk P U → i < U.sts.length →
    (∃ ev ∈ l, (step s ev).2.2 ≠ 0 ∧ uvisits eq lim step i s l U = .error (step s ev).2.2) ∨ ∃ r, uvisits eq lim step i s l U = .ok ⟨U.sts ++ r, U.mkl, U.eds ++ l.filterMap (eOf step (U.sts ++ r) i s)⟩ ∧
      UOk P ⟨U.sts ++ r, U.mkl, U.eds ++ l.filterMap (eOf step (U.sts ++ r) i s)⟩ ∧ ∀ ev ∈ l, (step s ev).2.2 = 0 ∧ ((step s ev).2.1 = true → (step s ev).1 ∈ U.sts ++ r)
  | [], U, hU, _ => .inr ⟨[], by simp [uvisits], by simpa using hU, by simp⟩
  | ev :: l, U, hU, hi => by
    have h := uvisit_spec hF (ev := ev) hU hs hi
    by_cases he : (step s ev).2.2 ≠ 0
    · rw [if_pos he] at h
      refine .inl ⟨ev, by simp, he, ?_⟩
      simp only [uvisits, h]
    rw [if_neg he] at h
    obtain ⟨r, h1, h2, h3⟩ := h
    simp only [uvisits, h1]
    have hi' : i < (U.sts ++ r).length := by rw [List.length_append]; omega
    rcases uvisits_spec hF hs l h2 hi' with ⟨e, he1, he2, he3⟩ | ⟨r', h4, h5, h6⟩
    · exact .inl ⟨e, by simp [he1], he2, he3⟩
    · have e1 : [ev].filterMap (eOf step (U.sts ++ r) i s) ++ l.filterMap (eOf step (U.sts ++ (r ++ r')) i s) = (ev :: l).filterMap (eOf step (U.sts ++ (r ++ r')) i s) := by
        rw [← List.append_assoc U.sts r r']
        rw [filterMap_congr' (g := eOf step (U.sts ++ r ++ r') i s) (l := [ev]) fun x hx => by rw [List.mem_singleton] at hx; subst hx; exact (eOf_app step h3).symm]
        rw [← List.filterMap_append]
        rfl
      simp only [List.append_assoc] at h4 h5 h6
      rw [e1] at h4 h5
      refine .inr ⟨r ++ r', h4, h5, fun x hx => ?_⟩
      rcases List.mem_cons.1 hx with rfl | hx
      · refine ⟨by simpa using he, fun hp => ?_⟩
        rw [← List.append_assoc]
        exact List.mem_append_left _ (h3 hp)
      · exact h6 x hx
structure UAt (mkd : σ → Bool) (alpha : List Int) (P : σ → Prop) (step : σ → Int → σ × Bool × Int) (i : Nat) (U : Unf σ) : Prop extends UOk P U where
  le : i ≤ U.sts.length
  pos : 0 < U.sts.length
  eds : U.eds = (List.range i).flatMap fun k => match U.sts[k]? with
    | none => []
    | some s => alpha.filterMap (eOf step U.sts k s)
  mkl : U.mkl = ((List.range i).filter fun k => match U.sts[k]? with
    | none => false
    | some s => mkd s).map fun k => ((k : Nat) : Int)
  fine : ∀ k s, k < i → U.sts[k]? = some s → ∀ ev ∈ alpha, (step s ev).2.2 = 0 ∧ ((step s ev).2.1 = true → (step s ev).1 ∈ U.sts)
def UBad (alpha : List Int) (P : σ → Prop) (step : σ → Int → σ × Bool × Int) (e : Int) : Prop := e ≠ 0 ∧ ∃ s, P s ∧ ∃ ev ∈ alpha, (step s ev).2.2 = e
theorem flatMap_congr' {α β : Type} {f g : α → List β} : ∀ {l : List α}, (∀ x ∈ l, f x = g x) → l.flatMap f = l.flatMap g
  | [], _ => rfl
  | x :: r, h => by
    simp only [List.flatMap_cons, h x (by simp)]
    rw [flatMap_congr' (l := r) fun y hy => h y (by simp [hy])]
theorem filter_congr' {α : Type} {f g : α → Bool} : ∀ {l : List α}, (∀ x ∈ l, f x = g x) → l.filter f = l.filter g
  | [], _ => rfl
  | x :: r, h => by
    simp only [List.filter_cons, h x (by simp)]
    rw [filter_congr' (l := r) fun y hy => h y (by simp [hy])]
theorem uloop_spec (hF : Fin1 step eq lim P) {alpha : List Int} {B : Nat} (hB : ∀ l : List σ, (∀ s ∈ l, P s) → l.Nodup → l.length ≤ B) : ∀ (f i : Nat) {U : Unf σ}, UAt mkd alpha P step i U → B < i + f →
    (∃ e, uloop eq lim step mkd alpha f i U = .error e ∧ UBad alpha P step e) ∨ ∃ V, uloop eq lim step mkd alpha f i U = .ok V ∧ UAt mkd alpha P step V.sts.length V
  | 0, i, U, h, hf => by
    have := hB _ h.ok h.nd
    have := h.le
    omega
  | f + 1, i, U, h, hf => by
    simp only [uloop]
    cases hs : U.sts[i]? with
    | none =>
      have hi : i = U.sts.length := by
        have := List.getElem?_eq_none_iff.1 hs
        have := h.le
        omega
      subst hi
      exact .inr ⟨U, rfl, h⟩
    | some s =>
      obtain ⟨hlt, e⟩ := List.getElem?_eq_some_iff.1 hs
      have hPs : P s := h.ok s (e ▸ List.getElem_mem hlt)
      obtain ⟨m1, m2⟩ := umark_sts mkd i s U
      have hM : UOk P (umark mkd i s U) := ⟨by rw [m1]; exact h.ok, by rw [m1]; exact h.nd, by rw [m1, m2]; exact h.fr⟩
      rcases uvisits_spec hF hPs alpha hM (i := i) (by rw [m1]; exact hlt) with ⟨ev, he1, he2, he3⟩ | ⟨r, h4, h5, h6⟩
      · simp only [he3]
        exact .inl ⟨_, rfl, he2, s, hPs, ev, he1, rfl⟩
      · simp only [h4]
        rw [m1, m2] at *
        refine uloop_spec hF hB f (i + 1) (U := _) ⟨h5, ?_, ?_, ?_, ?_, ?_⟩ (by omega)
        · show i + 1 ≤ (U.sts ++ r).length
          simp only [List.length_append]; omega
        · show 0 < (U.sts ++ r).length
          simp only [List.length_append]; omega
        · show U.eds ++ alpha.filterMap (eOf step (U.sts ++ r) i s) = (List.range (i + 1)).flatMap fun k => match (U.sts ++ r)[k]? with
            | none => []
            | some s => alpha.filterMap (eOf step (U.sts ++ r) k s)
          rw [List.range_succ, List.flatMap_append, h.eds]
          congr 1
          · apply flatMap_congr'
            intro k hk
            rw [List.mem_range] at hk
            have hkl : k < U.sts.length := by omega
            rw [List.getElem?_append_left hkl, List.getElem?_eq_getElem hkl]
            simp only
            apply filterMap_congr'
            intro x hx
            exact (eOf_app step (h.fine k _ hk (List.getElem?_eq_getElem hkl) x hx).2).symm
          · simp only [List.flatMap_cons, List.flatMap_nil, List.append_nil]
            rw [List.getElem?_append_left hlt, hs]
        · show (umark mkd i s U).mkl = ((List.range (i + 1)).filter fun k => match (U.sts ++ r)[k]? with
            | none => false
            | some s => mkd s).map fun k => ((k : Nat) : Int)
          rw [List.range_succ, List.filter_append, List.map_append]
          have e1 : ((List.range i).filter fun k => match (U.sts ++ r)[k]? with
            | none => false
            | some s => mkd s) = ((List.range i).filter fun k => match U.sts[k]? with
            | none => false
            | some s => mkd s) := filter_congr' fun k hk => by
              rw [List.mem_range] at hk
              rw [List.getElem?_append_left (by omega)]
          rw [e1, ← h.mkl]
          have e2 : (match (U.sts ++ r)[i]? with
            | none => false
            | some s => mkd s) = mkd s := by
            rw [List.getElem?_append_left hlt, hs]
          simp only [List.filter_cons, List.filter_nil, e2]
          unfold umark
          split <;> simp
        · intro k t hk ht x hx
          show (step t x).2.2 = 0 ∧ ((step t x).2.1 = true → (step t x).1 ∈ U.sts ++ r)
          have ht : (U.sts ++ r)[k]? = some t := ht
          by_cases hki : k = i
          · subst hki
            rw [List.getElem?_append_left hlt, hs] at ht
            simp only [Option.some.injEq] at ht
            subst ht
            exact h6 x hx
          · have hkl : k < i := by omega
            rw [List.getElem?_append_left (by omega)] at ht
            have := h.fine k t hkl ht x hx
            exact ⟨this.1, fun hp => List.mem_append_left _ (this.2 hp)⟩
theorem unfR_spec (hF : Fin1 step eq lim P) {alpha : List Int} {first : σ} (h0 : P first) {B : Nat} (hB : ∀ l : List σ, (∀ s ∈ l, P s) → l.Nodup → l.length ≤ B) (hb : B < 4097) :
    (∃ e, unfR eq lim step mkd alpha first = .error e ∧ UBad alpha P step e) ∨ ∃ V, unfR eq lim step mkd alpha first = .ok V ∧ UAt mkd alpha P step V.sts.length V := by
  refine uloop_spec mkd hF hB 4097 0 ⟨⟨?_, ?_, rfl⟩, Nat.zero_le _, Nat.zero_lt_succ _, rfl, rfl, fun k s hk => absurd hk (Nat.not_lt_zero _)⟩ (by omega)
  · intro s hs
    rw [unf0, List.mem_singleton] at hs
    subst hs
    exact h0
  · simp [unf0]
end
end Go.AI
