/- The layer of abstract runs, part 21. -/
import Derived.Test.YtlcekmemdnjjbaaGreatDoorElkT
import Derived.Test.YtlcekmemdnjjbaaGreatDoorProg
import Derived.KernelRfl
set_option linter.unusedSimpArgs false
set_option linter.unusedVariables false
set_option linter.all false
set_option maxRecDepth 20000
namespace Go.AI
open Go.Proofs
def zrS : TI := { size := 1, bytes := 8, k := .sc, zero := [.nilFunc] }
def zrR : TI := { size := 1, bytes := 8, k := .int .i64, zero := [.int .i64 0] }
def zpV : TI := { size := 1, bytes := 8, k := .int .i64, zero := [.int .i64 0] }
def zrQ : TI := { size := 1, bytes := 1, k := .bool, zero := [.bool false] }
def zrP : TI := { size := 1, bytes := 1, k := .int .u8, zero := [.int .u8 0] }
def zrO : TI := { size := 1, bytes := 16, k := .str, zero := [.string ⟨#[]⟩] }
def zp3 : TI := { size := 1, bytes := 8, k := .int .u64, zero := [.int .u64 0] }
def zp1 : TI := { size := 1, bytes := 4, k := .int .i32, zero := [.int .i32 0] }
def zp0 : TI := { size := 1, bytes := 1, k := .int .u8, zero := [.int .u8 0] }
def zpZ : TI := { size := 5, bytes := 5, k := .arr 5 5, zero := [.int .u8 0, .int .u8 0, .int .u8 0, .int .u8 0, .int .u8 0] }
def zpY : TI := { size := 25, bytes := 25, k := .arr 5 23, zero := [.int .u8 0, .int .u8 0, .int .u8 0, .int .u8 0, .int .u8 0, .int .u8 0, .int .u8 0, .int .u8 0, .int .u8 0, .int .u8 0, .int .u8 0, .int .u8 0, .int .u8 0, .int .u8 0, .int .u8 0, .int .u8 0, .int .u8 0, .int .u8 0, .int .u8 0, .int .u8 0, .int .u8 0, .int .u8 0, .int .u8 0, .int .u8 0, .int .u8 0] }
def zpX : TI := { size := 27, bytes := 27, k := .struct [(0, 1, false), (1, 1, false), (2, 25, true)], zero := [.int .u8 0, .int .u8 0, .int .u8 0, .int .u8 0, .int .u8 0, .int .u8 0, .int .u8 0, .int .u8 0, .int .u8 0, .int .u8 0, .int .u8 0, .int .u8 0, .int .u8 0, .int .u8 0, .int .u8 0, .int .u8 0, .int .u8 0, .int .u8 0, .int .u8 0, .int .u8 0, .int .u8 0, .int .u8 0, .int .u8 0, .int .u8 0, .int .u8 0, .int .u8 0, .int .u8 0] }
def zpU : TI := { size := 1, bytes := 24, k := .slice 3, zero := [.slice none 0 0] }
def zpT : TI := { size := 1, bytes := 8, k := .int .i64, zero := [.int .i64 0] }
def zpS : TI := { size := 1, bytes := 24, k := .slice 117, zero := [.slice none 0 0] }
def zpR : TI := { size := 4, bytes := 80, k := .struct [(0, 1, false), (1, 1, false), (2, 1, false), (3, 1, false)], zero := [.slice none 0 0, .int .i64 0, .slice none 0 0, .slice none 0 0] }
def zpP : TI := { size := 1, bytes := 24, k := .slice 5, zero := [.slice none 0 0] }
def zkg : TI := { size := 2, bytes := 16, k := .arr 2 3, zero := [.int .i64 0, .int .i64 0], cmp := [.int .i64, .int .i64] }
def zpN : TI := { size := 1, bytes := 24, k := .slice 31, zero := [.slice none 0 0] }
def zpL : TI := { size := 3, bytes := 3, k := .arr 3 22, zero := [.int .u8 0, .int .u8 0, .int .u8 0] }
def zpK : TI := { size := 81, bytes := 81, k := .arr 3 26, zero := [.int .u8 0, .int .u8 0, .int .u8 0, .int .u8 0, .int .u8 0, .int .u8 0, .int .u8 0, .int .u8 0, .int .u8 0, .int .u8 0, .int .u8 0, .int .u8 0, .int .u8 0, .int .u8 0, .int .u8 0, .int .u8 0, .int .u8 0, .int .u8 0, .int .u8 0, .int .u8 0, .int .u8 0, .int .u8 0, .int .u8 0, .int .u8 0, .int .u8 0, .int .u8 0, .int .u8 0, .int .u8 0, .int .u8 0, .int .u8 0, .int .u8 0, .int .u8 0, .int .u8 0, .int .u8 0, .int .u8 0, .int .u8 0, .int .u8 0, .int .u8 0, .int .u8 0, .int .u8 0, .int .u8 0, .int .u8 0, .int .u8 0, .int .u8 0, .int .u8 0, .int .u8 0, .int .u8 0, .int .u8 0, .int .u8 0, .int .u8 0, .int .u8 0, .int .u8 0, .int .u8 0, .int .u8 0, .int .u8 0, .int .u8 0, .int .u8 0, .int .u8 0, .int .u8 0, .int .u8 0, .int .u8 0, .int .u8 0, .int .u8 0, .int .u8 0, .int .u8 0, .int .u8 0, .int .u8 0, .int .u8 0, .int .u8 0, .int .u8 0, .int .u8 0, .int .u8 0, .int .u8 0, .int .u8 0, .int .u8 0, .int .u8 0, .int .u8 0, .int .u8 0, .int .u8 0, .int .u8 0, .int .u8 0] }
def zpJ : TI := { size := 1, bytes := 24, k := .slice 39, zero := [.slice none 0 0] }
def zpI : TI := { size := 1, bytes := 24, k := .slice 77, zero := [.slice none 0 0] }
def zpH : TI := { size := 1, bytes := 24, k := .slice 164, zero := [.slice none 0 0] }
def zpG : TI := { size := 1, bytes := 24, k := .slice 150, zero := [.slice none 0 0] }
def zpF : TI := { size := 6, bytes := 112, k := .struct [(0, 1, false), (1, 1, false), (2, 1, false), (3, 1, false), (4, 1, false), (5, 1, false)], zero := [.slice none 0 0, .int .i64 0, .int .i64 0, .slice none 0 0, .slice none 0 0, .slice none 0 0] }
def zpE : TI := { size := 1, bytes := 24, k := .slice 87, zero := [.slice none 0 0] }
def zpD : TI := { size := 2, bytes := 48, k := .struct [(0, 1, false), (1, 1, false)], zero := [.slice none 0 0, .slice none 0 0] }
def zml : TI := { size := 1, bytes := 8, k := .sc, zero := [.nilFunc] }
def zmk : TI := { size := 3, bytes := 24, k := .struct [(0, 1, false), (1, 1, false), (2, 1, false)], zero := [.int .i64 0, .int .i64 0, .int .i64 0], cmp := [.int .i64, .int .i64, .int .i64] }
def zmj : TI := { size := 1, bytes := 24, k := .slice 196, zero := [.slice none 0 0] }
def zmi : TI := { size := 1, bytes := 24, k := .slice 140, zero := [.slice none 0 0] }
def zmh : TI := { size := 4, bytes := 48, k := .struct [(0, 1, false), (1, 1, false), (2, 1, false), (3, 1, false)], zero := [.int .i64 0, .int .i64 0, .int .i64 0, .slice none 0 0] }
def zmg : TI := { size := 1, bytes := 24, k := .slice 206, zero := [.slice none 0 0] }
def zmf : TI := { size := 8, bytes := 96, k := .struct [(0, 1, false), (1, 1, false), (2, 1, false), (3, 4, true), (7, 1, false)], zero := [.int .i64 0, .int .i64 0, .int .i64 0, .int .i64 0, .int .i64 0, .int .i64 0, .slice none 0 0, .slice none 0 0] }
def zme : TI := { size := 1, bytes := 24, k := .slice 214, zero := [.slice none 0 0] }
def zmd : TI := { size := 3, bytes := 72, k := .struct [(0, 1, false), (1, 1, false), (2, 1, false)], zero := [.slice none 0 0, .slice none 0 0, .slice none 0 0] }
def zmc : TI := { size := 1, bytes := 8, k := .map 9 3, zero := [.map none] }
def zmb : TI := { size := 4, bytes := 40, k := .struct [(0, 1, false), (1, 1, false), (2, 1, false), (3, 1, false)], zero := [.string ⟨#[]⟩, .int .i64 0, .int .i64 0, .int .i64 0], cmp := [.str, .int .i64, .int .i64, .int .i64] }
def zma : TI := { size := 1, bytes := 8, k := .sc, zero := [.nilFunc] }
def zl9 : TI := { size := 1, bytes := 8, k := .sc, zero := [.nilFunc] }
def zl8 : TI := { size := 1, bytes := 8, k := .sc, zero := [.nilFunc] }
def zl7 : TI := { size := 2, bytes := 32, k := .struct [(0, 1, false), (1, 1, false)], zero := [.int .i64 0, .slice none 0 0] }
def zl6 : TI := { size := 1, bytes := 8, k := .sc, zero := [.nilFunc] }
def zl5 : TI := { size := 1, bytes := 8, k := .sc, zero := [.nilFunc] }
def zl4 : TI := { size := 1, bytes := 8, k := .sc, zero := [.nilFunc] }
def zl3 : TI := { size := 5, bytes := 56, k := .struct [(0, 1, false), (1, 4, true)], zero := [.int .i64 0, .int .i64 0, .int .i64 0, .int .i64 0, .slice none 0 0] }
def zh7 : TI := { size := 1, bytes := 8, k := .map 48 3, zero := [.map none] }
def zl2 : TI := { size := 1, bytes := 8, k := .ptr 217, zero := [.pointer none] }
def zl1 : TI := { size := 2, bytes := 32, k := .struct [(0, 1, false), (1, 1, false)], zero := [.pointer none, .slice none 0 0] }
def zl0 : TI := { size := 1, bytes := 16, k := .sc, zero := [.nilIface] }
def zlZ : TI := { size := 1, bytes := 8, k := .int .u64, zero := [.int .u64 0] }
def zlY : TI := { size := 1, bytes := 8, k := .map 3 4, zero := [.map none] }
def zlX : TI := { size := 1, bytes := 8, k := .sc, zero := [.nilFunc] }
def zlW : TI := { size := 1, bytes := 8, k := .ptr 3, zero := [.pointer none] }
def zlV : TI := { size := 1, bytes := 8, k := .int .i64, zero := [.int .i64 0] }
def zlU : TI := { size := 1, bytes := 4, k := .int .u32, zero := [.int .u32 0] }
def zlT : TI := { size := 1, bytes := 8, k := .int .u64, zero := [.int .u64 0] }
def zlS : TI := { size := 1, bytes := 8, k := .ptr 150, zero := [.pointer none] }
def zlR : TI := { size := 1, bytes := 8, k := .sc, zero := [.nilFunc] }
def zlQ : TI := { size := 1, bytes := 8, k := .int .u64, zero := [.int .u64 0] }
def zlP : TI := { size := 24, bytes := 24, k := .arr 24 5, zero := [.int .u8 0, .int .u8 0, .int .u8 0, .int .u8 0, .int .u8 0, .int .u8 0, .int .u8 0, .int .u8 0, .int .u8 0, .int .u8 0, .int .u8 0, .int .u8 0, .int .u8 0, .int .u8 0, .int .u8 0, .int .u8 0, .int .u8 0, .int .u8 0, .int .u8 0, .int .u8 0, .int .u8 0, .int .u8 0, .int .u8 0, .int .u8 0] }
def zlO : TI := { size := 1, bytes := 8, k := .ptr 295, zero := [.pointer none] }
def zlN : TI := { size := 20, bytes := 160, k := .arr 20 277, zero := [.int .u64 0, .int .u64 0, .int .u64 0, .int .u64 0, .int .u64 0, .int .u64 0, .int .u64 0, .int .u64 0, .int .u64 0, .int .u64 0, .int .u64 0, .int .u64 0, .int .u64 0, .int .u64 0, .int .u64 0, .int .u64 0, .int .u64 0, .int .u64 0, .int .u64 0, .int .u64 0] }
def zlM : TI := { size := 65, bytes := 65, k := .arr 65 5, zero := [.int .u8 0, .int .u8 0, .int .u8 0, .int .u8 0, .int .u8 0, .int .u8 0, .int .u8 0, .int .u8 0, .int .u8 0, .int .u8 0, .int .u8 0, .int .u8 0, .int .u8 0, .int .u8 0, .int .u8 0, .int .u8 0, .int .u8 0, .int .u8 0, .int .u8 0, .int .u8 0, .int .u8 0, .int .u8 0, .int .u8 0, .int .u8 0, .int .u8 0, .int .u8 0, .int .u8 0, .int .u8 0, .int .u8 0, .int .u8 0, .int .u8 0, .int .u8 0, .int .u8 0, .int .u8 0, .int .u8 0, .int .u8 0, .int .u8 0, .int .u8 0, .int .u8 0, .int .u8 0, .int .u8 0, .int .u8 0, .int .u8 0, .int .u8 0, .int .u8 0, .int .u8 0, .int .u8 0, .int .u8 0, .int .u8 0, .int .u8 0, .int .u8 0, .int .u8 0, .int .u8 0, .int .u8 0, .int .u8 0, .int .u8 0, .int .u8 0, .int .u8 0, .int .u8 0, .int .u8 0, .int .u8 0, .int .u8 0, .int .u8 0, .int .u8 0, .int .u8 0] }
def zlL : TI := { size := 32, bytes := 32, k := .arr 32 5, zero := [.int .u8 0, .int .u8 0, .int .u8 0, .int .u8 0, .int .u8 0, .int .u8 0, .int .u8 0, .int .u8 0, .int .u8 0, .int .u8 0, .int .u8 0, .int .u8 0, .int .u8 0, .int .u8 0, .int .u8 0, .int .u8 0, .int .u8 0, .int .u8 0, .int .u8 0, .int .u8 0, .int .u8 0, .int .u8 0, .int .u8 0, .int .u8 0, .int .u8 0, .int .u8 0, .int .u8 0, .int .u8 0, .int .u8 0, .int .u8 0, .int .u8 0, .int .u8 0] }
def zlK : TI := { size := 64, bytes := 64, k := .arr 64 5, zero := [.int .u8 0, .int .u8 0, .int .u8 0, .int .u8 0, .int .u8 0, .int .u8 0, .int .u8 0, .int .u8 0, .int .u8 0, .int .u8 0, .int .u8 0, .int .u8 0, .int .u8 0, .int .u8 0, .int .u8 0, .int .u8 0, .int .u8 0, .int .u8 0, .int .u8 0, .int .u8 0, .int .u8 0, .int .u8 0, .int .u8 0, .int .u8 0, .int .u8 0, .int .u8 0, .int .u8 0, .int .u8 0, .int .u8 0, .int .u8 0, .int .u8 0, .int .u8 0, .int .u8 0, .int .u8 0, .int .u8 0, .int .u8 0, .int .u8 0, .int .u8 0, .int .u8 0, .int .u8 0, .int .u8 0, .int .u8 0, .int .u8 0, .int .u8 0, .int .u8 0, .int .u8 0, .int .u8 0, .int .u8 0, .int .u8 0, .int .u8 0, .int .u8 0, .int .u8 0, .int .u8 0, .int .u8 0, .int .u8 0, .int .u8 0, .int .u8 0, .int .u8 0, .int .u8 0, .int .u8 0, .int .u8 0, .int .u8 0, .int .u8 0, .int .u8 0] }
theorem zp2 : TIok Tryz.prog 1 zrS := tiok Tryz.type1 rfl rfl rfl rfl (by intro h; first | rfl | cases h) ⟨_, Tryz.underlying1, (by intro x h; cases h), (by intro x y h; cases h)⟩ (by decide) rfl (by decide) (.inl rfl)
theorem zpW : TIok Tryz.prog 2 zrR := tiok Tryz.type2 rfl rfl rfl rfl (by intro h; first | rfl | cases h) Tryz.underlying2 (by decide) rfl (by decide) (.inl rfl)
theorem zpQ : TIok Tryz.prog 3 zpV := tiok Tryz.type3 rfl rfl rfl rfl (by intro h; first | rfl | cases h) Tryz.underlying3 (by decide) rfl (by decide) (.inl rfl)
theorem zpO : TIok Tryz.prog 4 zrQ := tiok Tryz.type4 rfl rfl rfl rfl (by intro h; first | rfl | cases h) Tryz.underlying4 (by decide) rfl (by decide) (.inl rfl)
theorem zpM : TIok Tryz.prog 5 zrP := tiok Tryz.type5 rfl rfl rfl rfl (by intro h; first | rfl | cases h) Tryz.underlying5 (by decide) rfl (by decide) (.inl rfl)
theorem zpC : TIok Tryz.prog 9 zrO := tiok Tryz.type9 rfl rfl rfl rfl (by intro h; first | rfl | cases h) Tryz.underlying9 (by decide) rfl (by decide) (.inl rfl)
theorem znD : TIok Tryz.prog 12 zp3 := tiok Tryz.type12 rfl rfl rfl rfl (by intro h; first | rfl | cases h) Tryz.underlying12 (by decide) rfl (by decide) (.inl rfl)
theorem znC : TIok Tryz.prog 21 zp1 := tiok Tryz.type21 rfl rfl rfl rfl (by intro h; first | rfl | cases h) Tryz.underlying21 (by decide) rfl (by decide) (.inl rfl)
theorem znB : TIok Tryz.prog 22 zp0 := tiok Tryz.type22 rfl rfl rfl rfl (by intro h; first | rfl | cases h) Tryz.underlying22 (by decide) rfl (by decide) (.inl rfl)
theorem znA : TIok Tryz.prog 23 zpZ := tiok Tryz.type23 rfl rfl rfl rfl (by intro h; first | rfl | cases h) Tryz.underlying23 (by decide) rfl (by decide) (.inl rfl)
theorem znz : TIok Tryz.prog 24 zpY := tiok Tryz.type24 rfl rfl rfl rfl (by intro h; first | rfl | cases h) Tryz.underlying24 (by decide) rfl (by decide) (.inl rfl)
theorem zny : TIok Tryz.prog 26 zpX := tiok Tryz.type26 rfl rfl rfl rfl (by intro h; first | rfl | cases h) (zaV Tryz.underlying26 (.cons ⟨rfl, ⟨_, Tryz.type5, rfl⟩, by decide, Tryz.isAgg5⟩ (.cons ⟨rfl, ⟨_, Tryz.type5, rfl⟩, by decide, Tryz.isAgg5⟩ (.cons ⟨rfl, ⟨_, Tryz.type24, rfl⟩, by decide, Tryz.isAgg24⟩ .nil)))) (by decide) rfl (by decide) (.inl rfl)
theorem znx : TIok Tryz.prog 31 zpU := tiok Tryz.type31 rfl rfl rfl rfl (by intro h; first | rfl | cases h) Tryz.underlying31 (by decide) rfl (by decide) (.inl rfl)
theorem znw : TIok Tryz.prog 34 zpT := tiok Tryz.type34 rfl rfl rfl rfl (by intro h; first | rfl | cases h) Tryz.underlying34 (by decide) rfl (by decide) (.inl rfl)
theorem znv : TIok Tryz.prog 37 zpS := tiok Tryz.type37 rfl rfl rfl rfl (by intro h; first | rfl | cases h) Tryz.underlying37 (by decide) rfl (by decide) (.inl rfl)
theorem znu : TIok Tryz.prog 39 zpR := tiok Tryz.type39 rfl rfl rfl rfl (by intro h; first | rfl | cases h) (zaV Tryz.underlying39 (.cons ⟨rfl, ⟨_, Tryz.type31, rfl⟩, by decide, Tryz.isAgg31⟩ (.cons ⟨rfl, ⟨_, Tryz.type3, rfl⟩, by decide, Tryz.isAgg3⟩ (.cons ⟨rfl, ⟨_, Tryz.type31, rfl⟩, by decide, Tryz.isAgg31⟩ (.cons ⟨rfl, ⟨_, Tryz.type37, rfl⟩, by decide, Tryz.isAgg37⟩ .nil))))) (by decide) rfl (by decide) (.inl rfl)
theorem znt : TIok Tryz.prog 44 zpP := tiok Tryz.type44 rfl rfl rfl rfl (by intro h; first | rfl | cases h) Tryz.underlying44 (by decide) rfl (by decide) (.inl rfl)
theorem zns : TIok Tryz.prog 48 zkg := tiok Tryz.type48 rfl rfl rfl rfl (by intro h; first | rfl | cases h) Tryz.underlying48 (by decide) rfl (by decide) (.inr (.inr ⟨3, .i64, rfl, Tryz.underlying48, Tryz.underlying3, ⟨_, Tryz.type3, rfl⟩, Tryz.eqGuardType48⟩))
theorem znr : TIok Tryz.prog 51 zpN := tiok Tryz.type51 rfl rfl rfl rfl (by intro h; first | rfl | cases h) Tryz.underlying51 (by decide) rfl (by decide) (.inl rfl)
theorem znq : TIok Tryz.prog 68 zpL := tiok Tryz.type68 rfl rfl rfl rfl (by intro h; first | rfl | cases h) Tryz.underlying68 (by decide) rfl (by decide) (.inl rfl)
theorem znp : TIok Tryz.prog 69 zpK := tiok Tryz.type69 rfl rfl rfl rfl (by intro h; first | rfl | cases h) Tryz.underlying69 (by decide) rfl (by decide) (.inl rfl)
theorem zno : TIok Tryz.prog 70 zpJ := tiok Tryz.type70 rfl rfl rfl rfl (by intro h; first | rfl | cases h) Tryz.underlying70 (by decide) rfl (by decide) (.inl rfl)
theorem znn : TIok Tryz.prog 71 zpI := tiok Tryz.type71 rfl rfl rfl rfl (by intro h; first | rfl | cases h) Tryz.underlying71 (by decide) rfl (by decide) (.inl rfl)
theorem znm : TIok Tryz.prog 74 zpH := tiok Tryz.type74 rfl rfl rfl rfl (by intro h; first | rfl | cases h) Tryz.underlying74 (by decide) rfl (by decide) (.inl rfl)
theorem znl : TIok Tryz.prog 75 zpG := tiok Tryz.type75 rfl rfl rfl rfl (by intro h; first | rfl | cases h) Tryz.underlying75 (by decide) rfl (by decide) (.inl rfl)
theorem znk : TIok Tryz.prog 77 zpF := tiok Tryz.type77 rfl rfl rfl rfl (by intro h; first | rfl | cases h) (zaV Tryz.underlying77 (.cons ⟨rfl, ⟨_, Tryz.type31, rfl⟩, by decide, Tryz.isAgg31⟩ (.cons ⟨rfl, ⟨_, Tryz.type3, rfl⟩, by decide, Tryz.isAgg3⟩ (.cons ⟨rfl, ⟨_, Tryz.type3, rfl⟩, by decide, Tryz.isAgg3⟩ (.cons ⟨rfl, ⟨_, Tryz.type31, rfl⟩, by decide, Tryz.isAgg31⟩ (.cons ⟨rfl, ⟨_, Tryz.type74, rfl⟩, by decide, Tryz.isAgg74⟩ (.cons ⟨rfl, ⟨_, Tryz.type75, rfl⟩, by decide, Tryz.isAgg75⟩ .nil))))))) (by decide) rfl (by decide) (.inl rfl)
theorem znj : TIok Tryz.prog 81 zpE := tiok Tryz.type81 rfl rfl rfl rfl (by intro h; first | rfl | cases h) Tryz.underlying81 (by decide) rfl (by decide) (.inl rfl)
theorem zni : TIok Tryz.prog 87 zpD := tiok Tryz.type87 rfl rfl rfl rfl (by intro h; first | rfl | cases h) (zaV Tryz.underlying87 (.cons ⟨rfl, ⟨_, Tryz.type31, rfl⟩, by decide, Tryz.isAgg31⟩ (.cons ⟨rfl, ⟨_, Tryz.type31, rfl⟩, by decide, Tryz.isAgg31⟩ .nil))) (by decide) rfl (by decide) (.inl rfl)
theorem zkT : TIok Tryz.prog 105 zml := tiok Tryz.type105 rfl rfl rfl rfl (by intro h; first | rfl | cases h) ⟨_, Tryz.underlying105, (by intro x h; cases h), (by intro x y h; cases h)⟩ (by decide) rfl (by decide) (.inl rfl)
theorem zkS : TIok Tryz.prog 117 zmk := tiok Tryz.type117 rfl rfl rfl rfl (by intro h; first | rfl | cases h) (zaV Tryz.underlying117 (.cons ⟨rfl, ⟨_, Tryz.type3, rfl⟩, by decide, Tryz.isAgg3⟩ (.cons ⟨rfl, ⟨_, Tryz.type3, rfl⟩, by decide, Tryz.isAgg3⟩ (.cons ⟨rfl, ⟨_, Tryz.type3, rfl⟩, by decide, Tryz.isAgg3⟩ .nil)))) (by decide) rfl (by decide) (.inr (.inl ⟨Tryz.underlying117, by kernel_rfl, Tryz.eqGuardType117, ⟨by decide, rfl, Tryz.underlying3, ⟨by decide, rfl, Tryz.underlying3, ⟨by decide, rfl, Tryz.underlying3, trivial⟩⟩⟩⟩))
theorem zkR : TIok Tryz.prog 134 zmj := tiok Tryz.type134 rfl rfl rfl rfl (by intro h; first | rfl | cases h) Tryz.underlying134 (by decide) rfl (by decide) (.inl rfl)
theorem zkQ : TIok Tryz.prog 138 zmi := tiok Tryz.type138 rfl rfl rfl rfl (by intro h; first | rfl | cases h) Tryz.underlying138 (by decide) rfl (by decide) (.inl rfl)
theorem zkP : TIok Tryz.prog 140 zmh := tiok Tryz.type140 rfl rfl rfl rfl (by intro h; first | rfl | cases h) (zaV Tryz.underlying140 (.cons ⟨rfl, ⟨_, Tryz.type3, rfl⟩, by decide, Tryz.isAgg3⟩ (.cons ⟨rfl, ⟨_, Tryz.type3, rfl⟩, by decide, Tryz.isAgg3⟩ (.cons ⟨rfl, ⟨_, Tryz.type3, rfl⟩, by decide, Tryz.isAgg3⟩ (.cons ⟨rfl, ⟨_, Tryz.type138, rfl⟩, by decide, Tryz.isAgg138⟩ .nil))))) (by decide) rfl (by decide) (.inl rfl)
theorem zkO : TIok Tryz.prog 148 zmg := tiok Tryz.type148 rfl rfl rfl rfl (by intro h; first | rfl | cases h) Tryz.underlying148 (by decide) rfl (by decide) (.inl rfl)
theorem zkN : TIok Tryz.prog 150 zmf := tiok Tryz.type150 rfl rfl rfl rfl (by intro h; first | rfl | cases h) (zaV Tryz.underlying150 (.cons ⟨rfl, ⟨_, Tryz.type3, rfl⟩, by decide, Tryz.isAgg3⟩ (.cons ⟨rfl, ⟨_, Tryz.type3, rfl⟩, by decide, Tryz.isAgg3⟩ (.cons ⟨rfl, ⟨_, Tryz.type3, rfl⟩, by decide, Tryz.isAgg3⟩ (.cons ⟨rfl, ⟨_, Tryz.type140, rfl⟩, by decide, Tryz.isAgg140⟩ (.cons ⟨rfl, ⟨_, Tryz.type148, rfl⟩, by decide, Tryz.isAgg148⟩ .nil)))))) (by decide) rfl (by decide) (.inl rfl)
theorem zkM : TIok Tryz.prog 152 zme := tiok Tryz.type152 rfl rfl rfl rfl (by intro h; first | rfl | cases h) Tryz.underlying152 (by decide) rfl (by decide) (.inl rfl)
theorem zkL : TIok Tryz.prog 154 zmd := tiok Tryz.type154 rfl rfl rfl rfl (by intro h; first | rfl | cases h) (zaV Tryz.underlying154 (.cons ⟨rfl, ⟨_, Tryz.type70, rfl⟩, by decide, Tryz.isAgg70⟩ (.cons ⟨rfl, ⟨_, Tryz.type31, rfl⟩, by decide, Tryz.isAgg31⟩ (.cons ⟨rfl, ⟨_, Tryz.type152, rfl⟩, by decide, Tryz.isAgg152⟩ .nil)))) (by decide) rfl (by decide) (.inl rfl)
theorem zkK : TIok Tryz.prog 159 zmc := tiok Tryz.type159 rfl rfl rfl rfl (by intro h; first | rfl | cases h) Tryz.underlying159 (by decide) rfl (by decide) (.inl rfl)
theorem zkJ : TIok Tryz.prog 164 zmb := tiok Tryz.type164 rfl rfl rfl rfl (by intro h; first | rfl | cases h) (zaV Tryz.underlying164 (.cons ⟨rfl, ⟨_, Tryz.type9, rfl⟩, by decide, Tryz.isAgg9⟩ (.cons ⟨rfl, ⟨_, Tryz.type3, rfl⟩, by decide, Tryz.isAgg3⟩ (.cons ⟨rfl, ⟨_, Tryz.type3, rfl⟩, by decide, Tryz.isAgg3⟩ (.cons ⟨rfl, ⟨_, Tryz.type3, rfl⟩, by decide, Tryz.isAgg3⟩ .nil))))) (by decide) rfl (by decide) (.inr (.inl ⟨Tryz.underlying164, by kernel_rfl, Tryz.eqGuardType164, ⟨by decide, rfl, Tryz.underlying9, ⟨by decide, rfl, Tryz.underlying3, ⟨by decide, rfl, Tryz.underlying3, ⟨by decide, rfl, Tryz.underlying3, trivial⟩⟩⟩⟩⟩))
theorem zkI : TIok Tryz.prog 166 zma := tiok Tryz.type166 rfl rfl rfl rfl (by intro h; first | rfl | cases h) ⟨_, Tryz.underlying166, (by intro x h; cases h), (by intro x y h; cases h)⟩ (by decide) rfl (by decide) (.inl rfl)
theorem zkH : TIok Tryz.prog 169 zl9 := tiok Tryz.type169 rfl rfl rfl rfl (by intro h; first | rfl | cases h) ⟨_, Tryz.underlying169, (by intro x h; cases h), (by intro x y h; cases h)⟩ (by decide) rfl (by decide) (.inl rfl)
theorem zkG : TIok Tryz.prog 170 zl8 := tiok Tryz.type170 rfl rfl rfl rfl (by intro h; first | rfl | cases h) ⟨_, Tryz.underlying170, (by intro x h; cases h), (by intro x y h; cases h)⟩ (by decide) rfl (by decide) (.inl rfl)
theorem zkF : TIok Tryz.prog 196 zl7 := tiok Tryz.type196 rfl rfl rfl rfl (by intro h; first | rfl | cases h) (zaV Tryz.underlying196 (.cons ⟨rfl, ⟨_, Tryz.type3, rfl⟩, by decide, Tryz.isAgg3⟩ (.cons ⟨rfl, ⟨_, Tryz.type31, rfl⟩, by decide, Tryz.isAgg31⟩ .nil))) (by decide) rfl (by decide) (.inl rfl)
theorem zkE : TIok Tryz.prog 199 zl6 := tiok Tryz.type199 rfl rfl rfl rfl (by intro h; first | rfl | cases h) ⟨_, Tryz.underlying199, (by intro x h; cases h), (by intro x y h; cases h)⟩ (by decide) rfl (by decide) (.inl rfl)
theorem zkD : TIok Tryz.prog 202 zl5 := tiok Tryz.type202 rfl rfl rfl rfl (by intro h; first | rfl | cases h) ⟨_, Tryz.underlying202, (by intro x h; cases h), (by intro x y h; cases h)⟩ (by decide) rfl (by decide) (.inl rfl)
theorem zkC : TIok Tryz.prog 203 zl4 := tiok Tryz.type203 rfl rfl rfl rfl (by intro h; first | rfl | cases h) ⟨_, Tryz.underlying203, (by intro x h; cases h), (by intro x y h; cases h)⟩ (by decide) rfl (by decide) (.inl rfl)
theorem zkB : TIok Tryz.prog 206 zl3 := tiok Tryz.type206 rfl rfl rfl rfl (by intro h; first | rfl | cases h) (zaV Tryz.underlying206 (.cons ⟨rfl, ⟨_, Tryz.type3, rfl⟩, by decide, Tryz.isAgg3⟩ (.cons ⟨rfl, ⟨_, Tryz.type140, rfl⟩, by decide, Tryz.isAgg140⟩ .nil))) (by decide) rfl (by decide) (.inl rfl)
theorem zkA : TIok Tryz.prog 214 zh7 := tiok Tryz.type214 rfl rfl rfl rfl (by intro h; first | rfl | cases h) Tryz.underlying214 (by decide) rfl (by decide) (.inl rfl)
theorem zkz : TIok Tryz.prog 215 zl2 := tiok Tryz.type215 rfl rfl rfl rfl (by intro h; first | rfl | cases h) Tryz.underlying215 (by decide) rfl (by decide) (.inl rfl)
theorem zky : TIok Tryz.prog 217 zl1 := tiok Tryz.type217 rfl rfl rfl rfl (by intro h; first | rfl | cases h) (zaV Tryz.underlying217 (.cons ⟨rfl, ⟨_, Tryz.type215, rfl⟩, by decide, Tryz.isAgg215⟩ (.cons ⟨rfl, ⟨_, Tryz.type44, rfl⟩, by decide, Tryz.isAgg44⟩ .nil))) (by decide) rfl (by decide) (.inl rfl)
theorem zkx : TIok Tryz.prog 219 zl0 := tiok Tryz.type219 rfl rfl rfl rfl (by intro h; first | rfl | cases h) ⟨_, Tryz.underlying219, (by intro x h; cases h), (by intro x y h; cases h)⟩ (by decide) rfl (by decide) (.inl rfl)
theorem zkw : TIok Tryz.prog 234 zlZ := tiok Tryz.type234 rfl rfl rfl rfl (by intro h; first | rfl | cases h) Tryz.underlying234 (by decide) rfl (by decide) (.inl rfl)
theorem zkv : TIok Tryz.prog 246 zlY := tiok Tryz.type246 rfl rfl rfl rfl (by intro h; first | rfl | cases h) Tryz.underlying246 (by decide) rfl (by decide) (.inl rfl)
theorem zku : TIok Tryz.prog 256 zlX := tiok Tryz.type256 rfl rfl rfl rfl (by intro h; first | rfl | cases h) ⟨_, Tryz.underlying256, (by intro x h; cases h), (by intro x y h; cases h)⟩ (by decide) rfl (by decide) (.inl rfl)
theorem zkt : TIok Tryz.prog 262 zlW := tiok Tryz.type262 rfl rfl rfl rfl (by intro h; first | rfl | cases h) Tryz.underlying262 (by decide) rfl (by decide) (.inl rfl)
theorem zks : TIok Tryz.prog 268 zlV := tiok Tryz.type268 rfl rfl rfl rfl (by intro h; first | rfl | cases h) Tryz.underlying268 (by decide) rfl (by decide) (.inl rfl)
theorem zkr : TIok Tryz.prog 275 zlU := tiok Tryz.type275 rfl rfl rfl rfl (by intro h; first | rfl | cases h) Tryz.underlying275 (by decide) rfl (by decide) (.inl rfl)
theorem zkq : TIok Tryz.prog 277 zlT := tiok Tryz.type277 rfl rfl rfl rfl (by intro h; first | rfl | cases h) Tryz.underlying277 (by decide) rfl (by decide) (.inl rfl)
theorem zkp : TIok Tryz.prog 281 zlS := tiok Tryz.type281 rfl rfl rfl rfl (by intro h; first | rfl | cases h) Tryz.underlying281 (by decide) rfl (by decide) (.inl rfl)
theorem zko : TIok Tryz.prog 286 zlR := tiok Tryz.type286 rfl rfl rfl rfl (by intro h; first | rfl | cases h) ⟨_, Tryz.underlying286, (by intro x h; cases h), (by intro x y h; cases h)⟩ (by decide) rfl (by decide) (.inl rfl)
theorem zkn : TIok Tryz.prog 295 zlQ := tiok Tryz.type295 rfl rfl rfl rfl (by intro h; first | rfl | cases h) Tryz.underlying295 (by decide) rfl (by decide) (.inl rfl)
theorem zkm : TIok Tryz.prog 305 zlP := tiok Tryz.type305 rfl rfl rfl rfl (by intro h; first | rfl | cases h) Tryz.underlying305 (by decide) rfl (by decide) (.inl rfl)
theorem zkl : TIok Tryz.prog 309 zlO := tiok Tryz.type309 rfl rfl rfl rfl (by intro h; first | rfl | cases h) Tryz.underlying309 (by decide) rfl (by decide) (.inl rfl)
theorem zkk : TIok Tryz.prog 312 zlN := tiok Tryz.type312 rfl rfl rfl rfl (by intro h; first | rfl | cases h) Tryz.underlying312 (by decide) rfl (by decide) (.inl rfl)
theorem zkj : TIok Tryz.prog 313 zlM := tiok Tryz.type313 rfl rfl rfl rfl (by intro h; first | rfl | cases h) Tryz.underlying313 (by decide) rfl (by decide) (.inl rfl)
theorem zki : TIok Tryz.prog 314 zlL := tiok Tryz.type314 rfl rfl rfl rfl (by intro h; first | rfl | cases h) Tryz.underlying314 (by decide) rfl (by decide) (.inl rfl)
theorem zkh : TIok Tryz.prog 315 zlK := tiok Tryz.type315 rfl rfl rfl rfl (by intro h; first | rfl | cases h) Tryz.underlying315 (by decide) rfl (by decide) (.inl rfl)
def ztS : TT := [
 (1, zrS),
 (2, zrR),
 (3, zpV),
 (4, zrQ),
 (5, zrP),
 (9, zrO),
 (12, zp3),
 (21, zp1),
 (22, zp0),
 (23, zpZ),
 (24, zpY),
 (26, zpX),
 (31, zpU),
 (34, zpT),
 (37, zpS),
 (39, zpR),
 (44, zpP),
 (48, zkg),
 (51, zpN),
 (68, zpL),
 (69, zpK),
 (70, zpJ),
 (71, zpI),
 (74, zpH),
 (75, zpG),
 (77, zpF),
 (81, zpE),
 (87, zpD),
 (105, zml),
 (117, zmk),
 (134, zmj),
 (138, zmi),
 (140, zmh),
 (148, zmg),
 (150, zmf),
 (152, zme),
 (154, zmd),
 (159, zmc),
 (164, zmb),
 (166, zma),
 (169, zl9),
 (170, zl8),
 (196, zl7),
 (199, zl6),
 (202, zl5),
 (203, zl4),
 (206, zl3),
 (214, zh7),
 (215, zl2),
 (217, zl1),
 (219, zl0),
 (234, zlZ),
 (246, zlY),
 (256, zlX),
 (262, zlW),
 (268, zlV),
 (275, zlU),
 (277, zlT),
 (281, zlS),
 (286, zlR),
 (295, zlQ),
 (305, zlP),
 (309, zlO),
 (312, zlN),
 (313, zlM),
 (314, zlL),
 (315, zlK)]
theorem Tk : TOk Tryz.prog ztS := zru ⟨zp2, zpW, zpQ, zpO, zpM, zpC, znD, znC, znB, znA, znz, zny, znx, znw, znv, znu, znt, zns, znr, znq, znp, zno, znn, znm, znl, znk, znj, zni, zkT, zkS, zkR, zkQ, zkP, zkO, zkN, zkM, zkL, zkK, zkJ, zkI, zkH, zkG, zkF, zkE, zkD, zkC, zkB, zkA, zkz, zky, zkx, zkw, zkv, zku, zkt, zks, zkr, zkq, zkp, zko, zkn, zkm, zkl, zkk, zkj, zki, zkh, trivial⟩
end Go.AI


namespace Go.AI
open Go.Proofs
set_option maxRecDepth 20000
theorem zay : Tryz.prog.follows .mixedOrders = true := rfl
theorem zso (O : List Heap) (a : Int) : zan Tryz.prog 189 [ii a] O (bb false) [] O := by
 refine zac Tk Tryz.func189 rfl Tryz.call189 Tryz.ntmps189 (Nat.le_of_ble_eq_true rfl) fun E => ?_
 refine zaM Tk Tryz.func189 ?_
 refine zau (hT := Tk) (r := bb _) rfl rfl rfl trivial rfl rfl ?_
 simp
theorem zsp (O : List Heap) (a : Int) : zan Tryz.prog 159 [ii a] O (bb false) [] O := by
 refine zac Tk Tryz.func159 rfl Tryz.call159 Tryz.ntmps159 (Nat.le_of_ble_eq_true rfl) fun E => ?_
 refine zaM Tk Tryz.func159 ?_
 refine zau (hT := Tk) (r := bb _) rfl rfl rfl trivial rfl rfl ?_
 simp
theorem ztf (O : List Heap) (a b : Int) : zan Tryz.prog 158 [ii a, ii b] O (bb (decide (a < b))) [] O := by
 refine zac Tk Tryz.func158 rfl Tryz.call158 Tryz.ntmps158 (Nat.le_of_ble_eq_true rfl) fun E => ?_
 refine zaM Tk Tryz.func158 ?_
 refine zcl Tk Tryz.func158 (zso _ a) rfl rfl rfl rfl rfl ?_
 refine zbb Tk Tryz.func158 rfl (fun h1 => by cases h1) (fun _ => ?_)
 refine zbb Tk Tryz.func158 rfl (fun h1 => by cases h1) (fun _ => ?_)
 refine zau (hT := Tk) (r := bb _) rfl rfl rfl trivial rfl rfl ?_
 rfl
end Go.AI


namespace Go.AI
open Go.Proofs
set_option maxRecDepth 20000
theorem ztL {a b : Nat} (ha : a ≤ zam) (hb : b ≤ zam) : IntKind.i64.wrap (IntKind.u64.wrap (IntKind.i64.wrap ((a : Int) + b)) / 2 ^ (1 : Int).toNat) = ((a + b) / 2 : Nat) := by
 simp only [zam] at ha hb
 have h1 : IntKind.u64.wrap (IntKind.i64.wrap ((a : Int) + b)) = (a : Int) + b := by
  simp only [IntKind.wrap, IntKind.bits, IntKind.signed]
  simp
  omega
 rw [h1, w64]
 ·simp
 ·simp; omega
 ·simp; omega
def lows (l : List Int) (x : Int) : Nat := (l.filter (· < x)).length
theorem zsf {l : List Int} {x : Int} {i : Nat} (hi : i ≤ l.length) (h1 : ∀ k (h : k < l.length), k < i → l[k] < x) (h2 : ∀ k (h : k < l.length), i ≤ k → x ≤ l[k]) : lows l x = i := by
 have e : l = l.take i ++ l.drop i := (List.take_append_drop i l).symm
 unfold lows
 rw [e, List.filter_append]
 have a1 : (l.take i).filter (fun y => decide (y < x)) = l.take i := by
  rw [List.filter_eq_self]
  intro y hy
  obtain ⟨k, hk, rfl⟩ := List.getElem_of_mem hy
  simp only [List.length_take] at hk
  have := h1 k (by omega) (by omega)
  simpa using this
 have a2 : (l.drop i).filter (fun y => decide (y < x)) = [] := by
  rw [List.filter_eq_nil_iff]
  intro y hy
  obtain ⟨k, hk, rfl⟩ := List.getElem_of_mem hy
  simp only [List.length_drop] at hk
  have := h2 (i + k) (by omega) (by omega)
  simpa using this
 rw [a1, a2]
 simp
 omega
theorem zpr (O : List Heap) (l : List Int) (x : Int) (hl : l.length ≤ zam) (hs : l.Pairwise (· < ·)) : zan Tryz.prog 109 [ints l, ii x] O (.tup [ii (lows l x), bb (decide (x ∈ l))]) [] O := by
 have hsort : ∀ i j (hi : i < l.length) (hj : j < l.length), i < j → l[i] < l[j] := fun i j hi hj h => List.pairwise_iff_getElem.1 hs i j hi hj h
 refine zac Tk Tryz.func109 rfl Tryz.call109 Tryz.ntmps109 (Nat.le_of_ble_eq_true rfl) fun E => ?_
 refine zaM Tk Tryz.func109 ?_
 refine zag (fun p : Nat × Nat => [(0, ints l), (1, ii x), (6, ii l.length), (7, ii p.1), (8, ii p.2)]) (fun _ => []) (fun _ => O) 54
  (fun p => p.1 ≤ p.2 ∧ p.2 ≤ l.length ∧ (∀ k (h : k < l.length), k < p.1 → l[k] < x) ∧ ∀ k (h : k < l.length), p.2 ≤ k → x ≤ l[k]) (fun p => p.2 - p.1) (0, l.length)
  ⟨Nat.zero_le _, Nat.le_refl _, fun k h h' => by simp at h', fun k h h' => by simp at h'; omega⟩ ⟨rfl, rfl, rfl, rfl, rfl, trivial⟩ rfl trivial rfl rfl ?_
 rintro ⟨i, j⟩ ⟨hij, hj, hlo, hhi⟩ ih
 simp only at hij hj hlo hhi
 have hlj : j ≤ zam := Nat.le_trans hj hl
 refine zaM Tk Tryz.func109 ?_
 refine zaS Tk Tryz.func109 rfl (fun h1 => ?_) (fun h1 => ?_)
 ·have h1 : i < j := by simpa using h1
  refine zck Tk Tryz.func109 (by simp [IntKind.bits]) ?_
  have hm := ztL (Nat.le_trans hij hlj) hlj
  have hmj : (i + j) / 2 < j := by omega
  refine zck Tk Tryz.func109 (by rw [hm]; omega) ?_
  refine zdJ Tk Tryz.func109 (d := [vi (l[(i + j) / 2]'(by omega))]) (by rw [hm]; exact zah (f := fun x => [vi x]) (by omega)) ?_
  refine zcl Tk Tryz.func109 (ztf _ _ _) rfl rfl rfl rfl rfl ?_
  refine zaS Tk Tryz.func109 rfl (fun h2 => ?_) (fun h2 => ?_)
  ·have h2 : l[(i + j) / 2] < x := by simpa using h2
   refine ih ((i + j) / 2 + 1, j) _ _ ⟨by show (i + j) / 2 + 1 ≤ j; omega, hj, fun k h h' => ?_, hhi⟩ (by simp only; omega) ⟨rfl, rfl, rfl, ?_, rfl, trivial⟩ rfl trivial rfl rfl
   ·by_cases e : k = (i + j) / 2
    ·subst e; exact h2
    ·have h' : k < (i + j) / 2 + 1 := h'
     have := hsort k ((i + j) / 2) h (by omega) (by omega)
     omega
   ·show D.i (.v (.int .i64 _)) = _
    rw [hm]
    exact congrArg ii (zaB (n := j) (by omega) hlj)
  ·have h2 : x ≤ l[(i + j) / 2] := by simpa using h2
   refine ih (i, (i + j) / 2) _ _ ⟨by show i ≤ (i + j) / 2; omega, by show (i + j) / 2 ≤ l.length; omega, hlo, fun k h h' => ?_⟩ (by simp only; omega) ⟨rfl, rfl, rfl, rfl, ?_, trivial⟩ rfl trivial rfl rfl
   ·have h' : (i + j) / 2 ≤ k := h'
    by_cases e : k = (i + j) / 2
    ·subst e; exact h2
    ·have := hsort ((i + j) / 2) k (by omega) h (by omega)
     omega
   ·show D.i (.v (.int .i64 _)) = _
    rw [hm]
 ·have h1 : j ≤ i := by simpa using h1
  have hij : i = j := by omega
  subst hij
  have hlow : lows l x = i := zsf hj hlo hhi
  rw [hlow]
  have hnot : ∀ (hi : i < l.length), l[i] ≠ x → x ∉ l := by
   intro hi hne hm
   obtain ⟨k, hk, e⟩ := List.getElem_of_mem hm
   by_cases h3 : k < i
   ·have := hlo k hk h3; omega
   ·by_cases h4 : k = i
    ·subst h4; exact hne e
    ·have := hsort i k hi hk (by omega)
     have := hhi i hi (Nat.le_refl _)
     omega
  refine zbb Tk Tryz.func109 rfl (fun h1 => ?_) (fun h1 => ?_)
  ·have h1 : i < l.length := by simpa using h1
   refine zck Tk Tryz.func109 (by omega) ?_
   refine zdJ Tk Tryz.func109 (zah h1) ?_
   refine zbb Tk Tryz.func109 rfl (fun h2 => ?_) (fun h2 => ?_)
   ·have h2 : l[i] = x := by simpa using h2
    refine zau (hT := Tk) (r := .tup [ii _, bb _]) rfl rfl rfl trivial rfl rfl ?_
    have : x ∈ l := by rw [← h2]; simp
    simp [this]
   ·have h2 : l[i] ≠ x := by simpa using h2
    refine zck Tk Tryz.func109 (by omega) ?_
    refine zdJ Tk Tryz.func109 (zah h1) ?_
    refine zcl Tk Tryz.func109 (zsp _ _) rfl rfl rfl rfl rfl ?_
    refine zbb Tk Tryz.func109 rfl (fun h1 => by cases h1) (fun _ => ?_)
    refine zau (hT := Tk) (r := .tup [ii _, bb _]) rfl rfl rfl trivial rfl rfl ?_
    simp [hnot h1 h2]
  ·have h1 : l.length ≤ i := by simpa using h1
   refine zau (hT := Tk) (r := .tup [ii _, bb _]) rfl rfl rfl trivial rfl rfl ?_
   have : x ∉ l := by
    intro hm
    obtain ⟨k, hk, e⟩ := List.getElem_of_mem hm
    have := hlo k hk (by omega)
    omega
   simp [this]
theorem zdu (O : List Heap) (l : List Int) (x : Int) (hl : l.length ≤ zam) (hs : l.Pairwise (· < ·)) : zan Tryz.prog 59 [ints l, ii x] O (bb (decide (x ∈ l))) [] O := by
 refine zac Tk Tryz.func59 rfl Tryz.call59 Tryz.ntmps59 (Nat.le_of_ble_eq_true rfl) fun E => ?_
 refine zaM Tk Tryz.func59 ?_
 refine zcl Tk Tryz.func59 (zpr _ l x hl hs) rfl rfl rfl rfl rfl ?_
 refine zau (hT := Tk) (r := bb _) rfl rfl rfl trivial rfl rfl ?_
 rfl
end Go.AI


namespace Go.AI
open Go.Proofs
set_option maxRecDepth 20000
abbrev big : Nat := 140737488355328
abbrev zaK (l : List Int) : Ob := .arr 3 1 l.length (l.map fun x => [vi x]) true
theorem zoj (H : Heap) (nm : Nat) (ob : Ob) : D.ret H [(nm, ob)] (.osl 0 nm) = .osl 0 nm := by
 simp [D.ret, D.ret2, D.ret1, memH, zab]
theorem zic (nm : Nat) (ob ob' : Ob) (Hr : Heap) (h : ob' = ob.ret [(nm, ob)] Hr) : zeR [(nm, ob)] Hr [(nm, ob')] := ⟨⟨ob, by simp [look], h⟩, trivial⟩
theorem zh2 (nm : Nat) (O : List Heap) (l : List Int) (hl : l.length * 8 ≤ big) : zan Tryz.prog 77 [ints l] O (.osl 0 nm) [(nm, zaK l)] O := by
 refine zac Tk Tryz.func77 rfl Tryz.call77 Tryz.ntmps77 (Nat.le_of_ble_eq_true rfl) fun E => ?_
 refine zaM Tk Tryz.func77 ?_
 refine zrB Tk Tryz.func77 rfl rfl fun b hb => ?_
 refine zaS Tk Tryz.func77 rfl (fun h1 => ?_) (fun h1 => ?_)
 ·have hl0 : l = [] := List.eq_nil_of_length_eq_zero (hb h1)
  subst hl0
  refine zk6 (zcT 2 nm 3 1 rfl rfl rfl) ?_
  exact zau (hT := Tk) (r := .osl 0 nm) rfl rfl rfl (zic _ _ _ _ rfl) (zoj _ _ _) rfl rfl
 ·refine zck Tk Tryz.func77 ⟨?_, ?_⟩ ?_
  ·show (0 + l.length) * 8 ≤ 140737488355328
   simp only [big] at hl; omega
  ·simp only [big] at hl; omega
  refine zk6 (zrr (l := [(2, .osl 0 7)]) (Hv := [(7, .arr 3 1 (0 + l.length) ([] ++ l.map fun x => [vi x]) true)]) ⟨rfl, trivial⟩ rfl ⟨rfl, trivial⟩ rfl rfl) ?_
  refine zk6 (znH 7 nm rfl rfl) ?_
  refine zau (hT := Tk) (r := .osl 0 nm) rfl rfl rfl (zic _ _ _ _ ?_) (zoj _ _ _) rfl rfl
  rw [Nat.zero_add]
  rfl
def zal (n : Int) : List Int → Option Int → Int
 | [], _ => 0
 | x :: r, prev => if x < 0 ∨ x ≥ n then 2 else if prev.any (x ≤ ·) then 5 else zal n r (some x)
theorem zhf (O : List Heap) (l : List Int) (n : Int) (hl : l.length ≤ zam) : zan Tryz.prog 67 [ints l, ii n] O (ii (zal n l none)) [] O := by
 refine zac Tk Tryz.func67 rfl Tryz.call67 Tryz.ntmps67 (Nat.le_of_ble_eq_true rfl) fun E => ?_
 refine zaM Tk Tryz.func67 ?_
 let prev : Nat → Option Int := fun i => if i = 0 then none else l[i - 1]?
 refine zbO (fun i : Nat => [(0, ints l), (1, ii n), (7, ints l), (8, ii l.length), (9, ii i)]) (fun _ => [] :: O) 33 (fun i => i ≤ l.length ∧ zal n l none = zal n (l.drop i) (prev i)) (fun i => l.length - i) 0 ⟨Nat.zero_le _, rfl⟩ ⟨rfl, rfl, rfl, rfl, rfl, trivial⟩ rfl rfl ?_
 intro i ⟨hi, hno⟩ ih
 rw [hno]
 refine zaM Tk Tryz.func67 ?_
 refine zaS Tk Tryz.func67 rfl (fun h1 => ?_) (fun h1 => ?_)
 ·have h1 : i < l.length := by simpa using h1
  rw [hno] at ih
  have hd : l.drop i = l[i] :: l.drop (i + 1) := (List.drop_eq_getElem_cons h1)
  have hnext : prev (i + 1) = some l[i] := by simp [prev, h1]
  refine zck Tk Tryz.func67 (by omega) ?_
  refine zdJ Tk Tryz.func67 (zah h1) ?_
  refine zbb Tk Tryz.func67 rfl (fun h2 => ?_) (fun h2 => ?_)
  ·have h2 : l[i] < 0 := by simpa using h2
   refine zaS Tk Tryz.func67 rfl (fun _ => ?_) (fun h => by cases h)
   refine zau (hT := Tk) (r := ii _) rfl rfl rfl trivial rfl rfl ?_
   rw [hd]
   simp only [zal]
   rw [if_pos (.inl h2)]
  have h2 : ¬ l[i] < 0 := by simpa using h2
  refine zaS Tk Tryz.func67 rfl (fun h3 => ?_) (fun h3 => ?_)
  ·have h3 : l[i] ≥ n := by simpa using h3
   refine zau (hT := Tk) (r := ii _) rfl rfl rfl trivial rfl rfl ?_
   rw [hd]
   simp only [zal]
   rw [if_pos (.inr h3)]
  have h3 : ¬ l[i] ≥ n := by simpa using h3
  refine zbb Tk Tryz.func67 rfl (fun h4 => ?_) (fun h4 => ?_)
  ·have h4 : 0 < i := by simpa using h4
   have hw : IntKind.i64.wrap ((i : Int) - 1) = ((i - 1 : Nat) : Int) := by
    simp only [zam] at hl
    rw [w64 (by omega) (by omega)]
    omega
   have hp : prev i = some (l[i - 1]'(by omega)) := by
    simp only [prev, if_neg (show ¬ i = 0 by omega)]
    exact List.getElem?_eq_getElem (by omega)
   refine zck Tk Tryz.func67 (by rw [hw]; omega) ?_
   refine zdJ Tk Tryz.func67 (by rw [hw]; exact zah (f := fun x => [vi x]) (show i - 1 < l.length by omega)) ?_
   refine zaS Tk Tryz.func67 rfl (fun h5 => ?_) (fun h5 => ?_)
   ·have h5 : l[i] ≤ l[i - 1] := by simpa using h5
    refine zau (hT := Tk) (r := ii _) rfl rfl rfl trivial rfl rfl ?_
    rw [hd, hp]
    simp only [zal]
    rw [if_neg (by omega), if_pos (by simpa using h5)]
   ·have h5 : ¬ l[i] ≤ l[i - 1] := by simpa using h5
    refine ih (i + 1) _ ⟨h1, ?_⟩ (by omega) ⟨rfl, rfl, rfl, rfl, congrArg ii (zaB h1 hl), trivial⟩ rfl rfl
    rw [hnext, hd, hp]
    simp only [zal]
    rw [if_neg (by omega), if_neg (by simpa using h5)]
  ·have h4 : i = 0 := by
    have : ¬ 0 < i := by simpa using h4
    omega
   refine zaS Tk Tryz.func67 rfl (fun h => by cases h) (fun _ => ?_)
   refine ih (i + 1) _ ⟨h1, ?_⟩ (by omega) ⟨rfl, rfl, rfl, rfl, congrArg ii (zaB h1 hl), trivial⟩ rfl rfl
   rw [hnext, hd]
   have hp : prev i = none := by simp [prev, h4]
   rw [hp]
   simp only [zal]
   rw [if_neg (by omega)]
   simp
 ·have h1 : l.length ≤ i := by simpa using h1
  refine zau (hT := Tk) (r := ii _) rfl rfl rfl trivial rfl rfl ?_
  rw [List.drop_eq_nil_of_le h1]
  rfl
end Go.AI


namespace Go.AI
structure Unf (σ : Type) where
 sts : List σ
 mkl : List Int
 eds : List (Int × Int × Int)
def kOf : List (Int × Int × Int) → Nat → Option Nat
 | [], k => some k
 | e :: r, k => if (0 ≤ e.1 ∧ e.1 < k) ∧ 0 ≤ e.2.2 ∧ e.2.2 ≤ k then kOf r (if e.2.2 = k then k + 1 else k) else none
theorem zjD : ∀ (l r : List (Int × Int × Int)) (k : Nat), kOf (l ++ r) k = (kOf l k).bind (kOf r)
 | [], r, k => rfl
 | e :: l, r, k => by
  simp only [List.cons_append, kOf]
  split
  ·exact zjD l r _
  ·rfl
section
variable {σ : Type} (eq : σ → σ → Bool) (lim : Bool) (step : σ → Int → σ × Bool × Int) (mkd : σ → Bool)
def zcu (i : Nat) (s : σ) (ev : Int) (U : Unf σ) : Except Int (Unf σ) :=
 if (step s ev).2.2 ≠ 0 then .error (step s ev).2.2 else
 if (step s ev).2.1 = false then .ok U else
 if U.sts.findIdx (eq (step s ev).1) < U.sts.length then .ok { U with eds := U.eds ++ [((i : Int), ev, ((U.sts.findIdx (eq (step s ev).1) : Nat) : Int))] } else
 if lim = true ∧ U.sts.length = 4096 then .error 3 else
 .ok { sts := U.sts ++ [(step s ev).1], mkl := U.mkl, eds := U.eds ++ [((i : Int), ev, ((U.sts.findIdx (eq (step s ev).1) : Nat) : Int))] }
def zaz (i : Nat) (s : σ) : List Int → Unf σ → Except Int (Unf σ)
 | [], U => .ok U
 | ev :: r, U => match zcu eq lim step i s ev U with
  | .error e => .error e
  | .ok U' => zaz i s r U'
def zbD (i : Nat) (s : σ) (U : Unf σ) : Unf σ := if mkd s then { U with mkl := U.mkl ++ [(i : Int)] } else U
def zbU (alpha : List Int) : Nat → Nat → Unf σ → Except Int (Unf σ)
 | 0, _, U => .ok U
 | f + 1, i, U => match U.sts[i]? with
  | none => .ok U
  | some s => match zaz eq lim step i s alpha (zbD mkd i s U) with
   | .error e => .error e
   | .ok U' => zbU alpha f (i + 1) U'
def unf0 (first : σ) : Unf σ := ⟨[first], [], []⟩
def unfR (alpha : List Int) (first : σ) : Except Int (Unf σ) := zbU eq lim step mkd alpha 4097 0 (unf0 first)
theorem zcW (i : Nat) (s : σ) (U : Unf σ) : (zbD mkd i s U).sts = U.sts ∧ (zbD mkd i s U).eds = U.eds := by
 unfold zbD; split <;> exact ⟨rfl, rfl⟩
end
theorem zcL {α : Type} {p q : α → Bool} : ∀ {l : List α}, (∀ x ∈ l, p x = q x) → l.findIdx p = l.findIdx q
 | [], _ => rfl
 | x :: r, h => by
  rw [List.findIdx_cons, List.findIdx_cons, h x (by simp), zcL (l := r) fun y hy => h y (by simp [hy])]
theorem zbS {α : Type} {p : α → Bool} : ∀ {l : List α}, (∀ x ∈ l, p x = false) → l.findIdx p = l.length
 | [], _ => rfl
 | x :: r, h => by
  rw [List.findIdx_cons, h x (by simp), zbS (l := r) fun y hy => h y (by simp [hy])]
  rfl
theorem zdW {α : Type} {p : α → Bool} : ∀ {l : List α} (r : List α), (∃ x ∈ l, p x = true) → (l ++ r).findIdx p = l.findIdx p
 | [], _, h => by obtain ⟨x, hx, _⟩ := h; cases hx
 | x :: l, r, h => by
  rw [List.cons_append, List.findIdx_cons, List.findIdx_cons]
  cases hx : p x with
  | true => rfl
  | false =>
   rw [zdW r]
   obtain ⟨y, hy, hp⟩ := h
   rcases List.mem_cons.1 hy with rfl | hy
   ·rw [hx] at hp; cases hp
   ·exact ⟨y, hy, hp⟩
theorem zeH {α : Type} {p : α → Bool} : ∀ {l : List α}, (∃ x ∈ l, p x = true) → l.findIdx p < l.length
 | [], h => by obtain ⟨x, hx, _⟩ := h; cases hx
 | x :: l, h => by
  rw [List.findIdx_cons]
  cases hx : p x with
  | true => exact Nat.zero_lt_succ _
  | false =>
   have := zeH (p := p) (l := l) (by
    obtain ⟨y, hy, hp⟩ := h
    rcases List.mem_cons.1 hy with rfl | hy
    ·rw [hx] at hp; cases hp
    ·exact ⟨y, hy, hp⟩)
   simp only [cond_false, List.length_cons]
   omega
theorem findIdx_le {α : Type} {p : α → Bool} : ∀ {l : List α}, l.findIdx p ≤ l.length
 | [] => Nat.le_refl _
 | x :: l => by
  have := findIdx_le (p := p) (l := l)
  rw [List.findIdx_cons]
  cases p x with
  | true => exact Nat.zero_le _
  | false => simp only [cond_false, List.length_cons]; omega
section
variable {σ : Type} [DecidableEq σ]
def eqB (a b : σ) : Bool := decide (a = b)
theorem zqW {l : List σ} (hn : l.Nodup) {i : Nat} (h : i < l.length) : l.findIdx (eqB l[i]) = i := by
 induction l generalizing i with
 | nil => cases h
 | cons x r ih =>
  rw [List.nodup_cons] at hn
  rw [List.findIdx_cons]
  cases i with
  | zero => simp [eqB]
  | succ i =>
   have hi : i < r.length := by simpa using h
   have hne : r[i] ≠ x := fun e => hn.1 (e ▸ List.getElem_mem hi)
   have e1 : eqB ((x :: r)[i + 1]) x = false := by simp [eqB, hne]
   rw [e1]
   simp only [cond_false, List.getElem_cons_succ]
   rw [ih hn.2 hi]
variable (step : σ → Int → σ × Bool × Int) (mkd : σ → Bool)
def eOf (sts : List σ) (i : Nat) (s : σ) (ev : Int) : Option (Int × Int × Int) := if (step s ev).2.1 = true then some ((i : Int), ev, ((sts.findIdx (eqB (step s ev).1) : Nat) : Int)) else none
theorem zpg {sts r : List σ} {i : Nat} {s : σ} {ev : Int} (h : (step s ev).2.1 = true → (step s ev).1 ∈ sts) : eOf step (sts ++ r) i s ev = eOf step sts i s ev := by
 unfold eOf
 split
 ·rename_i hp
  rw [zdW r ⟨_, h hp, by simp [eqB]⟩]
 ·rfl
theorem zbX {α β : Type} {f g : α → Option β} : ∀ {l : List α}, (∀ x ∈ l, f x = g x) → l.filterMap f = l.filterMap g
 | [], _ => rfl
 | x :: r, h => by
  simp only [List.filterMap_cons, h x (by simp)]
  rw [zbX (l := r) fun y hy => h y (by simp [hy])]
structure Fin1 (eq : σ → σ → Bool) (lim : Bool) (P : σ → Prop) : Prop where
 step : ∀ s ev, P s → (step s ev).2.1 = true → P (step s ev).1
 eq : ∀ s t, P s → P t → eq s t = eqB s t
 few : lim = true → ∀ l : List σ, (∀ s ∈ l, P s) → l.Nodup → l.length < 4096
structure UOk (P : σ → Prop) (U : Unf σ) : Prop where
 ok : ∀ s ∈ U.sts, P s
 nd : U.sts.Nodup
 fr : kOf U.eds 1 = some U.sts.length
variable {step} {eq : σ → σ → Bool} {lim : Bool} {P : σ → Prop}
theorem zft (hF : Fin1 step eq lim P) {i : Nat} {s : σ} {ev : Int} {U : Unf σ} (hU : UOk P U) (hs : P s) (hi : i < U.sts.length) :
  if (step s ev).2.2 ≠ 0 then zcu eq lim step i s ev U = .error (step s ev).2.2 else ∃ r, zcu eq lim step i s ev U = .ok ⟨U.sts ++ r, U.mkl, U.eds ++ [ev].filterMap (eOf step (U.sts ++ r) i s)⟩ ∧
   UOk P ⟨U.sts ++ r, U.mkl, U.eds ++ [ev].filterMap (eOf step (U.sts ++ r) i s)⟩ ∧ ((step s ev).2.1 = true → (step s ev).1 ∈ U.sts ++ r) := by
 unfold zcu
 split
 ·rfl
 cases hp : (step s ev).2.1 with
 | false =>
  refine ⟨[], ?_, ?_, fun h => by cases h⟩
  ·simp [List.filterMap_cons, eOf, hp]
  ·simpa [List.filterMap_cons, eOf, hp] using hU
 | true =>
  have hn := hF.step s ev hs hp
  have hq : U.sts.findIdx (eq (step s ev).1) = U.sts.findIdx (eqB (step s ev).1) := zcL fun x hx => hF.eq _ _ hn (hU.ok x hx)
  rw [hq]
  simp only [Bool.true_eq_false, if_false]
  by_cases hm : (step s ev).1 ∈ U.sts
  ·have hlt : U.sts.findIdx (eqB (step s ev).1) < U.sts.length := zeH ⟨_, hm, by simp [eqB]⟩
   rw [if_pos hlt]
   have e1 : [ev].filterMap (eOf step (U.sts ++ []) i s) = [((i : Int), ev, ((U.sts.findIdx (eqB (step s ev).1) : Nat) : Int))] := by
    simp [List.filterMap_cons, eOf, hp]
   refine ⟨[], ?_, ⟨?_, ?_, ?_⟩, fun _ => by simpa using hm⟩
   ·rw [e1, List.append_nil]
   ·simpa using hU.ok
   ·simpa using hU.nd
   ·show kOf (U.eds ++ _) 1 = some (U.sts ++ []).length
    rw [e1, zjD, hU.fr, List.append_nil]
    simp only [Option.bind_some, kOf]
    rw [if_pos ⟨⟨by omega, by omega⟩, by omega, by omega⟩, if_neg (by omega)]
  ·have hno : U.sts.findIdx (eqB (step s ev).1) = U.sts.length := zbS fun x hx => by
    simp only [eqB, decide_eq_false_iff_not]
    exact fun e => hm (e ▸ hx)
   have hnd : (U.sts ++ [(step s ev).1]).Nodup := by
    unfold List.Nodup
    rw [List.pairwise_append]
    refine ⟨hU.nd, List.pairwise_singleton _ _, fun a ha b hb => ?_⟩
    rw [List.mem_singleton] at hb
    subst hb
    exact fun e => hm (e ▸ ha)
   have hok : ∀ t ∈ U.sts ++ [(step s ev).1], P t := by
    intro t ht
    rcases List.mem_append.1 ht with ht | ht
    ·exact hU.ok t ht
    ·rw [List.mem_singleton] at ht; subst ht; exact hn
   have hfew : ¬ (lim = true ∧ U.sts.length = 4096) := by
    rintro ⟨h1, h2⟩
    have := hF.few h1 _ hok hnd
    simp only [List.length_append, List.length_singleton] at this
    omega
   rw [hno, if_neg (Nat.lt_irrefl _), if_neg hfew]
   have e2 : (U.sts ++ [(step s ev).1]).findIdx (eqB (step s ev).1) = U.sts.length := by
    have h := zqW hnd (i := U.sts.length) (by simp)
    simpa using h
   have e1 : [ev].filterMap (eOf step (U.sts ++ [(step s ev).1]) i s) = [((i : Int), ev, ((U.sts.length : Nat) : Int))] := by
    simp [List.filterMap_cons, eOf, hp, e2]
   refine ⟨[(step s ev).1], ?_, ⟨hok, hnd, ?_⟩, fun _ => by simp⟩
   ·rw [e1]
   ·show kOf (U.eds ++ _) 1 = some (U.sts ++ _).length
    rw [e1, zjD, hU.fr]
    simp only [Option.bind_some, kOf]
    rw [if_pos ⟨⟨by omega, by omega⟩, by omega, by omega⟩, if_pos True.intro]
    simp
theorem zeQ (hF : Fin1 step eq lim P) {i : Nat} {s : σ} (hs : P s) : ∀ (l : List Int) {U : Unf σ}, UOk P U → i < U.sts.length →
  (∃ ev ∈ l, (step s ev).2.2 ≠ 0 ∧ zaz eq lim step i s l U = .error (step s ev).2.2) ∨ ∃ r, zaz eq lim step i s l U = .ok ⟨U.sts ++ r, U.mkl, U.eds ++ l.filterMap (eOf step (U.sts ++ r) i s)⟩ ∧
   UOk P ⟨U.sts ++ r, U.mkl, U.eds ++ l.filterMap (eOf step (U.sts ++ r) i s)⟩ ∧ ∀ ev ∈ l, (step s ev).2.2 = 0 ∧ ((step s ev).2.1 = true → (step s ev).1 ∈ U.sts ++ r)
 | [], U, hU, _ => .inr ⟨[], by simp [zaz], by simpa using hU, by simp⟩
 | ev :: l, U, hU, hi => by
  have h := zft hF (ev := ev) hU hs hi
  by_cases he : (step s ev).2.2 ≠ 0
  ·rw [if_pos he] at h
   refine .inl ⟨ev, by simp, he, ?_⟩
   simp only [zaz, h]
  rw [if_neg he] at h
  obtain ⟨r, h1, h2, h3⟩ := h
  simp only [zaz, h1]
  have hi' : i < (U.sts ++ r).length := by rw [List.length_append]; omega
  rcases zeQ hF hs l h2 hi' with ⟨e, he1, he2, he3⟩ | ⟨r', h4, h5, h6⟩
  ·exact .inl ⟨e, by simp [he1], he2, he3⟩
  ·have e1 : [ev].filterMap (eOf step (U.sts ++ r) i s) ++ l.filterMap (eOf step (U.sts ++ (r ++ r')) i s) = (ev :: l).filterMap (eOf step (U.sts ++ (r ++ r')) i s) := by
    rw [← List.append_assoc U.sts r r']
    rw [zbX (g := eOf step (U.sts ++ r ++ r') i s) (l := [ev]) fun x hx => by rw [List.mem_singleton] at hx; subst hx; exact (zpg step h3).symm]
    rw [← List.filterMap_append]
    rfl
   simp only [List.append_assoc] at h4 h5 h6
   rw [e1] at h4 h5
   refine .inr ⟨r ++ r', h4, h5, fun x hx => ?_⟩
   rcases List.mem_cons.1 hx with rfl | hx
   ·refine ⟨by simpa using he, fun hp => ?_⟩
    rw [← List.append_assoc]
    exact List.mem_append_left _ (h3 hp)
   ·exact h6 x hx
structure UAt (mkd : σ → Bool) (alpha : List Int) (P : σ → Prop) (step : σ → Int → σ × Bool × Int) (i : Nat) (U : Unf σ) : Prop extends UOk P U where
 le : i ≤ U.sts.length
 pos : 0 < U.sts.length
 eds : U.eds = (List.range i).flatMap fun k => match U.sts[k]? with
  | none => []
  | some s => alpha.filterMap (eOf step U.sts k s)
 mkl : U.mkl = ((List.range i).filter fun k => match U.sts[k]? with
  | none => false
  | some s => mkd s).map fun k => ((k : Nat) : Int)
 fine : ∀ k s, k < i → U.sts[k]? = some s → ∀ ev ∈ alpha, (step s ev).2.2 = 0 ∧ ((step s ev).2.1 = true → (step s ev).1 ∈ U.sts)
def UBad (alpha : List Int) (P : σ → Prop) (step : σ → Int → σ × Bool × Int) (e : Int) : Prop := e ≠ 0 ∧ ∃ s, P s ∧ ∃ ev ∈ alpha, (step s ev).2.2 = e
theorem zdK {α β : Type} {f g : α → List β} : ∀ {l : List α}, (∀ x ∈ l, f x = g x) → l.flatMap f = l.flatMap g
 | [], _ => rfl
 | x :: r, h => by
  simp only [List.flatMap_cons, h x (by simp)]
  rw [zdK (l := r) fun y hy => h y (by simp [hy])]
theorem zek {α : Type} {f g : α → Bool} : ∀ {l : List α}, (∀ x ∈ l, f x = g x) → l.filter f = l.filter g
 | [], _ => rfl
 | x :: r, h => by
  simp only [List.filter_cons, h x (by simp)]
  rw [zek (l := r) fun y hy => h y (by simp [hy])]
theorem zgH (hF : Fin1 step eq lim P) {alpha : List Int} {B : Nat} (hB : ∀ l : List σ, (∀ s ∈ l, P s) → l.Nodup → l.length ≤ B) : ∀ (f i : Nat) {U : Unf σ}, UAt mkd alpha P step i U → B < i + f →
  (∃ e, zbU eq lim step mkd alpha f i U = .error e ∧ UBad alpha P step e) ∨ ∃ V, zbU eq lim step mkd alpha f i U = .ok V ∧ UAt mkd alpha P step V.sts.length V
 | 0, i, U, h, hf => by
  have := hB _ h.ok h.nd
  have := h.le
  omega
 | f + 1, i, U, h, hf => by
  simp only [zbU]
  cases hs : U.sts[i]? with
  | none =>
   have hi : i = U.sts.length := by
    have := List.getElem?_eq_none_iff.1 hs
    have := h.le
    omega
   subst hi
   exact .inr ⟨U, rfl, h⟩
  | some s =>
   obtain ⟨hlt, e⟩ := List.getElem?_eq_some_iff.1 hs
   have hPs : P s := h.ok s (e ▸ List.getElem_mem hlt)
   obtain ⟨m1, m2⟩ := zcW mkd i s U
   have hM : UOk P (zbD mkd i s U) := ⟨by rw [m1]; exact h.ok, by rw [m1]; exact h.nd, by rw [m1, m2]; exact h.fr⟩
   rcases zeQ hF hPs alpha hM (i := i) (by rw [m1]; exact hlt) with ⟨ev, he1, he2, he3⟩ | ⟨r, h4, h5, h6⟩
   ·simp only [he3]
    exact .inl ⟨_, rfl, he2, s, hPs, ev, he1, rfl⟩
   ·simp only [h4]
    rw [m1, m2] at *
    refine zgH hF hB f (i + 1) (U := _) ⟨h5, ?_, ?_, ?_, ?_, ?_⟩ (by omega)
    ·show i + 1 ≤ (U.sts ++ r).length
     simp only [List.length_append]; omega
    ·show 0 < (U.sts ++ r).length
     simp only [List.length_append]; omega
    ·show U.eds ++ alpha.filterMap (eOf step (U.sts ++ r) i s) = (List.range (i + 1)).flatMap fun k => match (U.sts ++ r)[k]? with
      | none => []
      | some s => alpha.filterMap (eOf step (U.sts ++ r) k s)
     rw [List.range_succ, List.flatMap_append, h.eds]
     congr 1
     ·apply zdK
      intro k hk
      rw [List.mem_range] at hk
      have hkl : k < U.sts.length := by omega
      rw [List.getElem?_append_left hkl, List.getElem?_eq_getElem hkl]
      simp only
      apply zbX
      intro x hx
      exact (zpg step (h.fine k _ hk (List.getElem?_eq_getElem hkl) x hx).2).symm
     ·simp only [List.flatMap_cons, List.flatMap_nil, List.append_nil]
      rw [List.getElem?_append_left hlt, hs]
    ·show (zbD mkd i s U).mkl = ((List.range (i + 1)).filter fun k => match (U.sts ++ r)[k]? with
      | none => false
      | some s => mkd s).map fun k => ((k : Nat) : Int)
     rw [List.range_succ, List.filter_append, List.map_append]
     have e1 : ((List.range i).filter fun k => match (U.sts ++ r)[k]? with
      | none => false
      | some s => mkd s) = ((List.range i).filter fun k => match U.sts[k]? with
      | none => false
      | some s => mkd s) := zek fun k hk => by
       rw [List.mem_range] at hk
       rw [List.getElem?_append_left (by omega)]
     rw [e1, ← h.mkl]
     have e2 : (match (U.sts ++ r)[i]? with
      | none => false
      | some s => mkd s) = mkd s := by
      rw [List.getElem?_append_left hlt, hs]
     simp only [List.filter_cons, List.filter_nil, e2]
     unfold zbD
     split <;> simp
    ·intro k t hk ht x hx
     show (step t x).2.2 = 0 ∧ ((step t x).2.1 = true → (step t x).1 ∈ U.sts ++ r)
     have ht : (U.sts ++ r)[k]? = some t := ht
     by_cases hki : k = i
     ·subst hki
      rw [List.getElem?_append_left hlt, hs] at ht
      simp only [Option.some.injEq] at ht
      subst ht
      exact h6 x hx
     ·have hkl : k < i := by omega
      rw [List.getElem?_append_left (by omega)] at ht
      have := h.fine k t hkl ht x hx
      exact ⟨this.1, fun hp => List.mem_append_left _ (this.2 hp)⟩
theorem znQ (hF : Fin1 step eq lim P) {alpha : List Int} {first : σ} (h0 : P first) {B : Nat} (hB : ∀ l : List σ, (∀ s ∈ l, P s) → l.Nodup → l.length ≤ B) (hb : B < 4097) :
  (∃ e, unfR eq lim step mkd alpha first = .error e ∧ UBad alpha P step e) ∨ ∃ V, unfR eq lim step mkd alpha first = .ok V ∧ UAt mkd alpha P step V.sts.length V := by
 refine zgH mkd hF hB 4097 0 ⟨⟨?_, ?_, rfl⟩, Nat.zero_le _, Nat.zero_lt_succ _, rfl, rfl, fun k s hk => absurd hk (Nat.not_lt_zero _)⟩ (by omega)
 ·intro s hs
  rw [unf0, List.mem_singleton] at hs
  subst hs
  exact h0
 ·simp [unf0]
end
end Go.AI


namespace Go.AI
open Go.Proofs
set_option maxRecDepth 20000
def zbq {α : Type} (p : α → Bool) : List α → Nat → Int
 | [], _ => -1
 | x :: r, i => if p x then (i : Int) else zbq p r (i + 1)
theorem zjJ (O : List Heap) (l : List Int) (f d nm : Nat) (p : Int → Bool) (hl : l.length ≤ zam) (hp : ∀ x ∈ l, zan Tryz.prog f [ii x, .own (d + 1) nm 0 0] ([] :: O) (bb (p x)) [] ([] :: O)) :
  zan Tryz.prog 104 [ints l, .fn (.func f) [] [.own d nm 0 0]] O (ii (zbq p l 0)) [] O := by
 refine zac Tk Tryz.func104 rfl Tryz.call104 Tryz.ntmps104 (Nat.le_of_ble_eq_true rfl) fun E => ?_
 refine zaM Tk Tryz.func104 ?_
 refine zbO (fun i : Nat => [(0, ints l), (1, .fn (.func f) [] [.own (d + 1) nm 0 0]), (6, ints l), (7, ii l.length), (8, ii i)]) (fun _ => [] :: O) 19 (fun i => i ≤ l.length ∧ zbq p l 0 = zbq p (l.drop i) i) (fun i => l.length - i) 0 ⟨Nat.zero_le _, rfl⟩ ⟨rfl, rfl, rfl, rfl, rfl, trivial⟩ rfl rfl ?_
 intro i ⟨hi, hno⟩ ih
 rw [hno]
 rw [hno] at ih
 refine zaM Tk Tryz.func104 ?_
 refine zaS Tk Tryz.func104 rfl (fun h1 => ?_) (fun h1 => ?_)
 ·have h1 : i < l.length := by simpa using h1
  have hd : l.drop i = l[i] :: l.drop (i + 1) := (List.drop_eq_getElem_cons h1)
  refine zck Tk Tryz.func104 (by omega) ?_
  refine zdJ Tk Tryz.func104 (zah h1) ?_
  refine zcl Tk Tryz.func104 (hp l[i] (List.getElem_mem h1)) rfl rfl rfl rfl rfl ?_
  refine zaS Tk Tryz.func104 rfl (fun h2 => ?_) (fun h2 => ?_)
  ·refine zau (hT := Tk) (r := ii _) rfl rfl rfl trivial rfl rfl ?_
   rw [hd]
   simp only [zbq]
   rw [if_pos h2]
  ·refine ih (i + 1) _ ⟨h1, ?_⟩ (by omega) ⟨rfl, rfl, rfl, rfl, congrArg ii (zaB h1 hl), trivial⟩ rfl rfl
   rw [hd]
   simp only [zbq]
   rw [if_neg (by rw [h2]; simp)]
 ·have h1 : l.length ≤ i := by simpa using h1
  refine zau (hT := Tk) (r := ii _) rfl rfl rfl trivial rfl rfl ?_
  rw [List.drop_eq_nil_of_le h1]
  rfl
theorem zdr {α : Type} (p : α → Bool) : ∀ (l : List α) (i : Nat), decide (zbq p l i ≥ 0) = l.any p
 | [], i => by simp [zbq]
 | x :: r, i => by
  by_cases h : p x = true
  ·have e : zbq p (x :: r) i = (i : Int) := if_pos h
   rw [List.any_cons, h, Bool.true_or, decide_eq_true_iff, e]
   omega
  ·have e : zbq p (x :: r) i = zbq p r (i + 1) := if_neg h
   have h' : p x = false := by simpa using h
   rw [List.any_cons, h', Bool.false_or, ← zdr p r (i + 1)]
   exact decide_eq_decide.2 (by rw [e])
theorem zgC (O : List Heap) (l : List Int) (f d nm : Nat) (p : Int → Bool) (hl : l.length ≤ zam) (hp : ∀ x ∈ l, zan Tryz.prog f [ii x, .own (d + 2) nm 0 0] ([] :: [] :: O) (bb (p x)) [] ([] :: [] :: O)) :
  zan Tryz.prog 47 [ints l, .fn (.func f) [] [.own d nm 0 0]] O (bb (l.any p)) [] O := by
 refine zac Tk Tryz.func47 rfl Tryz.call47 Tryz.ntmps47 (Nat.le_of_ble_eq_true rfl) fun E => ?_
 refine zaM Tk Tryz.func47 ?_
 refine zcl Tk Tryz.func47 (zjJ _ l f (d + 1) nm p hl hp) rfl rfl rfl rfl rfl ?_
 refine zau (hT := Tk) (r := bb _) rfl rfl rfl trivial rfl rfl ?_
 exact congrArg bb (zdr p l 0)
theorem zsi (O : List Heap) (x k : Int) (d nm : Nat) (ho : zaa O d nm = some (.box [ii k])) : zan Tryz.prog 205 [ii x, .own d nm 0 0] O (bb (decide (x ≠ k))) [] O := by
 refine zac Tk Tryz.func205 rfl Tryz.call205 Tryz.ntmps205 (Nat.le_of_ble_eq_true rfl) fun E => ?_
 refine zaM Tk Tryz.func205 ?_
 refine zqK Tk Tryz.func205 (ob := .box [ii k]) ho ?_
 refine zau (hT := Tk) (r := bb _) rfl rfl rfl trivial rfl rfl ?_
 by_cases h : x = k <;> simp [h]
theorem zoH (O : List Heap) (k : Int) (l : List Int) (d nm : Nat) (hl : l.length ≤ zam) (ho : zaa O d nm = some (.box [ints l])) : zan Tryz.prog 204 [ii k, .own d nm 0 0] O (bb (l.all (· = k))) [] O := by
 refine zac Tk Tryz.func204 rfl Tryz.call204 Tryz.ntmps204 (Nat.le_of_ble_eq_true rfl) fun E => ?_
 refine zaM Tk Tryz.func204 ?_
 refine zqK Tk Tryz.func204 (ob := .box [ints l]) ho ?_
 refine zcl Tk Tryz.func204 (zgC _ l 205 0 2 (fun x => decide (x ≠ k)) hl fun x _ => zsi _ x k _ _ rfl) rfl rfl rfl rfl rfl ?_
 refine zau (hT := Tk) (r := bb _) rfl rfl rfl trivial rfl rfl ?_
 refine congrArg bb ?_
 clear hl ho
 induction l with
 | nil => rfl
 | cons y r ih =>
  rw [List.all_cons, ← ih, List.any_cons]
  by_cases h : y = k <;> simp [h]
end Go.AI


namespace Go.AI
open Go.Proofs
set_option maxRecDepth 20000
abbrev strI (b : ByteArray) : I := .v (.string b)
def chr (b : ByteArray) (i : Nat) : Int := ((b.data.toList.getD i 0).toNat : Int)
def zcr (c : Int) : Bool := (decide (97 ≤ c) && decide (c ≤ 122)) || (decide (65 ≤ c) && decide (c ≤ 90)) || decide (c = 95)
def zfb (i : Nat) (c : Int) : Bool := zcr c || (decide (i ≠ 0) && decide (48 ≤ c) && decide (c ≤ 57))
def zc6 (b : ByteArray) : Bool := (List.range b.size).all (fun i => zfb i (chr b i)) && decide (0 < b.size) && decide (b.size ≤ 32)
theorem zqR {c : Cx} {todo : List Item} {s6 : St} {G : Prop} (h1 : Rch c todo s6 → G) (h2 : Rch c todo s6) : G := h1 h2
theorem zqS (O : List Heap) (b : ByteArray) (hl : b.size ≤ zam) : zan Tryz.prog 199 [.i (strI b)] O (bb (zc6 b)) [] O := by
 refine zaC [6] Tk Tryz.func199 rfl Tryz.call199 Tryz.ntmps199 (Nat.le_of_ble_eq_true rfl) fun E => ?_
 refine zaM Tk Tryz.func199 ?_
 refine zbO (fun i : Nat => [(0, .i (strI b)), (7, ii b.size), (8, ii i)]) (fun _ => [] :: O) 55 (fun i => i ≤ b.size ∧ ∀ j, j < i → zfb j (chr b j) = true) (fun i => b.size - i) 0 ⟨Nat.zero_le _, fun j h => by omega⟩ ⟨rfl, rfl, rfl, trivial⟩ rfl rfl ?_
 intro i ⟨hi, hno⟩ ih
 refine zaM Tk Tryz.func199 ?_
 refine zaS Tk Tryz.func199 rfl (fun h1 => ?_) (fun h1 => ?_)
 ·have h1 : i < b.size := by simpa using h1
  refine zck Tk Tryz.func199 (by omega) ?_
  apply zqR (s6 := { σ := [(0, .i (strI b)), (3, ii i), (4, .i (.v (.int .u8 (chr b i)))), (5, bb (zcr (chr b i))), (7, ii b.size), (8, ii i)], S := [] :: O, n := 55 })
  ·intro H
   have fin : ∀ {s : St} {t : Bool}, s.get 5 = bb t → t = zcr (chr b i) → s.get 5 = bb (zcr (chr b i)) := fun h e => h.trans (congrArg bb e)
   have lt : (97 ≤ chr b i ∧ chr b i ≤ 122) ∨ (65 ≤ chr b i ∧ chr b i ≤ 90) → true = zcr (chr b i) := by
    intro h
    generalize chr b i = c at h
    unfold zcr
    rcases h with ⟨h1, h2⟩ | ⟨h1, h2⟩ <;> simp [h1, h2]
   have lu : ¬ ((97 ≤ chr b i ∧ chr b i ≤ 122) ∨ (65 ≤ chr b i ∧ chr b i ≤ 90)) → (chr b i == 95) = zcr (chr b i) := by
    intro h
    generalize chr b i = c at h ⊢
    unfold zcr
    have h1 : (decide (97 ≤ c) && decide (c ≤ 122)) = false := by
     rw [← Bool.decide_and]; exact decide_eq_false fun h' => h (.inl h')
    have h2 : (decide (65 ≤ c) && decide (c ≤ 90)) = false := by
     rw [← Bool.decide_and]; exact decide_eq_false fun h' => h (.inr h')
    rw [h1, h2]
    rfl
   refine zbb Tk Tryz.func199 rfl (fun h2 => ?_) (fun h2 => ?_)
   ·have h2 : chr b i ≥ 97 := of_decide_eq_true h2
    refine zbb Tk Tryz.func199 rfl (fun h3 => ?_) (fun h3 => ?_)
    ·have h3 : chr b i ≤ 122 := of_decide_eq_true h3
     refine zbb Tk Tryz.func199 rfl (fun _ => ?_) (fun h => by cases h)
     refine zcq H ⟨rfl, rfl, rfl, fin rfl ?_, rfl, rfl, trivial⟩
     exact lt (by omega)
    ·have h3 : ¬ chr b i ≤ 122 := of_decide_eq_false h3
     refine zbb Tk Tryz.func199 rfl (fun h4 => ?_) (fun h4 => ?_)
     ·have h4 : chr b i ≥ 65 := of_decide_eq_true h4
      refine zbb Tk Tryz.func199 rfl (fun h5 => ?_) (fun h5 => ?_)
      ·have h5 : chr b i ≤ 90 := of_decide_eq_true h5
       refine zcq H ⟨rfl, rfl, rfl, fin rfl ?_, rfl, rfl, trivial⟩
       exact lt (by omega)
      ·have h5 : ¬ chr b i ≤ 90 := of_decide_eq_false h5
       refine zcq H ⟨rfl, rfl, rfl, fin rfl ?_, rfl, rfl, trivial⟩
       exact lu (by omega)
     ·have h4 : ¬ chr b i ≥ 65 := of_decide_eq_false h4
      refine zbb Tk Tryz.func199 rfl (fun h => by cases h) (fun _ => ?_)
      refine zcq H ⟨rfl, rfl, rfl, fin rfl ?_, rfl, rfl, trivial⟩
      exact lu (by omega)
   ·have h2 : ¬ chr b i ≥ 97 := of_decide_eq_false h2
    refine zbb Tk Tryz.func199 rfl (fun h => by cases h) (fun _ => ?_)
    refine zbb Tk Tryz.func199 rfl (fun h4 => ?_) (fun h4 => ?_)
    ·have h4 : chr b i ≥ 65 := of_decide_eq_true h4
     refine zbb Tk Tryz.func199 rfl (fun h5 => ?_) (fun h5 => ?_)
     ·have h5 : chr b i ≤ 90 := of_decide_eq_true h5
      refine zcq H ⟨rfl, rfl, rfl, fin rfl ?_, rfl, rfl, trivial⟩
      exact lt (by omega)
     ·have h5 : ¬ chr b i ≤ 90 := of_decide_eq_false h5
      refine zcq H ⟨rfl, rfl, rfl, fin rfl ?_, rfl, rfl, trivial⟩
      exact lu (by omega)
    ·have h4 : ¬ chr b i ≥ 65 := of_decide_eq_false h4
     refine zbb Tk Tryz.func199 rfl (fun h => by cases h) (fun _ => ?_)
     refine zcq H ⟨rfl, rfl, rfl, fin rfl ?_, rfl, rfl, trivial⟩
     exact lu (by omega)
  ·refine zaM Tk Tryz.func199 ?_
   refine m_go Tk Tryz.func199 ?_
   have hbad : zfb i (chr b i) = false → zc6 b = false := by
    intro h
    unfold zc6
    have : (List.range b.size).all (fun i => zfb i (chr b i)) = false := by
     rw [List.all_eq_false]
     exact ⟨i, List.mem_range.2 h1, by rw [h]; simp⟩
    rw [this]; rfl
   have hgood : zfb i (chr b i) = true → ∀ j, j < i + 1 → zfb j (chr b j) = true := by
    intro h j hj
    by_cases e : j = i
    ·subst e; exact h
    ·exact hno j (by omega)
   refine zbb Tk Tryz.func199 rfl (fun h2 => ?_) (fun h2 => ?_)
   ·have h2 : zcr (chr b i) = false := by simpa using h2
    refine zbb Tk Tryz.func199 rfl (fun h3 => ?_) (fun h3 => ?_)
    ·have h3 : i = 0 := by simpa using h3
     refine zbb Tk Tryz.func199 rfl (fun _ => ?_) (fun h => by cases h)
     refine zaS Tk Tryz.func199 rfl (fun _ => ?_) (fun h => by cases h)
     refine zau (hT := Tk) (r := bb _) rfl rfl rfl trivial rfl rfl ?_
     rw [hbad (by unfold zfb; rw [h2, h3]; rfl)]
    ·have h3 : i ≠ 0 := by simpa using h3
     refine zbb Tk Tryz.func199 rfl (fun h4 => ?_) (fun h4 => ?_)
     ·have h4 : chr b i < 48 := of_decide_eq_true h4
      refine zaS Tk Tryz.func199 rfl (fun _ => ?_) (fun h => by cases h)
      refine zau (hT := Tk) (r := bb _) rfl rfl rfl trivial rfl rfl ?_
      rw [hbad (by unfold zfb; rw [h2]; simp; omega)]
     ·have h4 : ¬ chr b i < 48 := of_decide_eq_false h4
      refine zaS Tk Tryz.func199 rfl (fun h5 => ?_) (fun h5 => ?_)
      ·have h5 : chr b i > 57 := of_decide_eq_true h5
       refine zau (hT := Tk) (r := bb _) rfl rfl rfl trivial rfl rfl ?_
       rw [hbad (by unfold zfb; rw [h2]; simp; omega)]
      ·have h5 : ¬ chr b i > 57 := of_decide_eq_false h5
       refine ih (i + 1) _ ⟨h1, hgood ?_⟩ (by omega) ⟨rfl, rfl, congrArg ii (zaB h1 hl), trivial⟩ rfl rfl
       unfold zfb
       rw [h2]
       simp [h3]
       omega
   ·have h2 : zcr (chr b i) = true := by simpa using h2
    refine zaS Tk Tryz.func199 rfl (fun h => by cases h) (fun _ => ?_)
    refine ih (i + 1) _ ⟨h1, hgood ?_⟩ (by omega) ⟨rfl, rfl, congrArg ii (zaB h1 hl), trivial⟩ rfl rfl
    unfold zfb
    rw [h2]
    rfl
 ·have h1 : b.size ≤ i := by simpa using h1
  have hall : (List.range b.size).all (fun i => zfb i (chr b i)) = true := by
   rw [List.all_eq_true]
   intro j hj
   rw [List.mem_range] at hj
   exact hno j (by omega)
  refine zbb Tk Tryz.func199 rfl (fun h2 => ?_) (fun h2 => ?_)
  ·have h2 : 0 < b.size := by simpa using h2
   refine zau (hT := Tk) (r := bb _) rfl rfl rfl trivial rfl rfl ?_
   refine congrArg bb ?_
   unfold zc6
   rw [hall, decide_eq_true h2]
   exact decide_eq_decide.2 (by omega)
  ·have h2 : ¬ 0 < b.size := by simpa using h2
   refine zau (hT := Tk) (r := bb _) rfl rfl rfl trivial rfl rfl ?_
   refine congrArg bb ?_
   unfold zc6
   rw [decide_eq_false h2]
   simp
end Go.AI


namespace Go.AI
open Go.Proofs
set_option maxRecDepth 20000
structure Vr where
 name : ByteArray
 low : Int
 high : Int
 init : Int
abbrev vrI (v : Vr) : List I := [strI v.name, vi v.low, vi v.high, vi v.init]
abbrev vrD (v : Vr) : D := .agg [.i (strI v.name), ii v.low, ii v.high, ii v.init]
abbrev vrsI (l : List Vr) : I := .sl 4 l.length (l.map vrI)
abbrev vrs (l : List Vr) : D := .i (vrsI l)
abbrev zoL (l : List (List Int)) : I := .sl 1 l.length (l.map fun x => [zb2 x])
theorem zjI (O : List Heap) (l : List Vr) (f d nm : Nat) (p : Vr → Bool) (hl : l.length ≤ zam) (hp : ∀ x ∈ l, zan Tryz.prog f [vrD x, .own (d + 1) nm 0 0] ([] :: O) (bb (p x)) [] ([] :: O)) :
  zan Tryz.prog 219 [vrs l, .fn (.func f) [] [.own d nm 0 0]] O (ii (zbq p l 0)) [] O := by
 refine zac Tk Tryz.func219 rfl Tryz.call219 Tryz.ntmps219 (Nat.le_of_ble_eq_true rfl) fun E => ?_
 refine zaM Tk Tryz.func219 ?_
 refine zbO (fun i : Nat => [(0, vrs l), (1, .fn (.func f) [] [.own (d + 1) nm 0 0]), (6, vrs l), (7, ii l.length), (8, ii i)]) (fun _ => [] :: O) 19 (fun i => i ≤ l.length ∧ zbq p l 0 = zbq p (l.drop i) i) (fun i => l.length - i) 0 ⟨Nat.zero_le _, rfl⟩ ⟨rfl, rfl, rfl, rfl, rfl, trivial⟩ rfl rfl ?_
 intro i ⟨hi, hno⟩ ih
 rw [hno]
 rw [hno] at ih
 refine zaM Tk Tryz.func219 ?_
 refine zaS Tk Tryz.func219 rfl (fun h1 => ?_) (fun h1 => ?_)
 ·have h1 : i < l.length := by simpa using h1
  have hd : l.drop i = l[i] :: l.drop (i + 1) := (List.drop_eq_getElem_cons h1)
  refine zck Tk Tryz.func219 (by omega) ?_
  refine zdJ Tk Tryz.func219 (zah h1) ?_
  refine zcl Tk Tryz.func219 (hp l[i] (List.getElem_mem h1)) rfl rfl rfl rfl rfl ?_
  refine zaS Tk Tryz.func219 rfl (fun h2 => ?_) (fun h2 => ?_)
  ·refine zau (hT := Tk) (r := ii _) rfl rfl rfl trivial rfl rfl ?_
   rw [hd]
   simp only [zbq]
   rw [if_pos h2]
  ·refine ih (i + 1) _ ⟨h1, ?_⟩ (by omega) ⟨rfl, rfl, rfl, rfl, congrArg ii (zaB h1 hl), trivial⟩ rfl rfl
   rw [hd]
   simp only [zbq]
   rw [if_neg (by rw [h2]; simp)]
 ·have h1 : l.length ≤ i := by simpa using h1
  refine zau (hT := Tk) (r := ii _) rfl rfl rfl trivial rfl rfl ?_
  rw [List.drop_eq_nil_of_le h1]
  rfl
theorem zgB (O : List Heap) (l : List Vr) (f d nm : Nat) (p : Vr → Bool) (hl : l.length ≤ zam) (hp : ∀ x ∈ l, zan Tryz.prog f [vrD x, .own (d + 2) nm 0 0] ([] :: [] :: O) (bb (p x)) [] ([] :: [] :: O)) :
  zan Tryz.prog 200 [vrs l, .fn (.func f) [] [.own d nm 0 0]] O (bb (l.any p)) [] O := by
 refine zac Tk Tryz.func200 rfl Tryz.call200 Tryz.ntmps200 (Nat.le_of_ble_eq_true rfl) fun E => ?_
 refine zaM Tk Tryz.func200 ?_
 refine zcl Tk Tryz.func200 (zjI _ l f (d + 1) nm p hl hp) rfl rfl rfl rfl rfl ?_
 refine zau (hT := Tk) (r := bb _) rfl rfl rfl trivial rfl rfl ?_
 exact congrArg bb (zdr p l 0)
theorem zmC (O : List Heap) (x v : Vr) (d nm : Nat) (ho : zaa O d nm = some (.box [.i (strI v.name), ii v.low, ii v.high, ii v.init])) : zan Tryz.prog 201 [vrD x, .own d nm 0 0] O (bb (x.name.toList == v.name.toList)) [] O := by
 refine zac Tk Tryz.func201 rfl Tryz.call201 Tryz.ntmps201 (Nat.le_of_ble_eq_true rfl) fun E => ?_
 refine zaM Tk Tryz.func201 ?_
 refine zqK Tk Tryz.func201 (ob := .box [.i (strI v.name), ii v.low, ii v.high, ii v.init]) ho ?_
 refine zau (hT := Tk) (r := bb _) rfl rfl rfl trivial rfl rfl ?_
 rfl
def checkVr (ds : List Vr) (v : Vr) : Option Int :=
 if zc6 v.name = false then some 7
 else if ds.any (fun x => x.name.toList == v.name.toList) then some 8
 else if large v.low || large v.high then some 2
 else if v.low > v.high then some 5
 else if v.init < v.low ∨ v.init > v.high then some 2
 else none
where large (a : Int) : Bool := decide (65536 < a) || decide (a < -65536)
def zbf (all : List Vr) : List Vr → Nat → Int
 | [], _ => 0
 | v :: r, i => match checkVr (all.take i) v with
  | some e => e
  | none => zbf all r (i + 1)
theorem zjA (O : List Heap) (a b : Int) : zan Tryz.prog 173 [ii a, ii b] O (bb (decide (b < a) || decide (a < IntKind.i64.wrap (0 - b)))) [] O := by
 refine zac Tk Tryz.func173 rfl Tryz.call173 Tryz.ntmps173 (Nat.le_of_ble_eq_true rfl) fun E => ?_
 refine zaM Tk Tryz.func173 ?_
 refine zbb Tk Tryz.func173 rfl (fun h1 => ?_) (fun h1 => ?_)
 ·have h1 : b < a := of_decide_eq_true h1
  refine zau (hT := Tk) (r := bb _) rfl rfl rfl trivial rfl rfl ?_
  simp [h1]
 ·have h1 : ¬ b < a := of_decide_eq_false h1
  refine zau (hT := Tk) (r := bb _) rfl rfl rfl trivial rfl rfl ?_
  simp only [decide_eq_false h1, Bool.false_or]
end Go.AI


namespace Go.AI
open Go.Proofs
set_option maxRecDepth 20000
theorem zp7 {l : List Vr} {i : Nat} (h : i ≤ l.length) : vrs (l.take i) = .i (.sl 4 (i : Int).toNat ((l.map vrI).take (i : Int).toNat)) := by
 simp [vrs, vrsI, List.map_take, Nat.min_eq_left h]
theorem zj7 (O : List Heap) (l : List Vr) (hl : l.length ≤ zam) (hn : ∀ v ∈ l, v.name.size ≤ zam) : zan Tryz.prog 167 [vrs l] O (ii (if l.length > 16 then 3 else zbf l l 0)) [] O := by
 refine zac Tk Tryz.func167 rfl Tryz.call167 Tryz.ntmps167 (Nat.le_of_ble_eq_true rfl) fun E => ?_
 refine zaM Tk Tryz.func167 ?_
 refine zaS Tk Tryz.func167 rfl (fun h1 => ?_) (fun h1 => ?_)
 ·have h1 : (16 : Int) < l.length := by simpa using h1
  have h1 : l.length > 16 := by omega
  refine zau (hT := Tk) (r := ii _) rfl rfl rfl trivial rfl rfl ?_
  rw [if_pos h1]
 have h1 : (l.length : Int) ≤ 16 := by simpa using h1
 have h1 : ¬ l.length > 16 := by omega
 rw [if_neg h1]
 refine zag (fun i : Nat => [(0, vrs l), (8, vrs l), (9, ii l.length), (10, ii i)]) (fun _ => []) (fun _ => O) 55 (fun i => i ≤ l.length ∧ zbf l l 0 = zbf l (l.drop i) i) (fun i => l.length - i) 0 ⟨Nat.zero_le _, rfl⟩ ⟨rfl, rfl, rfl, rfl, trivial⟩ rfl trivial rfl rfl ?_
 intro i ⟨hi, hno⟩ ih
 rw [hno]
 rw [hno] at ih
 refine zaM Tk Tryz.func167 ?_
 refine zaS Tk Tryz.func167 rfl (fun h2 => ?_) (fun h2 => ?_)
 ·have h2 : i < l.length := by simpa using h2
  have hd : l.drop i = l[i] :: l.drop (i + 1) := (List.drop_eq_getElem_cons h2)
  have hm := List.getElem_mem h2
  generalize hv : l[i] = v at hd hm
  refine zck Tk Tryz.func167 (by omega) ?_
  refine zdJ Tk Tryz.func167 (d := vrI v) (by rw [← hv]; exact zah (f := vrI) h2) ?_
  refine zcl Tk Tryz.func167 (zqS _ v.name (hn v hm)) rfl rfl rfl rfl rfl ?_
  refine zaS Tk Tryz.func167 rfl (fun h3 => ?_) (fun h3 => ?_)
  ·have h3 : zc6 v.name = false := by simpa using h3
   refine zau (hT := Tk) (r := ii _) rfl rfl rfl trivial rfl rfl ?_
   rw [hd]
   simp only [zbf, checkVr]
   rw [if_pos h3]
  have h3 : ¬ zc6 v.name = false := by simpa using h3
  refine zck Tk Tryz.func167 (by omega) ?_
  have hs := zgB ([(4, .box [.i (strI v.name), ii v.low, ii v.high, ii v.init]), (4, .box [.i (strI ⟨#[]⟩), ii 0, ii 0, ii 0])] :: O) (l.take i) 201 0 4 (fun x => x.name.toList == v.name.toList) (by rw [List.length_take]; omega) fun x _ => zmC _ x v 2 4 rfl
  rw [zp7 hi] at hs
  refine zcl Tk Tryz.func167 hs rfl rfl rfl rfl rfl ?_
  refine zaS Tk Tryz.func167 rfl (fun h4 => ?_) (fun h4 => ?_)
  ·refine zau (hT := Tk) (r := ii _) rfl rfl rfl trivial rfl rfl ?_
   rw [hd]
   simp only [zbf, checkVr]
   rw [if_neg h3, if_pos h4]
  have h4 : ¬ ((l.take i).any fun x => x.name.toList == v.name.toList) = true := by rw [h4]; simp
  refine zcl Tk Tryz.func167 (zjA _ v.low 65536) rfl rfl rfl rfl rfl ?_
  have fin2 : (checkVr.large v.low || checkVr.large v.high) = true → zbf l (l.drop i) i = 2 := by
   intro h
   rw [hd]
   simp only [zbf, checkVr]
   rw [if_neg h3, if_neg h4, if_pos h]
  have rest : (checkVr.large v.low || checkVr.large v.high) = false → zbf l (l.drop i) i = if v.low > v.high then 5 else if v.init < v.low ∨ v.init > v.high then 2 else zbf l (l.drop (i + 1)) (i + 1) := by
   intro h
   rw [hd]
   simp only [zbf, checkVr]
   rw [if_neg h3, if_neg h4, if_neg (by rw [h]; simp)]
   by_cases a1 : v.low > v.high
   ·simp only [if_pos a1]
   ·simp only [if_neg a1]
    by_cases a2 : v.init < v.low ∨ v.init > v.high
    ·simp only [if_pos a2]
    ·simp only [if_neg a2]
  refine zbb Tk Tryz.func167 rfl (fun h5 => ?_) (fun h5 => ?_)
  ·have h5 : checkVr.large v.low = true := h5
   refine zaS Tk Tryz.func167 rfl (fun _ => ?_) (fun h => by cases h)
   refine zau (hT := Tk) (r := ii _) rfl rfl rfl trivial rfl rfl ?_
   rw [fin2 (by rw [h5]; rfl)]
  have h5 : checkVr.large v.low = false := h5
  refine zcl Tk Tryz.func167 (zjA _ v.high 65536) rfl rfl rfl rfl rfl ?_
  refine zaS Tk Tryz.func167 rfl (fun h6 => ?_) (fun h6 => ?_)
  ·have h6 : checkVr.large v.high = true := h6
   refine zau (hT := Tk) (r := ii _) rfl rfl rfl trivial rfl rfl ?_
   rw [fin2 (by rw [h6, h5]; rfl)]
  have h6 : checkVr.large v.high = false := h6
  have rest := rest (by rw [h5, h6]; rfl)
  refine zaS Tk Tryz.func167 rfl (fun h7 => ?_) (fun h7 => ?_)
  ·have h7 : v.low > v.high := of_decide_eq_true h7
   refine zau (hT := Tk) (r := ii _) rfl rfl rfl trivial rfl rfl ?_
   rw [rest, if_pos h7]
  have h7 : ¬ v.low > v.high := of_decide_eq_false h7
  rw [if_neg h7] at rest
  refine zbb Tk Tryz.func167 rfl (fun h8 => ?_) (fun h8 => ?_)
  ·have h8 : v.init < v.low := of_decide_eq_true h8
   refine zaS Tk Tryz.func167 rfl (fun _ => ?_) (fun h => by cases h)
   refine zau (hT := Tk) (r := ii _) rfl rfl rfl trivial rfl rfl ?_
   rw [rest, if_pos (.inl h8)]
  have h8 : ¬ v.init < v.low := of_decide_eq_false h8
  refine zaS Tk Tryz.func167 rfl (fun h9 => ?_) (fun h9 => ?_)
  ·have h9 : v.init > v.high := of_decide_eq_true h9
   refine zau (hT := Tk) (r := ii _) rfl rfl rfl trivial rfl rfl ?_
   rw [rest, if_pos (.inr h9)]
  have h9 : ¬ v.init > v.high := of_decide_eq_false h9
  rw [if_neg (by omega)] at rest
  refine ih (i + 1) _ _ ⟨h2, rest⟩ (by omega) ⟨rfl, rfl, rfl, congrArg ii (zaB h2 hl), trivial⟩ rfl trivial rfl rfl
 ·have h2 : l.length ≤ i := by simpa using h2
  refine zau (hT := Tk) (r := ii _) rfl rfl rfl trivial rfl rfl ?_
  rw [List.drop_eq_nil_of_le h2]
  rfl
end Go.AI


namespace Go.AI
open Go.Proofs
set_option maxRecDepth 20000
inductive Ex where
 | mk (op val idx : Int) (args : List Ex)
mutual
def exI : Ex → List I
 | .mk op v i args => [vi op, vi v, vi i, .sl 4 args.length (exIs args)]
def exIs : List Ex → List (List I)
 | [] => []
 | e :: r => exI e :: exIs r
end
theorem zlx : ∀ l : List Ex, exIs l = l.map exI
 | [] => by simp [exIs]
 | e :: r => by simp [exIs, zlx r]
def exD : Ex → D
 | .mk op v i args => .agg [ii op, ii v, ii i, .i (.sl 4 args.length (exIs args))]
def ze6 : Ex := .mk 0 0 0 []
def zjg : Ex := .mk 6 0 0 [ze6, ze6]
theorem zrt (O : List Heap) : zan Tryz.prog 73 [] O (exD (.mk 6 0 0 [ze6, ze6])) [] O := by
 refine zac Tk Tryz.func73 rfl Tryz.call73 Tryz.ntmps73 (Nat.le_of_ble_eq_true rfl) fun E => ?_
 refine zaM Tk Tryz.func73 ?_
 refine zhH (hT := Tk) (r := .agg [ii 6, ii 0, ii 0, .i (.sl 4 2 [[vi 0, vi 0, vi 0, .v (.slice none 0 0)], [vi 0, vi 0, vi 0, .v (.slice none 0 0)]])]) rfl rfl rfl trivial rfl rfl ?_
 show CoD _ (.agg [ii 6, ii 0, ii 0, .i (.sl 4 2 (exIs [ze6, ze6]))])
 have hz : CoL [vi 0, vi 0, vi 0, .v (.slice none 0 0)] (exI ze6) := by
  simp only [ze6, exI]
  exact .cons (.refl _) (.cons (.refl _) (.cons (.refl _) (.cons zaW .nil)))
 refine zbZ (.cons (.refl _) (.cons (.refl _) (.cons (.refl _) (.cons (zbY (zeY ?_)) .nil))))
 simp only [exIs]
 exact .cons hz (.cons hz .nil)
end Go.AI


namespace Go.AI
open Go.Proofs
set_option maxRecDepth 20000
abbrev exs (l : List Ex) : D := .i (.sl 4 l.length (exIs l))
theorem zhY {l : List Ex} {i : Nat} (h : i < l.length) : (exIs l)[(i : Int).toNat]? = some (exI l[i]) := by
 rw [zlx]
 exact zah (f := exI) h
end Go.AI


namespace Go.AI
open Go.Proofs
set_option maxRecDepth 20000
mutual
def exOk : Ex → Prop
 | .mk _ _ _ a => a.length ≤ zam ∧ zq7 a
def zq7 : List Ex → Prop
 | [] => True
 | x :: xs => exOk x ∧ zq7 xs
end
theorem ziV : ∀ {l : List Ex}, zq7 l → ∀ x ∈ l, exOk x
 | [], _, x, h => by simp at h
 | y :: r, h, x, hx => by
  simp only [zq7] at h
  rcases List.mem_cons.1 hx with rfl | hx
  ·exact h.1
  ·exact ziV h.2 x hx
end Go.AI


namespace Go.AI
open Go.Proofs
set_option maxRecDepth 20000
def arity (x : Int) : Int × Bool :=
 if x = 0 then (0, true) else
 if x = 1 then (0, true) else
 if x = 5 then (1, true) else
 if x = 10 then (1, true) else
 if x = 2 then (2, true) else
 if x = 3 then (2, true) else
 if x = 4 then (2, true) else
 if x = 6 then (2, true) else
 if x = 7 then (2, true) else
 if x = 8 then (2, true) else
 if x = 9 then (2, true) else
 if x = 11 then (2, true) else
 if x = 12 then (2, true) else
 if x = 13 then (3, true) else
 (0, false)
theorem zkf (O : List Heap) (x : Int) : zan Tryz.prog 203 [ii x] O (.tup [ii (arity x).1, bb (arity x).2]) [] O := by
 refine zac Tk Tryz.func203 rfl Tryz.call203 Tryz.ntmps203 (Nat.le_of_ble_eq_true rfl) fun E => ?_
 refine zaM Tk Tryz.func203 ?_
 refine zaS Tk Tryz.func203 rfl (fun h => ?_) (fun h0 => ?_)
 ·have h : x = 0 := by simpa using h
  refine zaS Tk Tryz.func203 rfl (fun _ => ?_) (fun h' => by rw [h] at h'; cases h')
  refine zau (hT := Tk) (r := .tup [ii 0, bb true]) rfl rfl rfl trivial rfl rfl ?_
  subst h
  rfl
 have h0 : x ≠ 0 := by simpa using h0
 refine zaS Tk Tryz.func203 rfl (fun h => ?_) (fun h1 => ?_)
 ·have h : x = 1 := by simpa using h
  refine zau (hT := Tk) (r := .tup [ii 0, bb true]) rfl rfl rfl trivial rfl rfl ?_
  subst h
  rfl
 have h1 : x ≠ 1 := by simpa using h1
 refine zaS Tk Tryz.func203 rfl (fun h => ?_) (fun h5 => ?_)
 ·have h : x = 5 := by simpa using h
  refine zaS Tk Tryz.func203 rfl (fun _ => ?_) (fun h' => by rw [h] at h'; cases h')
  refine zau (hT := Tk) (r := .tup [ii 1, bb true]) rfl rfl rfl trivial rfl rfl ?_
  subst h
  rfl
 have h5 : x ≠ 5 := by simpa using h5
 refine zaS Tk Tryz.func203 rfl (fun h => ?_) (fun h10 => ?_)
 ·have h : x = 10 := by simpa using h
  refine zau (hT := Tk) (r := .tup [ii 1, bb true]) rfl rfl rfl trivial rfl rfl ?_
  subst h
  rfl
 have h10 : x ≠ 10 := by simpa using h10
 refine zaS Tk Tryz.func203 rfl (fun h => ?_) (fun h2 => ?_)
 ·have h : x = 2 := by simpa using h
  refine zaS Tk Tryz.func203 rfl (fun _ => ?_) (fun h' => by rw [h] at h'; cases h')
  refine zau (hT := Tk) (r := .tup [ii 2, bb true]) rfl rfl rfl trivial rfl rfl ?_
  subst h
  rfl
 have h2 : x ≠ 2 := by simpa using h2
 refine zaS Tk Tryz.func203 rfl (fun h => ?_) (fun h3 => ?_)
 ·have h : x = 3 := by simpa using h
  refine zaS Tk Tryz.func203 rfl (fun _ => ?_) (fun h' => by rw [h] at h'; cases h')
  refine zau (hT := Tk) (r := .tup [ii 2, bb true]) rfl rfl rfl trivial rfl rfl ?_
  subst h
  rfl
 have h3 : x ≠ 3 := by simpa using h3
 refine zaS Tk Tryz.func203 rfl (fun h => ?_) (fun h4 => ?_)
 ·have h : x = 4 := by simpa using h
  refine zaS Tk Tryz.func203 rfl (fun _ => ?_) (fun h' => by rw [h] at h'; cases h')
  refine zau (hT := Tk) (r := .tup [ii 2, bb true]) rfl rfl rfl trivial rfl rfl ?_
  subst h
  rfl
 have h4 : x ≠ 4 := by simpa using h4
 refine zaS Tk Tryz.func203 rfl (fun h => ?_) (fun h6 => ?_)
 ·have h : x = 6 := by simpa using h
  refine zaS Tk Tryz.func203 rfl (fun _ => ?_) (fun h' => by rw [h] at h'; cases h')
  refine zau (hT := Tk) (r := .tup [ii 2, bb true]) rfl rfl rfl trivial rfl rfl ?_
  subst h
  rfl
 have h6 : x ≠ 6 := by simpa using h6
 refine zaS Tk Tryz.func203 rfl (fun h => ?_) (fun h7 => ?_)
 ·have h : x = 7 := by simpa using h
  refine zaS Tk Tryz.func203 rfl (fun _ => ?_) (fun h' => by rw [h] at h'; cases h')
  refine zau (hT := Tk) (r := .tup [ii 2, bb true]) rfl rfl rfl trivial rfl rfl ?_
  subst h
  rfl
 have h7 : x ≠ 7 := by simpa using h7
 refine zaS Tk Tryz.func203 rfl (fun h => ?_) (fun h8 => ?_)
 ·have h : x = 8 := by simpa using h
  refine zaS Tk Tryz.func203 rfl (fun _ => ?_) (fun h' => by rw [h] at h'; cases h')
  refine zau (hT := Tk) (r := .tup [ii 2, bb true]) rfl rfl rfl trivial rfl rfl ?_
  subst h
  rfl
 have h8 : x ≠ 8 := by simpa using h8
 refine zaS Tk Tryz.func203 rfl (fun h => ?_) (fun h9 => ?_)
 ·have h : x = 9 := by simpa using h
  refine zaS Tk Tryz.func203 rfl (fun _ => ?_) (fun h' => by rw [h] at h'; cases h')
  refine zau (hT := Tk) (r := .tup [ii 2, bb true]) rfl rfl rfl trivial rfl rfl ?_
  subst h
  rfl
 have h9 : x ≠ 9 := by simpa using h9
 refine zaS Tk Tryz.func203 rfl (fun h => ?_) (fun h11 => ?_)
 ·have h : x = 11 := by simpa using h
  refine zaS Tk Tryz.func203 rfl (fun _ => ?_) (fun h' => by rw [h] at h'; cases h')
  refine zau (hT := Tk) (r := .tup [ii 2, bb true]) rfl rfl rfl trivial rfl rfl ?_
  subst h
  rfl
 have h11 : x ≠ 11 := by simpa using h11
 refine zaS Tk Tryz.func203 rfl (fun h => ?_) (fun h12 => ?_)
 ·have h : x = 12 := by simpa using h
  refine zau (hT := Tk) (r := .tup [ii 2, bb true]) rfl rfl rfl trivial rfl rfl ?_
  subst h
  rfl
 have h12 : x ≠ 12 := by simpa using h12
 refine zaS Tk Tryz.func203 rfl (fun h => ?_) (fun h13 => ?_)
 ·have h : x = 13 := by simpa using h
  refine zau (hT := Tk) (r := .tup [ii 3, bb true]) rfl rfl rfl trivial rfl rfl ?_
  subst h
  rfl
 have h13 : x ≠ 13 := by simpa using h13
 refine zau (hT := Tk) (r := .tup [ii 0, bb false]) rfl rfl rfl trivial rfl rfl ?_
 have e : arity x = (0, false) := by
  unfold arity
  rw [if_neg h0]
  rw [if_neg h1]
  rw [if_neg h5]
  rw [if_neg h10]
  rw [if_neg h2]
  rw [if_neg h3]
  rw [if_neg h4]
  rw [if_neg h6]
  rw [if_neg h7]
  rw [if_neg h8]
  rw [if_neg h9]
  rw [if_neg h11]
  rw [if_neg h12]
  rw [if_neg h13]
 rw [e]
end Go.AI


namespace Go.AI
open Go.Proofs
set_option maxRecDepth 20000
theorem zhl (O : List Heap) (b : Bool) : zan Tryz.prog 220 [bb b] O (ii (if b then 1 else 0)) [] O := by
 refine zac Tk Tryz.func220 rfl Tryz.call220 Tryz.ntmps220 (Nat.le_of_ble_eq_true rfl) fun E => ?_
 refine zaM Tk Tryz.func220 ?_
 refine zaS Tk Tryz.func220 rfl (fun h => ?_) (fun h => ?_)
 ·refine zau (hT := Tk) (r := ii 1) rfl rfl rfl trivial rfl rfl ?_
  rw [if_pos h]
 ·refine zau (hT := Tk) (r := ii 0) rfl rfl rfl trivial rfl rfl ?_
  rw [h]; rfl
def within (l : List Vr) (xs : List Int) : Bool := match l, xs with
 | [], [] => true
 | v :: r, x :: ys => decide (v.low ≤ x) && decide (x ≤ v.high) && within r ys
 | _, _ => false
theorem zet : ∀ (l : List Vr) (xs : List Int), l.length ≠ xs.length → within l xs = false
 | [], [], h => absurd rfl h
 | [], _ :: _, _ => rfl
 | _ :: _, [], _ => rfl
 | v :: r, x :: ys, h => by
  simp only [within]
  rw [zet r ys (by simpa using h), Bool.and_false]
theorem zp6 (O : List Heap) (l : List Vr) (xs : List Int) (hl : l.length ≤ zam) : zan Tryz.prog 169 [vrs l, ints xs] O (bb (within l xs)) [] O := by
 refine zac Tk Tryz.func169 rfl Tryz.call169 Tryz.ntmps169 (Nat.le_of_ble_eq_true rfl) fun E => ?_
 refine zaM Tk Tryz.func169 ?_
 refine zaS Tk Tryz.func169 rfl (fun h1 => ?_) (fun h1 => ?_)
 ·refine zau (hT := Tk) (r := bb _) rfl rfl rfl trivial rfl rfl ?_
  have h1 : (l.length : Int) ≠ xs.length := by simpa using h1
  rw [zet l xs (fun e => h1 (by rw [e]))]
 have hlen : l.length = xs.length := by
  have : (l.length : Int) = xs.length := by simpa using h1
  omega
 refine zag (fun i : Nat => [(0, vrs l), (1, ints xs), (12, vrs l), (13, ii l.length), (14, ii i)]) (fun _ => []) (fun _ => O) 36 (fun i => i ≤ l.length ∧ within l xs = within (l.drop i) (xs.drop i)) (fun i => l.length - i) 0 ⟨Nat.zero_le _, rfl⟩ ⟨rfl, rfl, rfl, rfl, rfl, trivial⟩ rfl trivial rfl rfl ?_
 intro i ⟨hi, hno⟩ ih
 rw [hno]
 rw [hno] at ih
 refine zaM Tk Tryz.func169 ?_
 refine zaS Tk Tryz.func169 rfl (fun h1 => ?_) (fun h1 => ?_)
 ·have h1 : i < l.length := by simpa using h1
  have h1' : i < xs.length := by omega
  have hd : l.drop i = l[i] :: l.drop (i + 1) := (List.drop_eq_getElem_cons h1)
  have hd' : xs.drop i = xs[i] :: xs.drop (i + 1) := (List.drop_eq_getElem_cons h1')
  have g1 : (l.map vrI)[(i : Int).toNat]? = some (vrI l[i]) := zah h1
  have g2 : (xs.map fun x => [vi x])[(i : Int).toNat]? = some [vi xs[i]] := zah (f := fun x => [vi x]) h1'
  generalize l[i] = v at hd g1
  generalize xs[i] = x at hd' g2
  refine zck Tk Tryz.func169 (by omega) ?_
  refine zdJ Tk Tryz.func169 (d := vrI v) g1 ?_
  refine zll Tk zay rfl ?_
  refine zat Tk (by omega) ?_
  refine zaA Tk g2 ?_
  refine zb8 Tk (fun h2 => ?_) (fun h2 => ?_)
  ·have h2 : x < v.low := of_decide_eq_true h2
   refine zof Tk Tryz.func169 (by kernel_rfl) ?_
   refine zaS Tk Tryz.func169 rfl (fun _ => ?_) (fun h => by cases h)
   refine zau (hT := Tk) (r := bb _) rfl rfl rfl trivial rfl rfl ?_
   rw [hd, hd']
   simp only [within]
   rw [decide_eq_false (by omega : ¬ v.low ≤ x)]
   rfl
  ·have h2 : ¬ x < v.low := of_decide_eq_false h2
   refine zat Tk (by omega) ?_
   refine zaA Tk g2 ?_
   refine zof Tk Tryz.func169 (by kernel_rfl) ?_
   refine zaS Tk Tryz.func169 rfl (fun h3 => ?_) (fun h3 => ?_)
   ·have h3 : x > v.high := of_decide_eq_true h3
    refine zau (hT := Tk) (r := bb _) rfl rfl rfl trivial rfl rfl ?_
    rw [hd, hd']
    simp only [within]
    rw [decide_eq_false (by omega : ¬ x ≤ v.high), Bool.and_false]
    rfl
   ·have h3 : ¬ x > v.high := of_decide_eq_false h3
    refine ih (i + 1) _ _ ⟨h1, ?_⟩ (by omega) ⟨rfl, rfl, rfl, rfl, congrArg ii (zaB h1 hl), trivial⟩ rfl trivial rfl rfl
    rw [hd, hd']
    simp only [within]
    rw [decide_eq_true (by omega : v.low ≤ x), decide_eq_true (by omega : x ≤ v.high)]
    rfl
 ·have h1 : l.length ≤ i := by simpa using h1
  refine zau (hT := Tk) (r := bb _) rfl rfl rfl trivial rfl rfl ?_
  rw [List.drop_eq_nil_of_le h1, List.drop_eq_nil_of_le (by omega)]
  rfl
end Go.AI


namespace Go.AI
theorem zc2 : ∀ {S : List Heap} {d nm : Nat} {ob : Ob} (d' n' : Nat), zaa (setAt S d nm ob) d' n' = if d = d' ∧ nm = n' ∧ d < S.length then some ob else zaa S d' n'
 | [], d, nm, ob, d', n' => by simp [setAt]
 | H :: S, 0, nm, ob, d', n' => by
  cases d' with
  | zero =>
   simp only [setAt, zaa, List.getElem?_cons_zero, zab]
   by_cases h : nm = n' <;> simp [h]
  | succ d' => simp [setAt, zaa]
 | H :: S, d + 1, nm, ob, d', n' => by
  cases d' with
  | zero => simp [setAt, zaa]
  | succ d' =>
   have := zc2 (S := S) (d := d) (nm := nm) (ob := ob) d' n'
   simp only [zaa] at this
   simp only [setAt, zaa, List.getElem?_cons_succ, this]
   simp
theorem zhC {S : List Heap} {d nm : Nat} {ob : Ob} (h : zaa S d nm = some ob) : d < S.length := by
 unfold zaa at h
 cases e : S[d]? with
 | none => simp [e] at h
 | some H => exact (List.getElem?_eq_some_iff.1 e).1
theorem length_set : ∀ {S : List Heap} {d nm : Nat} {ob : Ob}, (setAt S d nm ob).length = S.length
 | [], d, nm, ob => by simp [setAt]
 | H :: S, 0, nm, ob => rfl
 | H :: S, d + 1, nm, ob => by simp [setAt, length_set]
theorem zdH {S : List Heap} {d nm : Nat} {ob ob' : Ob} (h : zaa S d nm = some ob) : zaa (setAt S d nm ob') d nm = some ob' := by
 rw [zc2, if_pos ⟨rfl, rfl, zhC h⟩]
theorem zgT {S : List Heap} {d nm : Nat} {a b : Ob} (d' n' : Nat) : zaa (setAt S d nm b) d' n' = zaa (setAt (setAt S d nm a) d nm b) d' n' := by
 simp only [zc2, length_set]
 by_cases h : d = d' ∧ nm = n' ∧ d < S.length
 ·rw [if_pos h, if_pos h]
 ·rw [if_neg h, if_neg h, if_neg h]
theorem zeU {S : List Heap} {d nm : Nat} {a : Ob} (h : zaa S d nm = some a) (d' n' : Nat) : zaa (setAt S d nm a) d' n' = zaa S d' n' := by
 rw [zc2]
 by_cases e : d = d' ∧ nm = n' ∧ d < S.length
 ·obtain ⟨rfl, rfl, _⟩ := e
  rw [if_pos ⟨rfl, rfl, zhC h⟩, h]
 ·rw [if_neg e]
theorem zoc {S : List Heap} {d nm : Nat} {ob ob' : Ob} (h : zaa S d nm = some ob) (hs : ob'.sh = ob.sh) : shape (setAt S d nm ob') = shape S := by
 funext d' n'
 simp only [shape, zc2]
 by_cases e : d = d' ∧ nm = n' ∧ d < S.length
 ·obtain ⟨rfl, rfl, _⟩ := e
  rw [if_pos ⟨rfl, rfl, zhC h⟩, h]
  simp [hs]
 ·rw [if_neg e]
theorem zdP {c : Cx} {todo : List Item} {s : St} {l : List (Nat × D)} {S' : List Heap} {n' : Nat} (h : Rch c todo { σ := l, S := S', n := n' }) (hs : Sub s l) (hS : s.S = S') (hn : s.n = n') : Rch c todo s := by
 subst hS
 subst hn
 exact zcq h hs
theorem zaJ {c : Cx} {todo : List Item} {s : St} {l : List (Nat × D)} {H Hv : Heap} {O : List Heap} {n : Nat} (h : Rch c todo { σ := l, S := Hv :: O, n := n }) (hs : Sub s l) (hS : s.S = H :: O) (hH : SubH H Hv) (hok : zfN l Hv = true) (hn : s.n = n) : Rch c todo s := zcF hs hS hH hok hn h
theorem zbP {c : Cx} {todo : List Item} {s6 : St} {G P : Prop} (h1 : (P → Rch c todo s6) → G) (h2 : P → Rch c todo s6) : G := h1 h2
theorem zrE {c : Cx} {todo : List Item} {G : Prop} {α : Type} {P : α → Prop} {s6 : α → St} (h1 : (∀ a, P a → Rch c todo (s6 a)) → G) (h2 : ∀ a, P a → Rch c todo (s6 a)) : G := h1 h2
theorem zcA {α β : Type} {f : α → β} {l : List α} {i : Nat} (h : i < l.length) : (l.take (i + 1)).map f = (l.take i).map f ++ [f l[i]] := by
 rw [List.take_add_one, List.getElem?_eq_getElem h, List.map_append]
 rfl
theorem beqT {a b : Int} (h : (a == b) = true) : a = b := by simpa using h
theorem beqF {a b : Int} (h : (a == b) = false) : a ≠ b := by simpa using h
theorem bneT {a b : Int} (h : (a != b) = true) : a ≠ b := by simpa using h
theorem bneF {a b : Int} (h : (a != b) = false) : a = b := by simpa using h
theorem notT {b : Bool} (h : (!b) = true) : b = false := by simpa using h
theorem notF {b : Bool} (h : (!b) = false) : b = true := by simpa using h
theorem zdD {H : Heap} {S : List Heap} {d nm : Nat} {o : Ob} (h : zaa S d nm = some o) : zaa (H :: S) (d + 1) nm = some o := h
theorem zdm {H : Heap} {S S' : List Heap} (h : ∀ d n, zaa S' d n = zaa S d n) (d n : Nat) : zaa (H :: S') d n = zaa (H :: S) d n := by
 cases d with
 | zero => rfl
 | succ d => have := h d n; simpa [zaa] using this
theorem zmB {H : Heap} {S S' : List Heap} (h : shape S' = shape S) : shape (H :: S') = shape (H :: S) := by
 funext d n
 cases d with
 | zero => simp [shape, zaa]
 | succ d =>
  have := congrFun (congrFun h d) n
  simpa [shape, zaa] using this
end Go.AI
