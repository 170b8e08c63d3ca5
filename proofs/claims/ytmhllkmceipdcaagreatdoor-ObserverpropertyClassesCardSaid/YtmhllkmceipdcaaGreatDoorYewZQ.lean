/- The layer of abstract runs, part 43. -/
import Derived.Test.YtmhllkmceipdcaaGreatDoorYewZP
import Derived.Test.YtmhllkmceipdcaaGreatDoorProg
import Derived.KernelRfl
set_option linter.unusedSimpArgs false
set_option linter.unusedVariables false
set_option linter.all false

set_option maxRecDepth 20000
namespace Go.AI
open Go.Proofs
def TryzI1 : TI := { size := 1, bytes := 8, k := .sc, zero := [.nilFunc] }
def TryzI2 : TI := { size := 1, bytes := 8, k := .int .i64, zero := [.int .i64 0] }
def TryzI3 : TI := { size := 1, bytes := 8, k := .int .i64, zero := [.int .i64 0] }
def TryzI4 : TI := { size := 1, bytes := 1, k := .bool, zero := [.bool false] }
def TryzI5 : TI := { size := 1, bytes := 1, k := .int .u8, zero := [.int .u8 0] }
def TryzI6 : TI := { size := 1, bytes := 1, k := .int .u8, zero := [.int .u8 0] }
def TryzI7 : TI := { size := 4, bytes := 24, k := .struct [(0, 1, false), (1, 1, false), (2, 1, false), (3, 1, false)], zero := [.int .i64 0, .int .i64 0, .bool false, .int .u8 0] }
def TryzI8 : TI := { size := 4, bytes := 24, k := .struct [(0, 1, false), (1, 1, false), (2, 1, false), (3, 1, false)], zero := [.int .i64 0, .int .i64 0, .bool false, .int .u8 0] }
def TryzI9 : TI := { size := 1, bytes := 16, k := .str, zero := [.string ⟨#[]⟩] }
def TryzI10 : TI := { size := 1, bytes := 16, k := .str, zero := [.string ⟨#[]⟩] }
def TryzI11 : TI := { size := 1, bytes := 16, k := .str, zero := [.string ⟨#[]⟩] }
def TryzI12 : TI := { size := 1, bytes := 8, k := .int .u64, zero := [.int .u64 0] }
def TryzI13 : TI := { size := 2, bytes := 24, k := .struct [(0, 1, false), (1, 1, false)], zero := [.string ⟨#[]⟩, .int .u64 0] }
def TryzI14 : TI := { size := 2, bytes := 24, k := .struct [(0, 1, false), (1, 1, false)], zero := [.string ⟨#[]⟩, .int .u64 0] }
def TryzI15 : TI := { size := 1, bytes := 8, k := .ptr 202, zero := [.pointer none] }
def TryzI16 : TI := { size := 1, bytes := 8, k := .ptr 205, zero := [.pointer none] }
def TryzI17 : TI := { size := 1, bytes := 8, k := .ptr 213, zero := [.pointer none] }
def TryzI18 : TI := { size := 1, bytes := 8, k := .struct [(0, 1, false)], zero := [.pointer none] }
def TryzI19 : TI := { size := 1, bytes := 8, k := .struct [(0, 1, false)], zero := [.pointer none] }
def TryzI20 : TI := { size := 1, bytes := 16, k := .sc, zero := [.nilIface] }
def TryzI21 : TI := { size := 1, bytes := 4, k := .int .i32, zero := [.int .i32 0] }
def TryzI22 : TI := { size := 1, bytes := 1, k := .int .u8, zero := [.int .u8 0] }
def TryzI23 : TI := { size := 3, bytes := 3, k := .arr 3 22, zero := [.int .u8 0, .int .u8 0, .int .u8 0] }
def TryzI24 : TI := { size := 5, bytes := 5, k := .arr 5 5, zero := [.int .u8 0, .int .u8 0, .int .u8 0, .int .u8 0, .int .u8 0] }
def TryzI25 : TI := { size := 25, bytes := 25, k := .arr 5 24, zero := [.int .u8 0, .int .u8 0, .int .u8 0, .int .u8 0, .int .u8 0, .int .u8 0, .int .u8 0, .int .u8 0, .int .u8 0, .int .u8 0, .int .u8 0, .int .u8 0, .int .u8 0, .int .u8 0, .int .u8 0, .int .u8 0, .int .u8 0, .int .u8 0, .int .u8 0, .int .u8 0, .int .u8 0, .int .u8 0, .int .u8 0, .int .u8 0, .int .u8 0] }
def TryzI26 : TI := { size := 27, bytes := 27, k := .struct [(0, 1, false), (1, 1, false), (2, 25, true)], zero := [.int .u8 0, .int .u8 0, .int .u8 0, .int .u8 0, .int .u8 0, .int .u8 0, .int .u8 0, .int .u8 0, .int .u8 0, .int .u8 0, .int .u8 0, .int .u8 0, .int .u8 0, .int .u8 0, .int .u8 0, .int .u8 0, .int .u8 0, .int .u8 0, .int .u8 0, .int .u8 0, .int .u8 0, .int .u8 0, .int .u8 0, .int .u8 0, .int .u8 0, .int .u8 0, .int .u8 0] }
def TryzI27 : TI := { size := 27, bytes := 27, k := .struct [(0, 1, false), (1, 1, false), (2, 25, true)], zero := [.int .u8 0, .int .u8 0, .int .u8 0, .int .u8 0, .int .u8 0, .int .u8 0, .int .u8 0, .int .u8 0, .int .u8 0, .int .u8 0, .int .u8 0, .int .u8 0, .int .u8 0, .int .u8 0, .int .u8 0, .int .u8 0, .int .u8 0, .int .u8 0, .int .u8 0, .int .u8 0, .int .u8 0, .int .u8 0, .int .u8 0, .int .u8 0, .int .u8 0, .int .u8 0, .int .u8 0] }
def TryzI28 : TI := { size := 1, bytes := 8, k := .sc, zero := [.nilFunc] }
def TryzI29 : TI := { size := 1, bytes := 24, k := .slice 3, zero := [.slice none 0 0] }
def TryzI30 : TI := { size := 1, bytes := 24, k := .slice 79, zero := [.slice none 0 0] }
def TryzI31 : TI := { size := 4, bytes := 80, k := .struct [(0, 1, false), (1, 1, false), (2, 1, false), (3, 1, false)], zero := [.slice none 0 0, .int .i64 0, .slice none 0 0, .slice none 0 0] }
def TryzI32 : TI := { size := 4, bytes := 80, k := .struct [(0, 1, false), (1, 1, false), (2, 1, false), (3, 1, false)], zero := [.slice none 0 0, .int .i64 0, .slice none 0 0, .slice none 0 0] }
def TryzI33 : TI := { size := 1, bytes := 8, k := .sc, zero := [.nilFunc] }
def TryzI34 : TI := { size := 1, bytes := 8, k := .sc, zero := [.nilFunc] }
def TryzI35 : TI := { size := 1, bytes := 8, k := .int .i64, zero := [.int .i64 0] }
def TryzI37 : TI := { size := 1, bytes := 8, k := .sc, zero := [.nilFunc] }
def TryzI38 : TI := { size := 1, bytes := 8, k := .sc, zero := [.nilFunc] }
def TryzI39 : TI := { size := 1, bytes := 8, k := .sc, zero := [.nilFunc] }
def TryzI41 : TI := { size := 1, bytes := 8, k := .sc, zero := [.nilFunc] }
def TryzI43 : TI := { size := 1, bytes := 8, k := .sc, zero := [.nilFunc] }
def TryzI44 : TI := { size := 1, bytes := 8, k := .sc, zero := [.nilFunc] }
def TryzI45 : TI := { size := 2, bytes := 2, k := .arr 2 22, zero := [.int .u8 0, .int .u8 0] }
def TryzI46 : TI := { size := 1, bytes := 8, k := .sc, zero := [.nilFunc] }
def TryzI47 : TI := { size := 1, bytes := 8, k := .sc, zero := [.nilFunc] }
def TryzI48 : TI := { size := 1, bytes := 24, k := .slice 29, zero := [.slice none 0 0] }
def TryzI50 : TI := { size := 1, bytes := 8, k := .sc, zero := [.nilFunc] }
def TryzI51 : TI := { size := 1, bytes := 8, k := .sc, zero := [.nilFunc] }
def TryzI52 : TI := { size := 1, bytes := 8, k := .sc, zero := [.nilFunc] }
def TryzI54 : TI := { size := 1, bytes := 8, k := .sc, zero := [.nilFunc] }
def TryzI56 : TI := { size := 1, bytes := 8, k := .sc, zero := [.nilFunc] }
def TryzI58 : TI := { size := 1, bytes := 8, k := .sc, zero := [.nilFunc] }
def TryzI59 : TI := { size := 1, bytes := 8, k := .sc, zero := [.nilFunc] }
def TryzI60 : TI := { size := 2, bytes := 48, k := .arr 2 29, zero := [.slice none 0 0, .slice none 0 0] }
def TryzI62 : TI := { size := 1, bytes := 8, k := .sc, zero := [.nilFunc] }
def TryzI63 : TI := { size := 1, bytes := 8, k := .sc, zero := [.nilFunc] }
def TryzI64 : TI := { size := 1, bytes := 8, k := .sc, zero := [.nilFunc] }
def TryzI65 : TI := { size := 1, bytes := 8, k := .sc, zero := [.nilFunc] }
def TryzI66 : TI := { size := 1, bytes := 8, k := .sc, zero := [.nilFunc] }
def TryzI67 : TI := { size := 1, bytes := 8, k := .sc, zero := [.nilFunc] }
def TryzI68 : TI := { size := 1, bytes := 8, k := .sc, zero := [.nilFunc] }
def TryzI69 : TI := { size := 1, bytes := 8, k := .sc, zero := [.nilFunc] }
def TryzI70 : TI := { size := 1, bytes := 8, k := .sc, zero := [.nilFunc] }
def TryzI71 : TI := { size := 1, bytes := 24, k := .slice 4, zero := [.slice none 0 0] }
def TryzI72 : TI := { size := 1, bytes := 8, k := .sc, zero := [.nilFunc] }
def TryzI73 : TI := { size := 1, bytes := 8, k := .sc, zero := [.nilFunc] }
def TryzI74 : TI := { size := 1, bytes := 8, k := .sc, zero := [.nilFunc] }
def TryzI75 : TI := { size := 1, bytes := 8, k := .sc, zero := [.nilFunc] }
def TryzI76 : TI := { size := 1, bytes := 8, k := .sc, zero := [.nilFunc] }
def TryzI77 : TI := { size := 1, bytes := 8, k := .sc, zero := [.nilFunc] }
def TryzI78 : TI := { size := 3, bytes := 24, k := .struct [(0, 1, false), (1, 1, false), (2, 1, false)], zero := [.int .i64 0, .int .i64 0, .int .i64 0] }
def TryzI79 : TI := { size := 3, bytes := 24, k := .struct [(0, 1, false), (1, 1, false), (2, 1, false)], zero := [.int .i64 0, .int .i64 0, .int .i64 0] }
def TryzI80 : TI := { size := 1, bytes := 8, k := .sc, zero := [.nilFunc] }
def TryzI81 : TI := { size := 1, bytes := 8, k := .ptr 126, zero := [.pointer none] }
def TryzI83 : TI := { size := 1, bytes := 8, k := .sc, zero := [.nilFunc] }
def TryzI84 : TI := { size := 1, bytes := 8, k := .sc, zero := [.nilFunc] }
def TryzI85 : TI := { size := 1, bytes := 8, k := .sc, zero := [.nilFunc] }
def TryzI86 : TI := { size := 1, bytes := 8, k := .sc, zero := [.nilFunc] }
def TryzI87 : TI := { size := 1, bytes := 8, k := .sc, zero := [.nilFunc] }
def TryzI88 : TI := { size := 1, bytes := 8, k := .sc, zero := [.nilFunc] }
def TryzI89 : TI := { size := 1, bytes := 8, k := .sc, zero := [.nilFunc] }
def TryzI90 : TI := { size := 1, bytes := 8, k := .sc, zero := [.nilFunc] }
def TryzI91 : TI := { size := 1, bytes := 8, k := .sc, zero := [.nilFunc] }
def TryzI92 : TI := { size := 1, bytes := 8, k := .sc, zero := [.nilFunc] }
def TryzI93 : TI := { size := 1, bytes := 8, k := .sc, zero := [.nilFunc] }
def TryzI95 : TI := { size := 1, bytes := 8, k := .sc, zero := [.nilFunc] }
def TryzI96 : TI := { size := 1, bytes := 8, k := .sc, zero := [.nilFunc] }
def TryzI98 : TI := { size := 1, bytes := 8, k := .sc, zero := [.nilFunc] }
def TryzI99 : TI := { size := 1, bytes := 8, k := .sc, zero := [.nilFunc] }
def TryzI100 : TI := { size := 2, bytes := 16, k := .arr 2 3, zero := [.int .i64 0, .int .i64 0], cmp := [.int .i64, .int .i64] }
def TryzI101 : TI := { size := 1, bytes := 24, k := .slice 100, zero := [.slice none 0 0] }
def TryzI102 : TI := { size := 1, bytes := 8, k := .sc, zero := [.nilFunc] }
def TryzI103 : TI := { size := 1, bytes := 24, k := .slice 106, zero := [.slice none 0 0] }
def TryzI104 : TI := { size := 1, bytes := 8, k := .sc, zero := [.nilFunc] }
def TryzI105 : TI := { size := 3, bytes := 56, k := .struct [(0, 1, false), (1, 1, false), (2, 1, false)], zero := [.int .i64 0, .slice none 0 0, .slice none 0 0] }
def TryzI106 : TI := { size := 3, bytes := 56, k := .struct [(0, 1, false), (1, 1, false), (2, 1, false)], zero := [.int .i64 0, .slice none 0 0, .slice none 0 0] }
def TryzI107 : TI := { size := 3, bytes := 56, k := .struct [(0, 1, false), (1, 1, false), (2, 1, false)], zero := [.int .i64 0, .slice none 0 0, .slice none 0 0] }
def TryzI108 : TI := { size := 3, bytes := 56, k := .struct [(0, 1, false), (1, 1, false), (2, 1, false)], zero := [.int .i64 0, .slice none 0 0, .slice none 0 0] }
def TryzI110 : TI := { size := 1, bytes := 8, k := .sc, zero := [.nilFunc] }
def TryzI111 : TI := { size := 1, bytes := 8, k := .sc, zero := [.nilFunc] }
def TryzI112 : TI := { size := 1, bytes := 8, k := .sc, zero := [.nilFunc] }
def TryzI113 : TI := { size := 1, bytes := 8, k := .sc, zero := [.nilFunc] }
def TryzI114 : TI := { size := 1, bytes := 8, k := .sc, zero := [.nilFunc] }
def TryzI115 : TI := { size := 2, bytes := 32, k := .struct [(0, 1, false), (1, 1, false)], zero := [.slice none 0 0, .int .i64 0] }
def TryzI116 : TI := { size := 2, bytes := 32, k := .struct [(0, 1, false), (1, 1, false)], zero := [.slice none 0 0, .int .i64 0] }
def TryzI117 : TI := { size := 1, bytes := 24, k := .slice 116, zero := [.slice none 0 0] }
def TryzI118 : TI := { size := 1, bytes := 8, k := .sc, zero := [.nilFunc] }
def TryzI119 : TI := { size := 1, bytes := 8, k := .sc, zero := [.nilFunc] }
def TryzI120 : TI := { size := 1, bytes := 8, k := .sc, zero := [.nilFunc] }
def TryzI122 : TI := { size := 1, bytes := 8, k := .sc, zero := [.nilFunc] }
def TryzI123 : TI := { size := 1, bytes := 8, k := .sc, zero := [.nilFunc] }
def TryzI124 : TI := { size := 1, bytes := 24, k := .slice 30, zero := [.slice none 0 0] }
def TryzI125 : TI := { size := 7, bytes := 152, k := .struct [(0, 4, true), (4, 1, false), (5, 1, false), (6, 1, false)], zero := [.slice none 0 0, .int .i64 0, .slice none 0 0, .slice none 0 0, .slice none 0 0, .slice none 0 0, .slice none 0 0] }
def TryzI126 : TI := { size := 7, bytes := 152, k := .struct [(0, 4, true), (4, 1, false), (5, 1, false), (6, 1, false)], zero := [.slice none 0 0, .int .i64 0, .slice none 0 0, .slice none 0 0, .slice none 0 0, .slice none 0 0, .slice none 0 0] }
def TryzI127 : TI := { size := 1, bytes := 24, k := .slice 108, zero := [.slice none 0 0] }
def TryzI128 : TI := { size := 1, bytes := 8, k := .sc, zero := [.nilFunc] }
def TryzI129 : TI := { size := 1, bytes := 8, k := .map 9 4, zero := [.map none] }
def TryzI130 : TI := { size := 1, bytes := 8, k := .sc, zero := [.nilFunc] }
def TryzI131 : TI := { size := 1, bytes := 8, k := .map 3 4, zero := [.map none] }
def TryzI132 : TI := { size := 1, bytes := 8, k := .sc, zero := [.nilFunc] }
def TryzI133 : TI := { size := 1, bytes := 8, k := .sc, zero := [.nilFunc] }
def TryzI134 : TI := { size := 1, bytes := 8, k := .int .u64, zero := [.int .u64 0] }
def TryzI135 : TI := { size := 1, bytes := 8, k := .sc, zero := [.nilFunc] }
def TryzI136 : TI := { size := 3, bytes := 72, k := .struct [(0, 1, false), (1, 1, false), (2, 1, false)], zero := [.slice none 0 0, .slice none 0 0, .slice none 0 0] }
def TryzI137 : TI := { size := 3, bytes := 72, k := .struct [(0, 1, false), (1, 1, false), (2, 1, false)], zero := [.slice none 0 0, .slice none 0 0, .slice none 0 0] }
def TryzI138 : TI := { size := 1, bytes := 24, k := .slice 137, zero := [.slice none 0 0] }
def TryzI139 : TI := { size := 1, bytes := 8, k := .sc, zero := [.nilFunc] }
def TryzI140 : TI := { size := 1, bytes := 8, k := .sc, zero := [.nilFunc] }
def TryzI141 : TI := { size := 1, bytes := 8, k := .sc, zero := [.nilFunc] }
def TryzI142 : TI := { size := 1, bytes := 8, k := .sc, zero := [.nilFunc] }
def TryzI143 : TI := { size := 3, bytes := 72, k := .struct [(0, 1, false), (1, 1, false), (2, 1, false)], zero := [.slice none 0 0, .slice none 0 0, .slice none 0 0] }
def TryzI144 : TI := { size := 3, bytes := 72, k := .struct [(0, 1, false), (1, 1, false), (2, 1, false)], zero := [.slice none 0 0, .slice none 0 0, .slice none 0 0] }
def TryzI145 : TI := { size := 1, bytes := 24, k := .slice 144, zero := [.slice none 0 0] }
def TryzI147 : TI := { size := 1, bytes := 8, k := .sc, zero := [.nilFunc] }
def TryzI148 : TI := { size := 1, bytes := 8, k := .sc, zero := [.nilFunc] }
def TryzI149 : TI := { size := 1, bytes := 8, k := .sc, zero := [.nilFunc] }
def TryzI150 : TI := { size := 4, bytes := 96, k := .struct [(0, 1, false), (1, 1, false), (2, 1, false), (3, 1, false)], zero := [.slice none 0 0, .slice none 0 0, .slice none 0 0, .slice none 0 0] }
def TryzI151 : TI := { size := 4, bytes := 96, k := .struct [(0, 1, false), (1, 1, false), (2, 1, false), (3, 1, false)], zero := [.slice none 0 0, .slice none 0 0, .slice none 0 0, .slice none 0 0] }
def TryzI152 : TI := { size := 1, bytes := 8, k := .sc, zero := [.nilFunc] }
def TryzI153 : TI := { size := 1, bytes := 8, k := .sc, zero := [.nilFunc] }
def TryzI154 : TI := { size := 1, bytes := 8, k := .map 9 3, zero := [.map none] }
def TryzI155 : TI := { size := 1, bytes := 8, k := .ptr 158, zero := [.pointer none] }
def TryzI156 : TI := { size := 1, bytes := 24, k := .slice 5, zero := [.slice none 0 0] }
def TryzI157 : TI := { size := 2, bytes := 32, k := .struct [(0, 1, false), (1, 1, false)], zero := [.pointer none, .slice none 0 0] }
def TryzI158 : TI := { size := 2, bytes := 32, k := .struct [(0, 1, false), (1, 1, false)], zero := [.pointer none, .slice none 0 0] }
def TryzI159 : TI := { size := 1, bytes := 16, k := .sc, zero := [.nilIface] }
def TryzI160 : TI := { size := 1, bytes := 16, k := .sc, zero := [.nilIface] }
def TryzI162 : TI := { size := 1, bytes := 8, k := .sc, zero := [.nilFunc] }
def TryzI163 : TI := { size := 1, bytes := 8, k := .sc, zero := [.nilFunc] }
def TryzI164 : TI := { size := 1, bytes := 8, k := .sc, zero := [.nilFunc] }
def TryzI165 : TI := { size := 1, bytes := 8, k := .sc, zero := [.nilFunc] }
def TryzI166 : TI := { size := 1, bytes := 8, k := .sc, zero := [.nilFunc] }
def TryzI167 : TI := { size := 1, bytes := 8, k := .int .i64, zero := [.int .i64 0] }
def TryzI169 : TI := { size := 1, bytes := 8, k := .sc, zero := [.nilFunc] }
def TryzI170 : TI := { size := 1, bytes := 8, k := .sc, zero := [.nilFunc] }
def TryzI171 : TI := { size := 1, bytes := 8, k := .sc, zero := [.nilFunc] }
def TryzI172 : TI := { size := 1, bytes := 8, k := .sc, zero := [.nilFunc] }
def TryzI173 : TI := { size := 1, bytes := 8, k := .sc, zero := [.nilFunc] }
def TryzI174 : TI := { size := 1, bytes := 4, k := .int .u32, zero := [.int .u32 0] }
def TryzI175 : TI := { size := 1, bytes := 8, k := .sc, zero := [.nilFunc] }
def TryzI176 : TI := { size := 1, bytes := 8, k := .int .u64, zero := [.int .u64 0] }
def TryzI177 : TI := { size := 1, bytes := 8, k := .sc, zero := [.nilFunc] }
def TryzI178 : TI := { size := 1, bytes := 8, k := .ptr 5, zero := [.pointer none] }
def TryzI179 : TI := { size := 1, bytes := 8, k := .int .u64, zero := [.int .u64 0] }
def TryzI180 : TI := { size := 1, bytes := 8, k := .sc, zero := [.nilFunc] }
def TryzI181 : TI := { size := 1, bytes := 8, k := .sc, zero := [.nilFunc] }
def TryzI182 : TI := { size := 1, bytes := 8, k := .sc, zero := [.nilFunc] }
def TryzI183 : TI := { size := 1, bytes := 8, k := .ptr 3, zero := [.pointer none] }
def TryzI184 : TI := { size := 1, bytes := 8, k := .sc, zero := [.nilFunc] }
def TryzI185 : TI := { size := 1, bytes := 8, k := .sc, zero := [.nilFunc] }
def TryzI186 : TI := { size := 1, bytes := 8, k := .sc, zero := [.nilFunc] }
def TryzI188 : TI := { size := 1, bytes := 8, k := .sc, zero := [.nilFunc] }
def TryzI189 : TI := { size := 1, bytes := 8, k := .sc, zero := [.nilFunc] }
def TryzI190 : TI := { size := 1, bytes := 8, k := .ptr 179, zero := [.pointer none] }
def TryzI191 : TI := { size := 1, bytes := 8, k := .sc, zero := [.nilFunc] }
def TryzI192 : TI := { size := 24, bytes := 24, k := .arr 24 5, zero := [.int .u8 0, .int .u8 0, .int .u8 0, .int .u8 0, .int .u8 0, .int .u8 0, .int .u8 0, .int .u8 0, .int .u8 0, .int .u8 0, .int .u8 0, .int .u8 0, .int .u8 0, .int .u8 0, .int .u8 0, .int .u8 0, .int .u8 0, .int .u8 0, .int .u8 0, .int .u8 0, .int .u8 0, .int .u8 0, .int .u8 0, .int .u8 0] }
def TryzI193 : TI := { size := 1, bytes := 8, k := .sc, zero := [.nilFunc] }
def TryzI195 : TI := { size := 1, bytes := 8, k := .sc, zero := [.nilFunc] }
def TryzI196 : TI := { size := 1, bytes := 8, k := .sc, zero := [.nilFunc] }
def TryzI197 : TI := { size := 20, bytes := 160, k := .arr 20 176, zero := [.int .u64 0, .int .u64 0, .int .u64 0, .int .u64 0, .int .u64 0, .int .u64 0, .int .u64 0, .int .u64 0, .int .u64 0, .int .u64 0, .int .u64 0, .int .u64 0, .int .u64 0, .int .u64 0, .int .u64 0, .int .u64 0, .int .u64 0, .int .u64 0, .int .u64 0, .int .u64 0] }
def TryzI199 : TI := { size := 32, bytes := 32, k := .arr 32 5, zero := [.int .u8 0, .int .u8 0, .int .u8 0, .int .u8 0, .int .u8 0, .int .u8 0, .int .u8 0, .int .u8 0, .int .u8 0, .int .u8 0, .int .u8 0, .int .u8 0, .int .u8 0, .int .u8 0, .int .u8 0, .int .u8 0, .int .u8 0, .int .u8 0, .int .u8 0, .int .u8 0, .int .u8 0, .int .u8 0, .int .u8 0, .int .u8 0, .int .u8 0, .int .u8 0, .int .u8 0, .int .u8 0, .int .u8 0, .int .u8 0, .int .u8 0, .int .u8 0] }
def TryzI200 : TI := { size := 64, bytes := 64, k := .arr 64 5, zero := [.int .u8 0, .int .u8 0, .int .u8 0, .int .u8 0, .int .u8 0, .int .u8 0, .int .u8 0, .int .u8 0, .int .u8 0, .int .u8 0, .int .u8 0, .int .u8 0, .int .u8 0, .int .u8 0, .int .u8 0, .int .u8 0, .int .u8 0, .int .u8 0, .int .u8 0, .int .u8 0, .int .u8 0, .int .u8 0, .int .u8 0, .int .u8 0, .int .u8 0, .int .u8 0, .int .u8 0, .int .u8 0, .int .u8 0, .int .u8 0, .int .u8 0, .int .u8 0, .int .u8 0, .int .u8 0, .int .u8 0, .int .u8 0, .int .u8 0, .int .u8 0, .int .u8 0, .int .u8 0, .int .u8 0, .int .u8 0, .int .u8 0, .int .u8 0, .int .u8 0, .int .u8 0, .int .u8 0, .int .u8 0, .int .u8 0, .int .u8 0, .int .u8 0, .int .u8 0, .int .u8 0, .int .u8 0, .int .u8 0, .int .u8 0, .int .u8 0, .int .u8 0, .int .u8 0, .int .u8 0, .int .u8 0, .int .u8 0, .int .u8 0, .int .u8 0] }
def TryzI201 : TI := { size := 4, bytes := 40, k := .struct [(0, 1, false), (1, 1, false), (2, 1, false), (3, 1, false)], zero := [.pointer none, .pointer none, .pointer none, .string ⟨#[]⟩] }
def TryzI202 : TI := { size := 4, bytes := 40, k := .struct [(0, 1, false), (1, 1, false), (2, 1, false), (3, 1, false)], zero := [.pointer none, .pointer none, .pointer none, .string ⟨#[]⟩] }
def TryzI206 : TI := { size := 1, bytes := 8, k := .sc, zero := [.nilFunc] }
def TryzI207 : TI := { size := 1, bytes := 1, k := .int .u8, zero := [.int .u8 0] }
def TryzI208 : TI := { size := 1, bytes := 1, k := .int .u8, zero := [.int .u8 0] }
def TryzI209 : TI := { size := 1, bytes := 8, k := .sc, zero := [.nilFunc] }
def TryzI210 : TI := { size := 1, bytes := 4, k := .int .i32, zero := [.int .i32 0] }
def TryzI211 : TI := { size := 1, bytes := 4, k := .int .i32, zero := [.int .i32 0] }
def TryzI212 : TI := { size := 11, bytes := 48, k := .struct [(0, 1, false), (1, 1, false), (2, 1, false), (3, 1, false), (4, 1, false), (5, 1, false), (6, 1, false), (7, 1, false), (8, 1, false), (9, 1, false), (10, 1, false)], zero := [.int .u64 0, .int .u64 0, .int .u32 0, .int .u8 0, .int .u8 0, .int .u8 0, .int .u8 0, .nilFunc, .pointer none, .int .i32 0, .int .i32 0] }
def TryzI213 : TI := { size := 11, bytes := 48, k := .struct [(0, 1, false), (1, 1, false), (2, 1, false), (3, 1, false), (4, 1, false), (5, 1, false), (6, 1, false), (7, 1, false), (8, 1, false), (9, 1, false), (10, 1, false)], zero := [.int .u64 0, .int .u64 0, .int .u32 0, .int .u8 0, .int .u8 0, .int .u8 0, .int .u8 0, .nilFunc, .pointer none, .int .i32 0, .int .i32 0] }
theorem TryzI1_ok : TIok Tryz.prog 1 TryzI1 := tiok Tryz.type1 rfl rfl rfl rfl (by intro h; first | rfl | cases h) ⟨_, Tryz.underlying1, (by intro x h; cases h), (by intro x y h; cases h)⟩ (by decide) rfl (by decide) (.inl rfl)
theorem TryzI2_ok : TIok Tryz.prog 2 TryzI2 := tiok Tryz.type2 rfl rfl rfl rfl (by intro h; first | rfl | cases h) Tryz.underlying2 (by decide) rfl (by decide) (.inl rfl)
theorem TryzI3_ok : TIok Tryz.prog 3 TryzI3 := tiok Tryz.type3 rfl rfl rfl rfl (by intro h; first | rfl | cases h) Tryz.underlying3 (by decide) rfl (by decide) (.inl rfl)
theorem TryzI4_ok : TIok Tryz.prog 4 TryzI4 := tiok Tryz.type4 rfl rfl rfl rfl (by intro h; first | rfl | cases h) Tryz.underlying4 (by decide) rfl (by decide) (.inl rfl)
theorem TryzI5_ok : TIok Tryz.prog 5 TryzI5 := tiok Tryz.type5 rfl rfl rfl rfl (by intro h; first | rfl | cases h) Tryz.underlying5 (by decide) rfl (by decide) (.inl rfl)
theorem TryzI6_ok : TIok Tryz.prog 6 TryzI6 := tiok Tryz.type6 rfl rfl rfl rfl (by intro h; first | rfl | cases h) Tryz.underlying6 (by decide) rfl (by decide) (.inl rfl)
theorem TryzI7_ok : TIok Tryz.prog 7 TryzI7 := tiok Tryz.type7 rfl rfl rfl rfl (by intro h; first | rfl | cases h) (kind_struct Tryz.underlying7 (.cons ⟨rfl, ⟨_, Tryz.type2, rfl⟩, by decide, Tryz.isAgg2⟩ (.cons ⟨rfl, ⟨_, Tryz.type3, rfl⟩, by decide, Tryz.isAgg3⟩ (.cons ⟨rfl, ⟨_, Tryz.type4, rfl⟩, by decide, Tryz.isAgg4⟩ (.cons ⟨rfl, ⟨_, Tryz.type6, rfl⟩, by decide, Tryz.isAgg6⟩ .nil))))) (by decide) rfl (by decide) (.inl rfl)
theorem TryzI8_ok : TIok Tryz.prog 8 TryzI8 := tiok Tryz.type8 rfl rfl rfl rfl (by intro h; first | rfl | cases h) (kind_struct Tryz.underlying8 (.cons ⟨rfl, ⟨_, Tryz.type2, rfl⟩, by decide, Tryz.isAgg2⟩ (.cons ⟨rfl, ⟨_, Tryz.type3, rfl⟩, by decide, Tryz.isAgg3⟩ (.cons ⟨rfl, ⟨_, Tryz.type4, rfl⟩, by decide, Tryz.isAgg4⟩ (.cons ⟨rfl, ⟨_, Tryz.type6, rfl⟩, by decide, Tryz.isAgg6⟩ .nil))))) (by decide) rfl (by decide) (.inl rfl)
theorem TryzI9_ok : TIok Tryz.prog 9 TryzI9 := tiok Tryz.type9 rfl rfl rfl rfl (by intro h; first | rfl | cases h) Tryz.underlying9 (by decide) rfl (by decide) (.inl rfl)
theorem TryzI10_ok : TIok Tryz.prog 10 TryzI10 := tiok Tryz.type10 rfl rfl rfl rfl (by intro h; first | rfl | cases h) Tryz.underlying10 (by decide) rfl (by decide) (.inl rfl)
theorem TryzI11_ok : TIok Tryz.prog 11 TryzI11 := tiok Tryz.type11 rfl rfl rfl rfl (by intro h; first | rfl | cases h) Tryz.underlying11 (by decide) rfl (by decide) (.inl rfl)
theorem TryzI12_ok : TIok Tryz.prog 12 TryzI12 := tiok Tryz.type12 rfl rfl rfl rfl (by intro h; first | rfl | cases h) Tryz.underlying12 (by decide) rfl (by decide) (.inl rfl)
theorem TryzI13_ok : TIok Tryz.prog 13 TryzI13 := tiok Tryz.type13 rfl rfl rfl rfl (by intro h; first | rfl | cases h) (kind_struct Tryz.underlying13 (.cons ⟨rfl, ⟨_, Tryz.type9, rfl⟩, by decide, Tryz.isAgg9⟩ (.cons ⟨rfl, ⟨_, Tryz.type12, rfl⟩, by decide, Tryz.isAgg12⟩ .nil))) (by decide) rfl (by decide) (.inl rfl)
theorem TryzI14_ok : TIok Tryz.prog 14 TryzI14 := tiok Tryz.type14 rfl rfl rfl rfl (by intro h; first | rfl | cases h) (kind_struct Tryz.underlying14 (.cons ⟨rfl, ⟨_, Tryz.type9, rfl⟩, by decide, Tryz.isAgg9⟩ (.cons ⟨rfl, ⟨_, Tryz.type12, rfl⟩, by decide, Tryz.isAgg12⟩ .nil))) (by decide) rfl (by decide) (.inl rfl)
theorem TryzI15_ok : TIok Tryz.prog 15 TryzI15 := tiok Tryz.type15 rfl rfl rfl rfl (by intro h; first | rfl | cases h) Tryz.underlying15 (by decide) rfl (by decide) (.inl rfl)
theorem TryzI16_ok : TIok Tryz.prog 16 TryzI16 := tiok Tryz.type16 rfl rfl rfl rfl (by intro h; first | rfl | cases h) Tryz.underlying16 (by decide) rfl (by decide) (.inl rfl)
theorem TryzI17_ok : TIok Tryz.prog 17 TryzI17 := tiok Tryz.type17 rfl rfl rfl rfl (by intro h; first | rfl | cases h) Tryz.underlying17 (by decide) rfl (by decide) (.inl rfl)
theorem TryzI18_ok : TIok Tryz.prog 18 TryzI18 := tiok Tryz.type18 rfl rfl rfl rfl (by intro h; first | rfl | cases h) (kind_struct Tryz.underlying18 (.cons ⟨rfl, ⟨_, Tryz.type17, rfl⟩, by decide, Tryz.isAgg17⟩ .nil)) (by decide) rfl (by decide) (.inl rfl)
theorem TryzI19_ok : TIok Tryz.prog 19 TryzI19 := tiok Tryz.type19 rfl rfl rfl rfl (by intro h; first | rfl | cases h) (kind_struct Tryz.underlying19 (.cons ⟨rfl, ⟨_, Tryz.type17, rfl⟩, by decide, Tryz.isAgg17⟩ .nil)) (by decide) rfl (by decide) (.inl rfl)
theorem TryzI20_ok : TIok Tryz.prog 20 TryzI20 := tiok Tryz.type20 rfl rfl rfl rfl (by intro h; first | rfl | cases h) ⟨_, Tryz.underlying20, (by intro x h; cases h), (by intro x y h; cases h)⟩ (by decide) rfl (by decide) (.inl rfl)
theorem TryzI21_ok : TIok Tryz.prog 21 TryzI21 := tiok Tryz.type21 rfl rfl rfl rfl (by intro h; first | rfl | cases h) Tryz.underlying21 (by decide) rfl (by decide) (.inl rfl)
theorem TryzI22_ok : TIok Tryz.prog 22 TryzI22 := tiok Tryz.type22 rfl rfl rfl rfl (by intro h; first | rfl | cases h) Tryz.underlying22 (by decide) rfl (by decide) (.inl rfl)
theorem TryzI23_ok : TIok Tryz.prog 23 TryzI23 := tiok Tryz.type23 rfl rfl rfl rfl (by intro h; first | rfl | cases h) Tryz.underlying23 (by decide) rfl (by decide) (.inl rfl)
theorem TryzI24_ok : TIok Tryz.prog 24 TryzI24 := tiok Tryz.type24 rfl rfl rfl rfl (by intro h; first | rfl | cases h) Tryz.underlying24 (by decide) rfl (by decide) (.inl rfl)
theorem TryzI25_ok : TIok Tryz.prog 25 TryzI25 := tiok Tryz.type25 rfl rfl rfl rfl (by intro h; first | rfl | cases h) Tryz.underlying25 (by decide) rfl (by decide) (.inl rfl)
theorem TryzI26_ok : TIok Tryz.prog 26 TryzI26 := tiok Tryz.type26 rfl rfl rfl rfl (by intro h; first | rfl | cases h) (kind_struct Tryz.underlying26 (.cons ⟨rfl, ⟨_, Tryz.type5, rfl⟩, by decide, Tryz.isAgg5⟩ (.cons ⟨rfl, ⟨_, Tryz.type5, rfl⟩, by decide, Tryz.isAgg5⟩ (.cons ⟨rfl, ⟨_, Tryz.type25, rfl⟩, by decide, Tryz.isAgg25⟩ .nil)))) (by decide) rfl (by decide) (.inl rfl)
theorem TryzI27_ok : TIok Tryz.prog 27 TryzI27 := tiok Tryz.type27 rfl rfl rfl rfl (by intro h; first | rfl | cases h) (kind_struct Tryz.underlying27 (.cons ⟨rfl, ⟨_, Tryz.type5, rfl⟩, by decide, Tryz.isAgg5⟩ (.cons ⟨rfl, ⟨_, Tryz.type5, rfl⟩, by decide, Tryz.isAgg5⟩ (.cons ⟨rfl, ⟨_, Tryz.type25, rfl⟩, by decide, Tryz.isAgg25⟩ .nil)))) (by decide) rfl (by decide) (.inl rfl)
theorem TryzI28_ok : TIok Tryz.prog 28 TryzI28 := tiok Tryz.type28 rfl rfl rfl rfl (by intro h; first | rfl | cases h) ⟨_, Tryz.underlying28, (by intro x h; cases h), (by intro x y h; cases h)⟩ (by decide) rfl (by decide) (.inl rfl)
theorem TryzI29_ok : TIok Tryz.prog 29 TryzI29 := tiok Tryz.type29 rfl rfl rfl rfl (by intro h; first | rfl | cases h) Tryz.underlying29 (by decide) rfl (by decide) (.inl rfl)
theorem TryzI30_ok : TIok Tryz.prog 30 TryzI30 := tiok Tryz.type30 rfl rfl rfl rfl (by intro h; first | rfl | cases h) Tryz.underlying30 (by decide) rfl (by decide) (.inl rfl)
theorem TryzI31_ok : TIok Tryz.prog 31 TryzI31 := tiok Tryz.type31 rfl rfl rfl rfl (by intro h; first | rfl | cases h) (kind_struct Tryz.underlying31 (.cons ⟨rfl, ⟨_, Tryz.type29, rfl⟩, by decide, Tryz.isAgg29⟩ (.cons ⟨rfl, ⟨_, Tryz.type3, rfl⟩, by decide, Tryz.isAgg3⟩ (.cons ⟨rfl, ⟨_, Tryz.type29, rfl⟩, by decide, Tryz.isAgg29⟩ (.cons ⟨rfl, ⟨_, Tryz.type30, rfl⟩, by decide, Tryz.isAgg30⟩ .nil))))) (by decide) rfl (by decide) (.inl rfl)
theorem TryzI32_ok : TIok Tryz.prog 32 TryzI32 := tiok Tryz.type32 rfl rfl rfl rfl (by intro h; first | rfl | cases h) (kind_struct Tryz.underlying32 (.cons ⟨rfl, ⟨_, Tryz.type29, rfl⟩, by decide, Tryz.isAgg29⟩ (.cons ⟨rfl, ⟨_, Tryz.type3, rfl⟩, by decide, Tryz.isAgg3⟩ (.cons ⟨rfl, ⟨_, Tryz.type29, rfl⟩, by decide, Tryz.isAgg29⟩ (.cons ⟨rfl, ⟨_, Tryz.type30, rfl⟩, by decide, Tryz.isAgg30⟩ .nil))))) (by decide) rfl (by decide) (.inl rfl)
theorem TryzI33_ok : TIok Tryz.prog 33 TryzI33 := tiok Tryz.type33 rfl rfl rfl rfl (by intro h; first | rfl | cases h) ⟨_, Tryz.underlying33, (by intro x h; cases h), (by intro x y h; cases h)⟩ (by decide) rfl (by decide) (.inl rfl)
theorem TryzI34_ok : TIok Tryz.prog 34 TryzI34 := tiok Tryz.type34 rfl rfl rfl rfl (by intro h; first | rfl | cases h) ⟨_, Tryz.underlying34, (by intro x h; cases h), (by intro x y h; cases h)⟩ (by decide) rfl (by decide) (.inl rfl)
theorem TryzI35_ok : TIok Tryz.prog 35 TryzI35 := tiok Tryz.type35 rfl rfl rfl rfl (by intro h; first | rfl | cases h) Tryz.underlying35 (by decide) rfl (by decide) (.inl rfl)
theorem TryzI37_ok : TIok Tryz.prog 37 TryzI37 := tiok Tryz.type37 rfl rfl rfl rfl (by intro h; first | rfl | cases h) ⟨_, Tryz.underlying37, (by intro x h; cases h), (by intro x y h; cases h)⟩ (by decide) rfl (by decide) (.inl rfl)
theorem TryzI38_ok : TIok Tryz.prog 38 TryzI38 := tiok Tryz.type38 rfl rfl rfl rfl (by intro h; first | rfl | cases h) ⟨_, Tryz.underlying38, (by intro x h; cases h), (by intro x y h; cases h)⟩ (by decide) rfl (by decide) (.inl rfl)
theorem TryzI39_ok : TIok Tryz.prog 39 TryzI39 := tiok Tryz.type39 rfl rfl rfl rfl (by intro h; first | rfl | cases h) ⟨_, Tryz.underlying39, (by intro x h; cases h), (by intro x y h; cases h)⟩ (by decide) rfl (by decide) (.inl rfl)
theorem TryzI41_ok : TIok Tryz.prog 41 TryzI41 := tiok Tryz.type41 rfl rfl rfl rfl (by intro h; first | rfl | cases h) ⟨_, Tryz.underlying41, (by intro x h; cases h), (by intro x y h; cases h)⟩ (by decide) rfl (by decide) (.inl rfl)
theorem TryzI43_ok : TIok Tryz.prog 43 TryzI43 := tiok Tryz.type43 rfl rfl rfl rfl (by intro h; first | rfl | cases h) ⟨_, Tryz.underlying43, (by intro x h; cases h), (by intro x y h; cases h)⟩ (by decide) rfl (by decide) (.inl rfl)
theorem TryzI44_ok : TIok Tryz.prog 44 TryzI44 := tiok Tryz.type44 rfl rfl rfl rfl (by intro h; first | rfl | cases h) ⟨_, Tryz.underlying44, (by intro x h; cases h), (by intro x y h; cases h)⟩ (by decide) rfl (by decide) (.inl rfl)
theorem TryzI45_ok : TIok Tryz.prog 45 TryzI45 := tiok Tryz.type45 rfl rfl rfl rfl (by intro h; first | rfl | cases h) Tryz.underlying45 (by decide) rfl (by decide) (.inl rfl)
theorem TryzI46_ok : TIok Tryz.prog 46 TryzI46 := tiok Tryz.type46 rfl rfl rfl rfl (by intro h; first | rfl | cases h) ⟨_, Tryz.underlying46, (by intro x h; cases h), (by intro x y h; cases h)⟩ (by decide) rfl (by decide) (.inl rfl)
theorem TryzI47_ok : TIok Tryz.prog 47 TryzI47 := tiok Tryz.type47 rfl rfl rfl rfl (by intro h; first | rfl | cases h) ⟨_, Tryz.underlying47, (by intro x h; cases h), (by intro x y h; cases h)⟩ (by decide) rfl (by decide) (.inl rfl)
theorem TryzI48_ok : TIok Tryz.prog 48 TryzI48 := tiok Tryz.type48 rfl rfl rfl rfl (by intro h; first | rfl | cases h) Tryz.underlying48 (by decide) rfl (by decide) (.inl rfl)
theorem TryzI50_ok : TIok Tryz.prog 50 TryzI50 := tiok Tryz.type50 rfl rfl rfl rfl (by intro h; first | rfl | cases h) ⟨_, Tryz.underlying50, (by intro x h; cases h), (by intro x y h; cases h)⟩ (by decide) rfl (by decide) (.inl rfl)
theorem TryzI51_ok : TIok Tryz.prog 51 TryzI51 := tiok Tryz.type51 rfl rfl rfl rfl (by intro h; first | rfl | cases h) ⟨_, Tryz.underlying51, (by intro x h; cases h), (by intro x y h; cases h)⟩ (by decide) rfl (by decide) (.inl rfl)
theorem TryzI52_ok : TIok Tryz.prog 52 TryzI52 := tiok Tryz.type52 rfl rfl rfl rfl (by intro h; first | rfl | cases h) ⟨_, Tryz.underlying52, (by intro x h; cases h), (by intro x y h; cases h)⟩ (by decide) rfl (by decide) (.inl rfl)
theorem TryzI54_ok : TIok Tryz.prog 54 TryzI54 := tiok Tryz.type54 rfl rfl rfl rfl (by intro h; first | rfl | cases h) ⟨_, Tryz.underlying54, (by intro x h; cases h), (by intro x y h; cases h)⟩ (by decide) rfl (by decide) (.inl rfl)
theorem TryzI56_ok : TIok Tryz.prog 56 TryzI56 := tiok Tryz.type56 rfl rfl rfl rfl (by intro h; first | rfl | cases h) ⟨_, Tryz.underlying56, (by intro x h; cases h), (by intro x y h; cases h)⟩ (by decide) rfl (by decide) (.inl rfl)
theorem TryzI58_ok : TIok Tryz.prog 58 TryzI58 := tiok Tryz.type58 rfl rfl rfl rfl (by intro h; first | rfl | cases h) ⟨_, Tryz.underlying58, (by intro x h; cases h), (by intro x y h; cases h)⟩ (by decide) rfl (by decide) (.inl rfl)
theorem TryzI59_ok : TIok Tryz.prog 59 TryzI59 := tiok Tryz.type59 rfl rfl rfl rfl (by intro h; first | rfl | cases h) ⟨_, Tryz.underlying59, (by intro x h; cases h), (by intro x y h; cases h)⟩ (by decide) rfl (by decide) (.inl rfl)
theorem TryzI60_ok : TIok Tryz.prog 60 TryzI60 := tiok Tryz.type60 rfl rfl rfl rfl (by intro h; first | rfl | cases h) Tryz.underlying60 (by decide) rfl (by decide) (.inl rfl)
theorem TryzI62_ok : TIok Tryz.prog 62 TryzI62 := tiok Tryz.type62 rfl rfl rfl rfl (by intro h; first | rfl | cases h) ⟨_, Tryz.underlying62, (by intro x h; cases h), (by intro x y h; cases h)⟩ (by decide) rfl (by decide) (.inl rfl)
theorem TryzI63_ok : TIok Tryz.prog 63 TryzI63 := tiok Tryz.type63 rfl rfl rfl rfl (by intro h; first | rfl | cases h) ⟨_, Tryz.underlying63, (by intro x h; cases h), (by intro x y h; cases h)⟩ (by decide) rfl (by decide) (.inl rfl)
theorem TryzI64_ok : TIok Tryz.prog 64 TryzI64 := tiok Tryz.type64 rfl rfl rfl rfl (by intro h; first | rfl | cases h) ⟨_, Tryz.underlying64, (by intro x h; cases h), (by intro x y h; cases h)⟩ (by decide) rfl (by decide) (.inl rfl)
theorem TryzI65_ok : TIok Tryz.prog 65 TryzI65 := tiok Tryz.type65 rfl rfl rfl rfl (by intro h; first | rfl | cases h) ⟨_, Tryz.underlying65, (by intro x h; cases h), (by intro x y h; cases h)⟩ (by decide) rfl (by decide) (.inl rfl)
theorem TryzI66_ok : TIok Tryz.prog 66 TryzI66 := tiok Tryz.type66 rfl rfl rfl rfl (by intro h; first | rfl | cases h) ⟨_, Tryz.underlying66, (by intro x h; cases h), (by intro x y h; cases h)⟩ (by decide) rfl (by decide) (.inl rfl)
theorem TryzI67_ok : TIok Tryz.prog 67 TryzI67 := tiok Tryz.type67 rfl rfl rfl rfl (by intro h; first | rfl | cases h) ⟨_, Tryz.underlying67, (by intro x h; cases h), (by intro x y h; cases h)⟩ (by decide) rfl (by decide) (.inl rfl)
theorem TryzI68_ok : TIok Tryz.prog 68 TryzI68 := tiok Tryz.type68 rfl rfl rfl rfl (by intro h; first | rfl | cases h) ⟨_, Tryz.underlying68, (by intro x h; cases h), (by intro x y h; cases h)⟩ (by decide) rfl (by decide) (.inl rfl)
theorem TryzI69_ok : TIok Tryz.prog 69 TryzI69 := tiok Tryz.type69 rfl rfl rfl rfl (by intro h; first | rfl | cases h) ⟨_, Tryz.underlying69, (by intro x h; cases h), (by intro x y h; cases h)⟩ (by decide) rfl (by decide) (.inl rfl)
theorem TryzI70_ok : TIok Tryz.prog 70 TryzI70 := tiok Tryz.type70 rfl rfl rfl rfl (by intro h; first | rfl | cases h) ⟨_, Tryz.underlying70, (by intro x h; cases h), (by intro x y h; cases h)⟩ (by decide) rfl (by decide) (.inl rfl)
theorem TryzI71_ok : TIok Tryz.prog 71 TryzI71 := tiok Tryz.type71 rfl rfl rfl rfl (by intro h; first | rfl | cases h) Tryz.underlying71 (by decide) rfl (by decide) (.inl rfl)
theorem TryzI72_ok : TIok Tryz.prog 72 TryzI72 := tiok Tryz.type72 rfl rfl rfl rfl (by intro h; first | rfl | cases h) ⟨_, Tryz.underlying72, (by intro x h; cases h), (by intro x y h; cases h)⟩ (by decide) rfl (by decide) (.inl rfl)
theorem TryzI73_ok : TIok Tryz.prog 73 TryzI73 := tiok Tryz.type73 rfl rfl rfl rfl (by intro h; first | rfl | cases h) ⟨_, Tryz.underlying73, (by intro x h; cases h), (by intro x y h; cases h)⟩ (by decide) rfl (by decide) (.inl rfl)
theorem TryzI74_ok : TIok Tryz.prog 74 TryzI74 := tiok Tryz.type74 rfl rfl rfl rfl (by intro h; first | rfl | cases h) ⟨_, Tryz.underlying74, (by intro x h; cases h), (by intro x y h; cases h)⟩ (by decide) rfl (by decide) (.inl rfl)
theorem TryzI75_ok : TIok Tryz.prog 75 TryzI75 := tiok Tryz.type75 rfl rfl rfl rfl (by intro h; first | rfl | cases h) ⟨_, Tryz.underlying75, (by intro x h; cases h), (by intro x y h; cases h)⟩ (by decide) rfl (by decide) (.inl rfl)
theorem TryzI76_ok : TIok Tryz.prog 76 TryzI76 := tiok Tryz.type76 rfl rfl rfl rfl (by intro h; first | rfl | cases h) ⟨_, Tryz.underlying76, (by intro x h; cases h), (by intro x y h; cases h)⟩ (by decide) rfl (by decide) (.inl rfl)
theorem TryzI77_ok : TIok Tryz.prog 77 TryzI77 := tiok Tryz.type77 rfl rfl rfl rfl (by intro h; first | rfl | cases h) ⟨_, Tryz.underlying77, (by intro x h; cases h), (by intro x y h; cases h)⟩ (by decide) rfl (by decide) (.inl rfl)
theorem TryzI78_ok : TIok Tryz.prog 78 TryzI78 := tiok Tryz.type78 rfl rfl rfl rfl (by intro h; first | rfl | cases h) (kind_struct Tryz.underlying78 (.cons ⟨rfl, ⟨_, Tryz.type3, rfl⟩, by decide, Tryz.isAgg3⟩ (.cons ⟨rfl, ⟨_, Tryz.type3, rfl⟩, by decide, Tryz.isAgg3⟩ (.cons ⟨rfl, ⟨_, Tryz.type3, rfl⟩, by decide, Tryz.isAgg3⟩ .nil)))) (by decide) rfl (by decide) (.inl rfl)
theorem TryzI79_ok : TIok Tryz.prog 79 TryzI79 := tiok Tryz.type79 rfl rfl rfl rfl (by intro h; first | rfl | cases h) (kind_struct Tryz.underlying79 (.cons ⟨rfl, ⟨_, Tryz.type3, rfl⟩, by decide, Tryz.isAgg3⟩ (.cons ⟨rfl, ⟨_, Tryz.type3, rfl⟩, by decide, Tryz.isAgg3⟩ (.cons ⟨rfl, ⟨_, Tryz.type3, rfl⟩, by decide, Tryz.isAgg3⟩ .nil)))) (by decide) rfl (by decide) (.inl rfl)
theorem TryzI80_ok : TIok Tryz.prog 80 TryzI80 := tiok Tryz.type80 rfl rfl rfl rfl (by intro h; first | rfl | cases h) ⟨_, Tryz.underlying80, (by intro x h; cases h), (by intro x y h; cases h)⟩ (by decide) rfl (by decide) (.inl rfl)
theorem TryzI81_ok : TIok Tryz.prog 81 TryzI81 := tiok Tryz.type81 rfl rfl rfl rfl (by intro h; first | rfl | cases h) Tryz.underlying81 (by decide) rfl (by decide) (.inl rfl)
theorem TryzI83_ok : TIok Tryz.prog 83 TryzI83 := tiok Tryz.type83 rfl rfl rfl rfl (by intro h; first | rfl | cases h) ⟨_, Tryz.underlying83, (by intro x h; cases h), (by intro x y h; cases h)⟩ (by decide) rfl (by decide) (.inl rfl)
theorem TryzI84_ok : TIok Tryz.prog 84 TryzI84 := tiok Tryz.type84 rfl rfl rfl rfl (by intro h; first | rfl | cases h) ⟨_, Tryz.underlying84, (by intro x h; cases h), (by intro x y h; cases h)⟩ (by decide) rfl (by decide) (.inl rfl)
theorem TryzI85_ok : TIok Tryz.prog 85 TryzI85 := tiok Tryz.type85 rfl rfl rfl rfl (by intro h; first | rfl | cases h) ⟨_, Tryz.underlying85, (by intro x h; cases h), (by intro x y h; cases h)⟩ (by decide) rfl (by decide) (.inl rfl)
theorem TryzI86_ok : TIok Tryz.prog 86 TryzI86 := tiok Tryz.type86 rfl rfl rfl rfl (by intro h; first | rfl | cases h) ⟨_, Tryz.underlying86, (by intro x h; cases h), (by intro x y h; cases h)⟩ (by decide) rfl (by decide) (.inl rfl)
theorem TryzI87_ok : TIok Tryz.prog 87 TryzI87 := tiok Tryz.type87 rfl rfl rfl rfl (by intro h; first | rfl | cases h) ⟨_, Tryz.underlying87, (by intro x h; cases h), (by intro x y h; cases h)⟩ (by decide) rfl (by decide) (.inl rfl)
theorem TryzI88_ok : TIok Tryz.prog 88 TryzI88 := tiok Tryz.type88 rfl rfl rfl rfl (by intro h; first | rfl | cases h) ⟨_, Tryz.underlying88, (by intro x h; cases h), (by intro x y h; cases h)⟩ (by decide) rfl (by decide) (.inl rfl)
theorem TryzI89_ok : TIok Tryz.prog 89 TryzI89 := tiok Tryz.type89 rfl rfl rfl rfl (by intro h; first | rfl | cases h) ⟨_, Tryz.underlying89, (by intro x h; cases h), (by intro x y h; cases h)⟩ (by decide) rfl (by decide) (.inl rfl)
theorem TryzI90_ok : TIok Tryz.prog 90 TryzI90 := tiok Tryz.type90 rfl rfl rfl rfl (by intro h; first | rfl | cases h) ⟨_, Tryz.underlying90, (by intro x h; cases h), (by intro x y h; cases h)⟩ (by decide) rfl (by decide) (.inl rfl)
theorem TryzI91_ok : TIok Tryz.prog 91 TryzI91 := tiok Tryz.type91 rfl rfl rfl rfl (by intro h; first | rfl | cases h) ⟨_, Tryz.underlying91, (by intro x h; cases h), (by intro x y h; cases h)⟩ (by decide) rfl (by decide) (.inl rfl)
theorem TryzI92_ok : TIok Tryz.prog 92 TryzI92 := tiok Tryz.type92 rfl rfl rfl rfl (by intro h; first | rfl | cases h) ⟨_, Tryz.underlying92, (by intro x h; cases h), (by intro x y h; cases h)⟩ (by decide) rfl (by decide) (.inl rfl)
theorem TryzI93_ok : TIok Tryz.prog 93 TryzI93 := tiok Tryz.type93 rfl rfl rfl rfl (by intro h; first | rfl | cases h) ⟨_, Tryz.underlying93, (by intro x h; cases h), (by intro x y h; cases h)⟩ (by decide) rfl (by decide) (.inl rfl)
theorem TryzI95_ok : TIok Tryz.prog 95 TryzI95 := tiok Tryz.type95 rfl rfl rfl rfl (by intro h; first | rfl | cases h) ⟨_, Tryz.underlying95, (by intro x h; cases h), (by intro x y h; cases h)⟩ (by decide) rfl (by decide) (.inl rfl)
theorem TryzI96_ok : TIok Tryz.prog 96 TryzI96 := tiok Tryz.type96 rfl rfl rfl rfl (by intro h; first | rfl | cases h) ⟨_, Tryz.underlying96, (by intro x h; cases h), (by intro x y h; cases h)⟩ (by decide) rfl (by decide) (.inl rfl)
theorem TryzI98_ok : TIok Tryz.prog 98 TryzI98 := tiok Tryz.type98 rfl rfl rfl rfl (by intro h; first | rfl | cases h) ⟨_, Tryz.underlying98, (by intro x h; cases h), (by intro x y h; cases h)⟩ (by decide) rfl (by decide) (.inl rfl)
theorem TryzI99_ok : TIok Tryz.prog 99 TryzI99 := tiok Tryz.type99 rfl rfl rfl rfl (by intro h; first | rfl | cases h) ⟨_, Tryz.underlying99, (by intro x h; cases h), (by intro x y h; cases h)⟩ (by decide) rfl (by decide) (.inl rfl)
theorem TryzI100_ok : TIok Tryz.prog 100 TryzI100 := tiok Tryz.type100 rfl rfl rfl rfl (by intro h; first | rfl | cases h) Tryz.underlying100 (by decide) rfl (by decide) (.inr (.inr ⟨3, .i64, rfl, Tryz.underlying100, Tryz.underlying3, ⟨_, Tryz.type3, rfl⟩, Tryz.eqGuardType100⟩))
theorem TryzI101_ok : TIok Tryz.prog 101 TryzI101 := tiok Tryz.type101 rfl rfl rfl rfl (by intro h; first | rfl | cases h) Tryz.underlying101 (by decide) rfl (by decide) (.inl rfl)
theorem TryzI102_ok : TIok Tryz.prog 102 TryzI102 := tiok Tryz.type102 rfl rfl rfl rfl (by intro h; first | rfl | cases h) ⟨_, Tryz.underlying102, (by intro x h; cases h), (by intro x y h; cases h)⟩ (by decide) rfl (by decide) (.inl rfl)
theorem TryzI103_ok : TIok Tryz.prog 103 TryzI103 := tiok Tryz.type103 rfl rfl rfl rfl (by intro h; first | rfl | cases h) Tryz.underlying103 (by decide) rfl (by decide) (.inl rfl)
theorem TryzI104_ok : TIok Tryz.prog 104 TryzI104 := tiok Tryz.type104 rfl rfl rfl rfl (by intro h; first | rfl | cases h) ⟨_, Tryz.underlying104, (by intro x h; cases h), (by intro x y h; cases h)⟩ (by decide) rfl (by decide) (.inl rfl)
theorem TryzI105_ok : TIok Tryz.prog 105 TryzI105 := tiok Tryz.type105 rfl rfl rfl rfl (by intro h; first | rfl | cases h) (kind_struct Tryz.underlying105 (.cons ⟨rfl, ⟨_, Tryz.type3, rfl⟩, by decide, Tryz.isAgg3⟩ (.cons ⟨rfl, ⟨_, Tryz.type29, rfl⟩, by decide, Tryz.isAgg29⟩ (.cons ⟨rfl, ⟨_, Tryz.type29, rfl⟩, by decide, Tryz.isAgg29⟩ .nil)))) (by decide) rfl (by decide) (.inl rfl)
theorem TryzI106_ok : TIok Tryz.prog 106 TryzI106 := tiok Tryz.type106 rfl rfl rfl rfl (by intro h; first | rfl | cases h) (kind_struct Tryz.underlying106 (.cons ⟨rfl, ⟨_, Tryz.type3, rfl⟩, by decide, Tryz.isAgg3⟩ (.cons ⟨rfl, ⟨_, Tryz.type29, rfl⟩, by decide, Tryz.isAgg29⟩ (.cons ⟨rfl, ⟨_, Tryz.type29, rfl⟩, by decide, Tryz.isAgg29⟩ .nil)))) (by decide) rfl (by decide) (.inl rfl)
theorem TryzI107_ok : TIok Tryz.prog 107 TryzI107 := tiok Tryz.type107 rfl rfl rfl rfl (by intro h; first | rfl | cases h) (kind_struct Tryz.underlying107 (.cons ⟨rfl, ⟨_, Tryz.type3, rfl⟩, by decide, Tryz.isAgg3⟩ (.cons ⟨rfl, ⟨_, Tryz.type29, rfl⟩, by decide, Tryz.isAgg29⟩ (.cons ⟨rfl, ⟨_, Tryz.type29, rfl⟩, by decide, Tryz.isAgg29⟩ .nil)))) (by decide) rfl (by decide) (.inl rfl)
theorem TryzI108_ok : TIok Tryz.prog 108 TryzI108 := tiok Tryz.type108 rfl rfl rfl rfl (by intro h; first | rfl | cases h) (kind_struct Tryz.underlying108 (.cons ⟨rfl, ⟨_, Tryz.type3, rfl⟩, by decide, Tryz.isAgg3⟩ (.cons ⟨rfl, ⟨_, Tryz.type29, rfl⟩, by decide, Tryz.isAgg29⟩ (.cons ⟨rfl, ⟨_, Tryz.type29, rfl⟩, by decide, Tryz.isAgg29⟩ .nil)))) (by decide) rfl (by decide) (.inl rfl)
theorem TryzI110_ok : TIok Tryz.prog 110 TryzI110 := tiok Tryz.type110 rfl rfl rfl rfl (by intro h; first | rfl | cases h) ⟨_, Tryz.underlying110, (by intro x h; cases h), (by intro x y h; cases h)⟩ (by decide) rfl (by decide) (.inl rfl)
theorem TryzI111_ok : TIok Tryz.prog 111 TryzI111 := tiok Tryz.type111 rfl rfl rfl rfl (by intro h; first | rfl | cases h) ⟨_, Tryz.underlying111, (by intro x h; cases h), (by intro x y h; cases h)⟩ (by decide) rfl (by decide) (.inl rfl)
theorem TryzI112_ok : TIok Tryz.prog 112 TryzI112 := tiok Tryz.type112 rfl rfl rfl rfl (by intro h; first | rfl | cases h) ⟨_, Tryz.underlying112, (by intro x h; cases h), (by intro x y h; cases h)⟩ (by decide) rfl (by decide) (.inl rfl)
theorem TryzI113_ok : TIok Tryz.prog 113 TryzI113 := tiok Tryz.type113 rfl rfl rfl rfl (by intro h; first | rfl | cases h) ⟨_, Tryz.underlying113, (by intro x h; cases h), (by intro x y h; cases h)⟩ (by decide) rfl (by decide) (.inl rfl)
theorem TryzI114_ok : TIok Tryz.prog 114 TryzI114 := tiok Tryz.type114 rfl rfl rfl rfl (by intro h; first | rfl | cases h) ⟨_, Tryz.underlying114, (by intro x h; cases h), (by intro x y h; cases h)⟩ (by decide) rfl (by decide) (.inl rfl)
theorem TryzI115_ok : TIok Tryz.prog 115 TryzI115 := tiok Tryz.type115 rfl rfl rfl rfl (by intro h; first | rfl | cases h) (kind_struct Tryz.underlying115 (.cons ⟨rfl, ⟨_, Tryz.type29, rfl⟩, by decide, Tryz.isAgg29⟩ (.cons ⟨rfl, ⟨_, Tryz.type3, rfl⟩, by decide, Tryz.isAgg3⟩ .nil))) (by decide) rfl (by decide) (.inl rfl)
theorem TryzI116_ok : TIok Tryz.prog 116 TryzI116 := tiok Tryz.type116 rfl rfl rfl rfl (by intro h; first | rfl | cases h) (kind_struct Tryz.underlying116 (.cons ⟨rfl, ⟨_, Tryz.type29, rfl⟩, by decide, Tryz.isAgg29⟩ (.cons ⟨rfl, ⟨_, Tryz.type3, rfl⟩, by decide, Tryz.isAgg3⟩ .nil))) (by decide) rfl (by decide) (.inl rfl)
theorem TryzI117_ok : TIok Tryz.prog 117 TryzI117 := tiok Tryz.type117 rfl rfl rfl rfl (by intro h; first | rfl | cases h) Tryz.underlying117 (by decide) rfl (by decide) (.inl rfl)
theorem TryzI118_ok : TIok Tryz.prog 118 TryzI118 := tiok Tryz.type118 rfl rfl rfl rfl (by intro h; first | rfl | cases h) ⟨_, Tryz.underlying118, (by intro x h; cases h), (by intro x y h; cases h)⟩ (by decide) rfl (by decide) (.inl rfl)
theorem TryzI119_ok : TIok Tryz.prog 119 TryzI119 := tiok Tryz.type119 rfl rfl rfl rfl (by intro h; first | rfl | cases h) ⟨_, Tryz.underlying119, (by intro x h; cases h), (by intro x y h; cases h)⟩ (by decide) rfl (by decide) (.inl rfl)
theorem TryzI120_ok : TIok Tryz.prog 120 TryzI120 := tiok Tryz.type120 rfl rfl rfl rfl (by intro h; first | rfl | cases h) ⟨_, Tryz.underlying120, (by intro x h; cases h), (by intro x y h; cases h)⟩ (by decide) rfl (by decide) (.inl rfl)
theorem TryzI122_ok : TIok Tryz.prog 122 TryzI122 := tiok Tryz.type122 rfl rfl rfl rfl (by intro h; first | rfl | cases h) ⟨_, Tryz.underlying122, (by intro x h; cases h), (by intro x y h; cases h)⟩ (by decide) rfl (by decide) (.inl rfl)
theorem TryzI123_ok : TIok Tryz.prog 123 TryzI123 := tiok Tryz.type123 rfl rfl rfl rfl (by intro h; first | rfl | cases h) ⟨_, Tryz.underlying123, (by intro x h; cases h), (by intro x y h; cases h)⟩ (by decide) rfl (by decide) (.inl rfl)
theorem TryzI124_ok : TIok Tryz.prog 124 TryzI124 := tiok Tryz.type124 rfl rfl rfl rfl (by intro h; first | rfl | cases h) Tryz.underlying124 (by decide) rfl (by decide) (.inl rfl)
theorem TryzI125_ok : TIok Tryz.prog 125 TryzI125 := tiok Tryz.type125 rfl rfl rfl rfl (by intro h; first | rfl | cases h) (kind_struct Tryz.underlying125 (.cons ⟨rfl, ⟨_, Tryz.type32, rfl⟩, by decide, Tryz.isAgg32⟩ (.cons ⟨rfl, ⟨_, Tryz.type29, rfl⟩, by decide, Tryz.isAgg29⟩ (.cons ⟨rfl, ⟨_, Tryz.type29, rfl⟩, by decide, Tryz.isAgg29⟩ (.cons ⟨rfl, ⟨_, Tryz.type124, rfl⟩, by decide, Tryz.isAgg124⟩ .nil))))) (by decide) rfl (by decide) (.inl rfl)
theorem TryzI126_ok : TIok Tryz.prog 126 TryzI126 := tiok Tryz.type126 rfl rfl rfl rfl (by intro h; first | rfl | cases h) (kind_struct Tryz.underlying126 (.cons ⟨rfl, ⟨_, Tryz.type32, rfl⟩, by decide, Tryz.isAgg32⟩ (.cons ⟨rfl, ⟨_, Tryz.type29, rfl⟩, by decide, Tryz.isAgg29⟩ (.cons ⟨rfl, ⟨_, Tryz.type29, rfl⟩, by decide, Tryz.isAgg29⟩ (.cons ⟨rfl, ⟨_, Tryz.type124, rfl⟩, by decide, Tryz.isAgg124⟩ .nil))))) (by decide) rfl (by decide) (.inl rfl)
theorem TryzI127_ok : TIok Tryz.prog 127 TryzI127 := tiok Tryz.type127 rfl rfl rfl rfl (by intro h; first | rfl | cases h) Tryz.underlying127 (by decide) rfl (by decide) (.inl rfl)
theorem TryzI128_ok : TIok Tryz.prog 128 TryzI128 := tiok Tryz.type128 rfl rfl rfl rfl (by intro h; first | rfl | cases h) ⟨_, Tryz.underlying128, (by intro x h; cases h), (by intro x y h; cases h)⟩ (by decide) rfl (by decide) (.inl rfl)
theorem TryzI129_ok : TIok Tryz.prog 129 TryzI129 := tiok Tryz.type129 rfl rfl rfl rfl (by intro h; first | rfl | cases h) Tryz.underlying129 (by decide) rfl (by decide) (.inl rfl)
theorem TryzI130_ok : TIok Tryz.prog 130 TryzI130 := tiok Tryz.type130 rfl rfl rfl rfl (by intro h; first | rfl | cases h) ⟨_, Tryz.underlying130, (by intro x h; cases h), (by intro x y h; cases h)⟩ (by decide) rfl (by decide) (.inl rfl)
theorem TryzI131_ok : TIok Tryz.prog 131 TryzI131 := tiok Tryz.type131 rfl rfl rfl rfl (by intro h; first | rfl | cases h) Tryz.underlying131 (by decide) rfl (by decide) (.inl rfl)
theorem TryzI132_ok : TIok Tryz.prog 132 TryzI132 := tiok Tryz.type132 rfl rfl rfl rfl (by intro h; first | rfl | cases h) ⟨_, Tryz.underlying132, (by intro x h; cases h), (by intro x y h; cases h)⟩ (by decide) rfl (by decide) (.inl rfl)
theorem TryzI133_ok : TIok Tryz.prog 133 TryzI133 := tiok Tryz.type133 rfl rfl rfl rfl (by intro h; first | rfl | cases h) ⟨_, Tryz.underlying133, (by intro x h; cases h), (by intro x y h; cases h)⟩ (by decide) rfl (by decide) (.inl rfl)
theorem TryzI134_ok : TIok Tryz.prog 134 TryzI134 := tiok Tryz.type134 rfl rfl rfl rfl (by intro h; first | rfl | cases h) Tryz.underlying134 (by decide) rfl (by decide) (.inl rfl)
theorem TryzI135_ok : TIok Tryz.prog 135 TryzI135 := tiok Tryz.type135 rfl rfl rfl rfl (by intro h; first | rfl | cases h) ⟨_, Tryz.underlying135, (by intro x h; cases h), (by intro x y h; cases h)⟩ (by decide) rfl (by decide) (.inl rfl)
theorem TryzI136_ok : TIok Tryz.prog 136 TryzI136 := tiok Tryz.type136 rfl rfl rfl rfl (by intro h; first | rfl | cases h) (kind_struct Tryz.underlying136 (.cons ⟨rfl, ⟨_, Tryz.type29, rfl⟩, by decide, Tryz.isAgg29⟩ (.cons ⟨rfl, ⟨_, Tryz.type29, rfl⟩, by decide, Tryz.isAgg29⟩ (.cons ⟨rfl, ⟨_, Tryz.type29, rfl⟩, by decide, Tryz.isAgg29⟩ .nil)))) (by decide) rfl (by decide) (.inl rfl)
theorem TryzI137_ok : TIok Tryz.prog 137 TryzI137 := tiok Tryz.type137 rfl rfl rfl rfl (by intro h; first | rfl | cases h) (kind_struct Tryz.underlying137 (.cons ⟨rfl, ⟨_, Tryz.type29, rfl⟩, by decide, Tryz.isAgg29⟩ (.cons ⟨rfl, ⟨_, Tryz.type29, rfl⟩, by decide, Tryz.isAgg29⟩ (.cons ⟨rfl, ⟨_, Tryz.type29, rfl⟩, by decide, Tryz.isAgg29⟩ .nil)))) (by decide) rfl (by decide) (.inl rfl)
theorem TryzI138_ok : TIok Tryz.prog 138 TryzI138 := tiok Tryz.type138 rfl rfl rfl rfl (by intro h; first | rfl | cases h) Tryz.underlying138 (by decide) rfl (by decide) (.inl rfl)
theorem TryzI139_ok : TIok Tryz.prog 139 TryzI139 := tiok Tryz.type139 rfl rfl rfl rfl (by intro h; first | rfl | cases h) ⟨_, Tryz.underlying139, (by intro x h; cases h), (by intro x y h; cases h)⟩ (by decide) rfl (by decide) (.inl rfl)
theorem TryzI140_ok : TIok Tryz.prog 140 TryzI140 := tiok Tryz.type140 rfl rfl rfl rfl (by intro h; first | rfl | cases h) ⟨_, Tryz.underlying140, (by intro x h; cases h), (by intro x y h; cases h)⟩ (by decide) rfl (by decide) (.inl rfl)
theorem TryzI141_ok : TIok Tryz.prog 141 TryzI141 := tiok Tryz.type141 rfl rfl rfl rfl (by intro h; first | rfl | cases h) ⟨_, Tryz.underlying141, (by intro x h; cases h), (by intro x y h; cases h)⟩ (by decide) rfl (by decide) (.inl rfl)
theorem TryzI142_ok : TIok Tryz.prog 142 TryzI142 := tiok Tryz.type142 rfl rfl rfl rfl (by intro h; first | rfl | cases h) ⟨_, Tryz.underlying142, (by intro x h; cases h), (by intro x y h; cases h)⟩ (by decide) rfl (by decide) (.inl rfl)
theorem TryzI143_ok : TIok Tryz.prog 143 TryzI143 := tiok Tryz.type143 rfl rfl rfl rfl (by intro h; first | rfl | cases h) (kind_struct Tryz.underlying143 (.cons ⟨rfl, ⟨_, Tryz.type29, rfl⟩, by decide, Tryz.isAgg29⟩ (.cons ⟨rfl, ⟨_, Tryz.type29, rfl⟩, by decide, Tryz.isAgg29⟩ (.cons ⟨rfl, ⟨_, Tryz.type29, rfl⟩, by decide, Tryz.isAgg29⟩ .nil)))) (by decide) rfl (by decide) (.inl rfl)
theorem TryzI144_ok : TIok Tryz.prog 144 TryzI144 := tiok Tryz.type144 rfl rfl rfl rfl (by intro h; first | rfl | cases h) (kind_struct Tryz.underlying144 (.cons ⟨rfl, ⟨_, Tryz.type29, rfl⟩, by decide, Tryz.isAgg29⟩ (.cons ⟨rfl, ⟨_, Tryz.type29, rfl⟩, by decide, Tryz.isAgg29⟩ (.cons ⟨rfl, ⟨_, Tryz.type29, rfl⟩, by decide, Tryz.isAgg29⟩ .nil)))) (by decide) rfl (by decide) (.inl rfl)
theorem TryzI145_ok : TIok Tryz.prog 145 TryzI145 := tiok Tryz.type145 rfl rfl rfl rfl (by intro h; first | rfl | cases h) Tryz.underlying145 (by decide) rfl (by decide) (.inl rfl)
theorem TryzI147_ok : TIok Tryz.prog 147 TryzI147 := tiok Tryz.type147 rfl rfl rfl rfl (by intro h; first | rfl | cases h) ⟨_, Tryz.underlying147, (by intro x h; cases h), (by intro x y h; cases h)⟩ (by decide) rfl (by decide) (.inl rfl)
theorem TryzI148_ok : TIok Tryz.prog 148 TryzI148 := tiok Tryz.type148 rfl rfl rfl rfl (by intro h; first | rfl | cases h) ⟨_, Tryz.underlying148, (by intro x h; cases h), (by intro x y h; cases h)⟩ (by decide) rfl (by decide) (.inl rfl)
theorem TryzI149_ok : TIok Tryz.prog 149 TryzI149 := tiok Tryz.type149 rfl rfl rfl rfl (by intro h; first | rfl | cases h) ⟨_, Tryz.underlying149, (by intro x h; cases h), (by intro x y h; cases h)⟩ (by decide) rfl (by decide) (.inl rfl)
theorem TryzI150_ok : TIok Tryz.prog 150 TryzI150 := tiok Tryz.type150 rfl rfl rfl rfl (by intro h; first | rfl | cases h) (kind_struct Tryz.underlying150 (.cons ⟨rfl, ⟨_, Tryz.type124, rfl⟩, by decide, Tryz.isAgg124⟩ (.cons ⟨rfl, ⟨_, Tryz.type29, rfl⟩, by decide, Tryz.isAgg29⟩ (.cons ⟨rfl, ⟨_, Tryz.type29, rfl⟩, by decide, Tryz.isAgg29⟩ (.cons ⟨rfl, ⟨_, Tryz.type29, rfl⟩, by decide, Tryz.isAgg29⟩ .nil))))) (by decide) rfl (by decide) (.inl rfl)
theorem TryzI151_ok : TIok Tryz.prog 151 TryzI151 := tiok Tryz.type151 rfl rfl rfl rfl (by intro h; first | rfl | cases h) (kind_struct Tryz.underlying151 (.cons ⟨rfl, ⟨_, Tryz.type124, rfl⟩, by decide, Tryz.isAgg124⟩ (.cons ⟨rfl, ⟨_, Tryz.type29, rfl⟩, by decide, Tryz.isAgg29⟩ (.cons ⟨rfl, ⟨_, Tryz.type29, rfl⟩, by decide, Tryz.isAgg29⟩ (.cons ⟨rfl, ⟨_, Tryz.type29, rfl⟩, by decide, Tryz.isAgg29⟩ .nil))))) (by decide) rfl (by decide) (.inl rfl)
theorem TryzI152_ok : TIok Tryz.prog 152 TryzI152 := tiok Tryz.type152 rfl rfl rfl rfl (by intro h; first | rfl | cases h) ⟨_, Tryz.underlying152, (by intro x h; cases h), (by intro x y h; cases h)⟩ (by decide) rfl (by decide) (.inl rfl)
theorem TryzI153_ok : TIok Tryz.prog 153 TryzI153 := tiok Tryz.type153 rfl rfl rfl rfl (by intro h; first | rfl | cases h) ⟨_, Tryz.underlying153, (by intro x h; cases h), (by intro x y h; cases h)⟩ (by decide) rfl (by decide) (.inl rfl)
theorem TryzI154_ok : TIok Tryz.prog 154 TryzI154 := tiok Tryz.type154 rfl rfl rfl rfl (by intro h; first | rfl | cases h) Tryz.underlying154 (by decide) rfl (by decide) (.inl rfl)
theorem TryzI155_ok : TIok Tryz.prog 155 TryzI155 := tiok Tryz.type155 rfl rfl rfl rfl (by intro h; first | rfl | cases h) Tryz.underlying155 (by decide) rfl (by decide) (.inl rfl)
theorem TryzI156_ok : TIok Tryz.prog 156 TryzI156 := tiok Tryz.type156 rfl rfl rfl rfl (by intro h; first | rfl | cases h) Tryz.underlying156 (by decide) rfl (by decide) (.inl rfl)
theorem TryzI157_ok : TIok Tryz.prog 157 TryzI157 := tiok Tryz.type157 rfl rfl rfl rfl (by intro h; first | rfl | cases h) (kind_struct Tryz.underlying157 (.cons ⟨rfl, ⟨_, Tryz.type155, rfl⟩, by decide, Tryz.isAgg155⟩ (.cons ⟨rfl, ⟨_, Tryz.type156, rfl⟩, by decide, Tryz.isAgg156⟩ .nil))) (by decide) rfl (by decide) (.inl rfl)
theorem TryzI158_ok : TIok Tryz.prog 158 TryzI158 := tiok Tryz.type158 rfl rfl rfl rfl (by intro h; first | rfl | cases h) (kind_struct Tryz.underlying158 (.cons ⟨rfl, ⟨_, Tryz.type155, rfl⟩, by decide, Tryz.isAgg155⟩ (.cons ⟨rfl, ⟨_, Tryz.type156, rfl⟩, by decide, Tryz.isAgg156⟩ .nil))) (by decide) rfl (by decide) (.inl rfl)
theorem TryzI159_ok : TIok Tryz.prog 159 TryzI159 := tiok Tryz.type159 rfl rfl rfl rfl (by intro h; first | rfl | cases h) ⟨_, Tryz.underlying159, (by intro x h; cases h), (by intro x y h; cases h)⟩ (by decide) rfl (by decide) (.inl rfl)
theorem TryzI160_ok : TIok Tryz.prog 160 TryzI160 := tiok Tryz.type160 rfl rfl rfl rfl (by intro h; first | rfl | cases h) ⟨_, Tryz.underlying160, (by intro x h; cases h), (by intro x y h; cases h)⟩ (by decide) rfl (by decide) (.inl rfl)
theorem TryzI162_ok : TIok Tryz.prog 162 TryzI162 := tiok Tryz.type162 rfl rfl rfl rfl (by intro h; first | rfl | cases h) ⟨_, Tryz.underlying162, (by intro x h; cases h), (by intro x y h; cases h)⟩ (by decide) rfl (by decide) (.inl rfl)
theorem TryzI163_ok : TIok Tryz.prog 163 TryzI163 := tiok Tryz.type163 rfl rfl rfl rfl (by intro h; first | rfl | cases h) ⟨_, Tryz.underlying163, (by intro x h; cases h), (by intro x y h; cases h)⟩ (by decide) rfl (by decide) (.inl rfl)
theorem TryzI164_ok : TIok Tryz.prog 164 TryzI164 := tiok Tryz.type164 rfl rfl rfl rfl (by intro h; first | rfl | cases h) ⟨_, Tryz.underlying164, (by intro x h; cases h), (by intro x y h; cases h)⟩ (by decide) rfl (by decide) (.inl rfl)
theorem TryzI165_ok : TIok Tryz.prog 165 TryzI165 := tiok Tryz.type165 rfl rfl rfl rfl (by intro h; first | rfl | cases h) ⟨_, Tryz.underlying165, (by intro x h; cases h), (by intro x y h; cases h)⟩ (by decide) rfl (by decide) (.inl rfl)
theorem TryzI166_ok : TIok Tryz.prog 166 TryzI166 := tiok Tryz.type166 rfl rfl rfl rfl (by intro h; first | rfl | cases h) ⟨_, Tryz.underlying166, (by intro x h; cases h), (by intro x y h; cases h)⟩ (by decide) rfl (by decide) (.inl rfl)
theorem TryzI167_ok : TIok Tryz.prog 167 TryzI167 := tiok Tryz.type167 rfl rfl rfl rfl (by intro h; first | rfl | cases h) Tryz.underlying167 (by decide) rfl (by decide) (.inl rfl)
theorem TryzI169_ok : TIok Tryz.prog 169 TryzI169 := tiok Tryz.type169 rfl rfl rfl rfl (by intro h; first | rfl | cases h) ⟨_, Tryz.underlying169, (by intro x h; cases h), (by intro x y h; cases h)⟩ (by decide) rfl (by decide) (.inl rfl)
theorem TryzI170_ok : TIok Tryz.prog 170 TryzI170 := tiok Tryz.type170 rfl rfl rfl rfl (by intro h; first | rfl | cases h) ⟨_, Tryz.underlying170, (by intro x h; cases h), (by intro x y h; cases h)⟩ (by decide) rfl (by decide) (.inl rfl)
theorem TryzI171_ok : TIok Tryz.prog 171 TryzI171 := tiok Tryz.type171 rfl rfl rfl rfl (by intro h; first | rfl | cases h) ⟨_, Tryz.underlying171, (by intro x h; cases h), (by intro x y h; cases h)⟩ (by decide) rfl (by decide) (.inl rfl)
theorem TryzI172_ok : TIok Tryz.prog 172 TryzI172 := tiok Tryz.type172 rfl rfl rfl rfl (by intro h; first | rfl | cases h) ⟨_, Tryz.underlying172, (by intro x h; cases h), (by intro x y h; cases h)⟩ (by decide) rfl (by decide) (.inl rfl)
theorem TryzI173_ok : TIok Tryz.prog 173 TryzI173 := tiok Tryz.type173 rfl rfl rfl rfl (by intro h; first | rfl | cases h) ⟨_, Tryz.underlying173, (by intro x h; cases h), (by intro x y h; cases h)⟩ (by decide) rfl (by decide) (.inl rfl)
theorem TryzI174_ok : TIok Tryz.prog 174 TryzI174 := tiok Tryz.type174 rfl rfl rfl rfl (by intro h; first | rfl | cases h) Tryz.underlying174 (by decide) rfl (by decide) (.inl rfl)
theorem TryzI175_ok : TIok Tryz.prog 175 TryzI175 := tiok Tryz.type175 rfl rfl rfl rfl (by intro h; first | rfl | cases h) ⟨_, Tryz.underlying175, (by intro x h; cases h), (by intro x y h; cases h)⟩ (by decide) rfl (by decide) (.inl rfl)
theorem TryzI176_ok : TIok Tryz.prog 176 TryzI176 := tiok Tryz.type176 rfl rfl rfl rfl (by intro h; first | rfl | cases h) Tryz.underlying176 (by decide) rfl (by decide) (.inl rfl)
theorem TryzI177_ok : TIok Tryz.prog 177 TryzI177 := tiok Tryz.type177 rfl rfl rfl rfl (by intro h; first | rfl | cases h) ⟨_, Tryz.underlying177, (by intro x h; cases h), (by intro x y h; cases h)⟩ (by decide) rfl (by decide) (.inl rfl)
theorem TryzI178_ok : TIok Tryz.prog 178 TryzI178 := tiok Tryz.type178 rfl rfl rfl rfl (by intro h; first | rfl | cases h) Tryz.underlying178 (by decide) rfl (by decide) (.inl rfl)
theorem TryzI179_ok : TIok Tryz.prog 179 TryzI179 := tiok Tryz.type179 rfl rfl rfl rfl (by intro h; first | rfl | cases h) Tryz.underlying179 (by decide) rfl (by decide) (.inl rfl)
theorem TryzI180_ok : TIok Tryz.prog 180 TryzI180 := tiok Tryz.type180 rfl rfl rfl rfl (by intro h; first | rfl | cases h) ⟨_, Tryz.underlying180, (by intro x h; cases h), (by intro x y h; cases h)⟩ (by decide) rfl (by decide) (.inl rfl)
theorem TryzI181_ok : TIok Tryz.prog 181 TryzI181 := tiok Tryz.type181 rfl rfl rfl rfl (by intro h; first | rfl | cases h) ⟨_, Tryz.underlying181, (by intro x h; cases h), (by intro x y h; cases h)⟩ (by decide) rfl (by decide) (.inl rfl)
theorem TryzI182_ok : TIok Tryz.prog 182 TryzI182 := tiok Tryz.type182 rfl rfl rfl rfl (by intro h; first | rfl | cases h) ⟨_, Tryz.underlying182, (by intro x h; cases h), (by intro x y h; cases h)⟩ (by decide) rfl (by decide) (.inl rfl)
theorem TryzI183_ok : TIok Tryz.prog 183 TryzI183 := tiok Tryz.type183 rfl rfl rfl rfl (by intro h; first | rfl | cases h) Tryz.underlying183 (by decide) rfl (by decide) (.inl rfl)
theorem TryzI184_ok : TIok Tryz.prog 184 TryzI184 := tiok Tryz.type184 rfl rfl rfl rfl (by intro h; first | rfl | cases h) ⟨_, Tryz.underlying184, (by intro x h; cases h), (by intro x y h; cases h)⟩ (by decide) rfl (by decide) (.inl rfl)
theorem TryzI185_ok : TIok Tryz.prog 185 TryzI185 := tiok Tryz.type185 rfl rfl rfl rfl (by intro h; first | rfl | cases h) ⟨_, Tryz.underlying185, (by intro x h; cases h), (by intro x y h; cases h)⟩ (by decide) rfl (by decide) (.inl rfl)
theorem TryzI186_ok : TIok Tryz.prog 186 TryzI186 := tiok Tryz.type186 rfl rfl rfl rfl (by intro h; first | rfl | cases h) ⟨_, Tryz.underlying186, (by intro x h; cases h), (by intro x y h; cases h)⟩ (by decide) rfl (by decide) (.inl rfl)
theorem TryzI188_ok : TIok Tryz.prog 188 TryzI188 := tiok Tryz.type188 rfl rfl rfl rfl (by intro h; first | rfl | cases h) ⟨_, Tryz.underlying188, (by intro x h; cases h), (by intro x y h; cases h)⟩ (by decide) rfl (by decide) (.inl rfl)
theorem TryzI189_ok : TIok Tryz.prog 189 TryzI189 := tiok Tryz.type189 rfl rfl rfl rfl (by intro h; first | rfl | cases h) ⟨_, Tryz.underlying189, (by intro x h; cases h), (by intro x y h; cases h)⟩ (by decide) rfl (by decide) (.inl rfl)
theorem TryzI190_ok : TIok Tryz.prog 190 TryzI190 := tiok Tryz.type190 rfl rfl rfl rfl (by intro h; first | rfl | cases h) Tryz.underlying190 (by decide) rfl (by decide) (.inl rfl)
theorem TryzI191_ok : TIok Tryz.prog 191 TryzI191 := tiok Tryz.type191 rfl rfl rfl rfl (by intro h; first | rfl | cases h) ⟨_, Tryz.underlying191, (by intro x h; cases h), (by intro x y h; cases h)⟩ (by decide) rfl (by decide) (.inl rfl)
theorem TryzI192_ok : TIok Tryz.prog 192 TryzI192 := tiok Tryz.type192 rfl rfl rfl rfl (by intro h; first | rfl | cases h) Tryz.underlying192 (by decide) rfl (by decide) (.inl rfl)
theorem TryzI193_ok : TIok Tryz.prog 193 TryzI193 := tiok Tryz.type193 rfl rfl rfl rfl (by intro h; first | rfl | cases h) ⟨_, Tryz.underlying193, (by intro x h; cases h), (by intro x y h; cases h)⟩ (by decide) rfl (by decide) (.inl rfl)
theorem TryzI195_ok : TIok Tryz.prog 195 TryzI195 := tiok Tryz.type195 rfl rfl rfl rfl (by intro h; first | rfl | cases h) ⟨_, Tryz.underlying195, (by intro x h; cases h), (by intro x y h; cases h)⟩ (by decide) rfl (by decide) (.inl rfl)
theorem TryzI196_ok : TIok Tryz.prog 196 TryzI196 := tiok Tryz.type196 rfl rfl rfl rfl (by intro h; first | rfl | cases h) ⟨_, Tryz.underlying196, (by intro x h; cases h), (by intro x y h; cases h)⟩ (by decide) rfl (by decide) (.inl rfl)
theorem TryzI197_ok : TIok Tryz.prog 197 TryzI197 := tiok Tryz.type197 rfl rfl rfl rfl (by intro h; first | rfl | cases h) Tryz.underlying197 (by decide) rfl (by decide) (.inl rfl)
theorem TryzI199_ok : TIok Tryz.prog 199 TryzI199 := tiok Tryz.type199 rfl rfl rfl rfl (by intro h; first | rfl | cases h) Tryz.underlying199 (by decide) rfl (by decide) (.inl rfl)
theorem TryzI200_ok : TIok Tryz.prog 200 TryzI200 := tiok Tryz.type200 rfl rfl rfl rfl (by intro h; first | rfl | cases h) Tryz.underlying200 (by decide) rfl (by decide) (.inl rfl)
theorem TryzI201_ok : TIok Tryz.prog 201 TryzI201 := tiok Tryz.type201 rfl rfl rfl rfl (by intro h; first | rfl | cases h) (kind_struct Tryz.underlying201 (.cons ⟨rfl, ⟨_, Tryz.type17, rfl⟩, by decide, Tryz.isAgg17⟩ (.cons ⟨rfl, ⟨_, Tryz.type17, rfl⟩, by decide, Tryz.isAgg17⟩ (.cons ⟨rfl, ⟨_, Tryz.type17, rfl⟩, by decide, Tryz.isAgg17⟩ (.cons ⟨rfl, ⟨_, Tryz.type9, rfl⟩, by decide, Tryz.isAgg9⟩ .nil))))) (by decide) rfl (by decide) (.inl rfl)
theorem TryzI202_ok : TIok Tryz.prog 202 TryzI202 := tiok Tryz.type202 rfl rfl rfl rfl (by intro h; first | rfl | cases h) (kind_struct Tryz.underlying202 (.cons ⟨rfl, ⟨_, Tryz.type17, rfl⟩, by decide, Tryz.isAgg17⟩ (.cons ⟨rfl, ⟨_, Tryz.type17, rfl⟩, by decide, Tryz.isAgg17⟩ (.cons ⟨rfl, ⟨_, Tryz.type17, rfl⟩, by decide, Tryz.isAgg17⟩ (.cons ⟨rfl, ⟨_, Tryz.type9, rfl⟩, by decide, Tryz.isAgg9⟩ .nil))))) (by decide) rfl (by decide) (.inl rfl)
theorem TryzI206_ok : TIok Tryz.prog 206 TryzI206 := tiok Tryz.type206 rfl rfl rfl rfl (by intro h; first | rfl | cases h) ⟨_, Tryz.underlying206, (by intro x h; cases h), (by intro x y h; cases h)⟩ (by decide) rfl (by decide) (.inl rfl)
theorem TryzI207_ok : TIok Tryz.prog 207 TryzI207 := tiok Tryz.type207 rfl rfl rfl rfl (by intro h; first | rfl | cases h) Tryz.underlying207 (by decide) rfl (by decide) (.inl rfl)
theorem TryzI208_ok : TIok Tryz.prog 208 TryzI208 := tiok Tryz.type208 rfl rfl rfl rfl (by intro h; first | rfl | cases h) Tryz.underlying208 (by decide) rfl (by decide) (.inl rfl)
theorem TryzI209_ok : TIok Tryz.prog 209 TryzI209 := tiok Tryz.type209 rfl rfl rfl rfl (by intro h; first | rfl | cases h) ⟨_, Tryz.underlying209, (by intro x h; cases h), (by intro x y h; cases h)⟩ (by decide) rfl (by decide) (.inl rfl)
theorem TryzI210_ok : TIok Tryz.prog 210 TryzI210 := tiok Tryz.type210 rfl rfl rfl rfl (by intro h; first | rfl | cases h) Tryz.underlying210 (by decide) rfl (by decide) (.inl rfl)
theorem TryzI211_ok : TIok Tryz.prog 211 TryzI211 := tiok Tryz.type211 rfl rfl rfl rfl (by intro h; first | rfl | cases h) Tryz.underlying211 (by decide) rfl (by decide) (.inl rfl)
theorem TryzI212_ok : TIok Tryz.prog 212 TryzI212 := tiok Tryz.type212 rfl rfl rfl rfl (by intro h; first | rfl | cases h) (kind_struct Tryz.underlying212 (.cons ⟨rfl, ⟨_, Tryz.type12, rfl⟩, by decide, Tryz.isAgg12⟩ (.cons ⟨rfl, ⟨_, Tryz.type12, rfl⟩, by decide, Tryz.isAgg12⟩ (.cons ⟨rfl, ⟨_, Tryz.type174, rfl⟩, by decide, Tryz.isAgg174⟩ (.cons ⟨rfl, ⟨_, Tryz.type207, rfl⟩, by decide, Tryz.isAgg207⟩ (.cons ⟨rfl, ⟨_, Tryz.type5, rfl⟩, by decide, Tryz.isAgg5⟩ (.cons ⟨rfl, ⟨_, Tryz.type5, rfl⟩, by decide, Tryz.isAgg5⟩ (.cons ⟨rfl, ⟨_, Tryz.type208, rfl⟩, by decide, Tryz.isAgg208⟩ (.cons ⟨rfl, ⟨_, Tryz.type209, rfl⟩, by decide, Tryz.isAgg209⟩ (.cons ⟨rfl, ⟨_, Tryz.type178, rfl⟩, by decide, Tryz.isAgg178⟩ (.cons ⟨rfl, ⟨_, Tryz.type210, rfl⟩, by decide, Tryz.isAgg210⟩ (.cons ⟨rfl, ⟨_, Tryz.type211, rfl⟩, by decide, Tryz.isAgg211⟩ .nil)))))))))))) (by decide) rfl (by decide) (.inl rfl)
theorem TryzI213_ok : TIok Tryz.prog 213 TryzI213 := tiok Tryz.type213 rfl rfl rfl rfl (by intro h; first | rfl | cases h) (kind_struct Tryz.underlying213 (.cons ⟨rfl, ⟨_, Tryz.type12, rfl⟩, by decide, Tryz.isAgg12⟩ (.cons ⟨rfl, ⟨_, Tryz.type12, rfl⟩, by decide, Tryz.isAgg12⟩ (.cons ⟨rfl, ⟨_, Tryz.type174, rfl⟩, by decide, Tryz.isAgg174⟩ (.cons ⟨rfl, ⟨_, Tryz.type207, rfl⟩, by decide, Tryz.isAgg207⟩ (.cons ⟨rfl, ⟨_, Tryz.type5, rfl⟩, by decide, Tryz.isAgg5⟩ (.cons ⟨rfl, ⟨_, Tryz.type5, rfl⟩, by decide, Tryz.isAgg5⟩ (.cons ⟨rfl, ⟨_, Tryz.type208, rfl⟩, by decide, Tryz.isAgg208⟩ (.cons ⟨rfl, ⟨_, Tryz.type209, rfl⟩, by decide, Tryz.isAgg209⟩ (.cons ⟨rfl, ⟨_, Tryz.type178, rfl⟩, by decide, Tryz.isAgg178⟩ (.cons ⟨rfl, ⟨_, Tryz.type210, rfl⟩, by decide, Tryz.isAgg210⟩ (.cons ⟨rfl, ⟨_, Tryz.type211, rfl⟩, by decide, Tryz.isAgg211⟩ .nil)))))))))))) (by decide) rfl (by decide) (.inl rfl)
def TryzT : TT := [
  (1, TryzI1),
  (2, TryzI2),
  (3, TryzI3),
  (4, TryzI4),
  (5, TryzI5),
  (6, TryzI6),
  (7, TryzI7),
  (8, TryzI8),
  (9, TryzI9),
  (10, TryzI10),
  (11, TryzI11),
  (12, TryzI12),
  (13, TryzI13),
  (14, TryzI14),
  (15, TryzI15),
  (16, TryzI16),
  (17, TryzI17),
  (18, TryzI18),
  (19, TryzI19),
  (20, TryzI20),
  (21, TryzI21),
  (22, TryzI22),
  (23, TryzI23),
  (24, TryzI24),
  (25, TryzI25),
  (26, TryzI26),
  (27, TryzI27),
  (28, TryzI28),
  (29, TryzI29),
  (30, TryzI30),
  (31, TryzI31),
  (32, TryzI32),
  (33, TryzI33),
  (34, TryzI34),
  (35, TryzI35),
  (37, TryzI37),
  (38, TryzI38),
  (39, TryzI39),
  (41, TryzI41),
  (43, TryzI43),
  (44, TryzI44),
  (45, TryzI45),
  (46, TryzI46),
  (47, TryzI47),
  (48, TryzI48),
  (50, TryzI50),
  (51, TryzI51),
  (52, TryzI52),
  (54, TryzI54),
  (56, TryzI56),
  (58, TryzI58),
  (59, TryzI59),
  (60, TryzI60),
  (62, TryzI62),
  (63, TryzI63),
  (64, TryzI64),
  (65, TryzI65),
  (66, TryzI66),
  (67, TryzI67),
  (68, TryzI68),
  (69, TryzI69),
  (70, TryzI70),
  (71, TryzI71),
  (72, TryzI72),
  (73, TryzI73),
  (74, TryzI74),
  (75, TryzI75),
  (76, TryzI76),
  (77, TryzI77),
  (78, TryzI78),
  (79, TryzI79),
  (80, TryzI80),
  (81, TryzI81),
  (83, TryzI83),
  (84, TryzI84),
  (85, TryzI85),
  (86, TryzI86),
  (87, TryzI87),
  (88, TryzI88),
  (89, TryzI89),
  (90, TryzI90),
  (91, TryzI91),
  (92, TryzI92),
  (93, TryzI93),
  (95, TryzI95),
  (96, TryzI96),
  (98, TryzI98),
  (99, TryzI99),
  (100, TryzI100),
  (101, TryzI101),
  (102, TryzI102),
  (103, TryzI103),
  (104, TryzI104),
  (105, TryzI105),
  (106, TryzI106),
  (107, TryzI107),
  (108, TryzI108),
  (110, TryzI110),
  (111, TryzI111),
  (112, TryzI112),
  (113, TryzI113),
  (114, TryzI114),
  (115, TryzI115),
  (116, TryzI116),
  (117, TryzI117),
  (118, TryzI118),
  (119, TryzI119),
  (120, TryzI120),
  (122, TryzI122),
  (123, TryzI123),
  (124, TryzI124),
  (125, TryzI125),
  (126, TryzI126),
  (127, TryzI127),
  (128, TryzI128),
  (129, TryzI129),
  (130, TryzI130),
  (131, TryzI131),
  (132, TryzI132),
  (133, TryzI133),
  (134, TryzI134),
  (135, TryzI135),
  (136, TryzI136),
  (137, TryzI137),
  (138, TryzI138),
  (139, TryzI139),
  (140, TryzI140),
  (141, TryzI141),
  (142, TryzI142),
  (143, TryzI143),
  (144, TryzI144),
  (145, TryzI145),
  (147, TryzI147),
  (148, TryzI148),
  (149, TryzI149),
  (150, TryzI150),
  (151, TryzI151),
  (152, TryzI152),
  (153, TryzI153),
  (154, TryzI154),
  (155, TryzI155),
  (156, TryzI156),
  (157, TryzI157),
  (158, TryzI158),
  (159, TryzI159),
  (160, TryzI160),
  (162, TryzI162),
  (163, TryzI163),
  (164, TryzI164),
  (165, TryzI165),
  (166, TryzI166),
  (167, TryzI167),
  (169, TryzI169),
  (170, TryzI170),
  (171, TryzI171),
  (172, TryzI172),
  (173, TryzI173),
  (174, TryzI174),
  (175, TryzI175),
  (176, TryzI176),
  (177, TryzI177),
  (178, TryzI178),
  (179, TryzI179),
  (180, TryzI180),
  (181, TryzI181),
  (182, TryzI182),
  (183, TryzI183),
  (184, TryzI184),
  (185, TryzI185),
  (186, TryzI186),
  (188, TryzI188),
  (189, TryzI189),
  (190, TryzI190),
  (191, TryzI191),
  (192, TryzI192),
  (193, TryzI193),
  (195, TryzI195),
  (196, TryzI196),
  (197, TryzI197),
  (199, TryzI199),
  (200, TryzI200),
  (201, TryzI201),
  (202, TryzI202),
  (206, TryzI206),
  (207, TryzI207),
  (208, TryzI208),
  (209, TryzI209),
  (210, TryzI210),
  (211, TryzI211),
  (212, TryzI212),
  (213, TryzI213)]
theorem Tk : TOk Tryz.prog TryzT := tok_of ⟨TryzI1_ok, TryzI2_ok, TryzI3_ok, TryzI4_ok, TryzI5_ok, TryzI6_ok, TryzI7_ok, TryzI8_ok, TryzI9_ok, TryzI10_ok, TryzI11_ok, TryzI12_ok, TryzI13_ok, TryzI14_ok, TryzI15_ok, TryzI16_ok, TryzI17_ok, TryzI18_ok, TryzI19_ok, TryzI20_ok, TryzI21_ok, TryzI22_ok, TryzI23_ok, TryzI24_ok, TryzI25_ok, TryzI26_ok, TryzI27_ok, TryzI28_ok, TryzI29_ok, TryzI30_ok, TryzI31_ok, TryzI32_ok, TryzI33_ok, TryzI34_ok, TryzI35_ok, TryzI37_ok, TryzI38_ok, TryzI39_ok, TryzI41_ok, TryzI43_ok, TryzI44_ok, TryzI45_ok, TryzI46_ok, TryzI47_ok, TryzI48_ok, TryzI50_ok, TryzI51_ok, TryzI52_ok, TryzI54_ok, TryzI56_ok, TryzI58_ok, TryzI59_ok, TryzI60_ok, TryzI62_ok, TryzI63_ok, TryzI64_ok, TryzI65_ok, TryzI66_ok, TryzI67_ok, TryzI68_ok, TryzI69_ok, TryzI70_ok, TryzI71_ok, TryzI72_ok, TryzI73_ok, TryzI74_ok, TryzI75_ok, TryzI76_ok, TryzI77_ok, TryzI78_ok, TryzI79_ok, TryzI80_ok, TryzI81_ok, TryzI83_ok, TryzI84_ok, TryzI85_ok, TryzI86_ok, TryzI87_ok, TryzI88_ok, TryzI89_ok, TryzI90_ok, TryzI91_ok, TryzI92_ok, TryzI93_ok, TryzI95_ok, TryzI96_ok, TryzI98_ok, TryzI99_ok, TryzI100_ok, TryzI101_ok, TryzI102_ok, TryzI103_ok, TryzI104_ok, TryzI105_ok, TryzI106_ok, TryzI107_ok, TryzI108_ok, TryzI110_ok, TryzI111_ok, TryzI112_ok, TryzI113_ok, TryzI114_ok, TryzI115_ok, TryzI116_ok, TryzI117_ok, TryzI118_ok, TryzI119_ok, TryzI120_ok, TryzI122_ok, TryzI123_ok, TryzI124_ok, TryzI125_ok, TryzI126_ok, TryzI127_ok, TryzI128_ok, TryzI129_ok, TryzI130_ok, TryzI131_ok, TryzI132_ok, TryzI133_ok, TryzI134_ok, TryzI135_ok, TryzI136_ok, TryzI137_ok, TryzI138_ok, TryzI139_ok, TryzI140_ok, TryzI141_ok, TryzI142_ok, TryzI143_ok, TryzI144_ok, TryzI145_ok, TryzI147_ok, TryzI148_ok, TryzI149_ok, TryzI150_ok, TryzI151_ok, TryzI152_ok, TryzI153_ok, TryzI154_ok, TryzI155_ok, TryzI156_ok, TryzI157_ok, TryzI158_ok, TryzI159_ok, TryzI160_ok, TryzI162_ok, TryzI163_ok, TryzI164_ok, TryzI165_ok, TryzI166_ok, TryzI167_ok, TryzI169_ok, TryzI170_ok, TryzI171_ok, TryzI172_ok, TryzI173_ok, TryzI174_ok, TryzI175_ok, TryzI176_ok, TryzI177_ok, TryzI178_ok, TryzI179_ok, TryzI180_ok, TryzI181_ok, TryzI182_ok, TryzI183_ok, TryzI184_ok, TryzI185_ok, TryzI186_ok, TryzI188_ok, TryzI189_ok, TryzI190_ok, TryzI191_ok, TryzI192_ok, TryzI193_ok, TryzI195_ok, TryzI196_ok, TryzI197_ok, TryzI199_ok, TryzI200_ok, TryzI201_ok, TryzI202_ok, TryzI206_ok, TryzI207_ok, TryzI208_ok, TryzI209_ok, TryzI210_ok, TryzI211_ok, TryzI212_ok, TryzI213_ok, trivial⟩
end Go.AI


namespace Go.AI
open Go.Proofs
set_option maxRecDepth 20000
theorem mixedT : Tryz.prog.follows .mixedOrders = true := rfl
end Go.AI


namespace Go.AI
open Go.Proofs
set_option maxRecDepth 20000
end Go.AI


namespace Go.AI
open Go.Proofs
set_option maxRecDepth 20000
abbrev big : Nat := 140737488355328
abbrev oints (l : List Int) : Ob := .arr 3 1 l.length (l.map fun x => [vi x]) true
theorem ret_osl (H : Heap) (nm : Nat) (ob : Ob) : D.ret H [(nm, ob)] (.osl 0 nm) = .osl 0 nm := by
  simp [D.ret, D.ret2, D.ret1, memH, look_cons]
theorem takes_one (nm : Nat) (ob ob' : Ob) (Hr : Heap) (h : ob' = ob.ret [(nm, ob)] Hr) : takesB [(nm, ob)] Hr [(nm, ob')] := ⟨⟨ob, by simp [look], h⟩, trivial⟩
theorem clone57 (nm : Nat) (O : List Heap) (l : List Int) (hl : l.length * 8 ≤ big) : ASpec Tryz.prog 50 [ints l] O (.osl 0 nm) [(nm, oints l)] O := by
  refine aspec_intro Tk Tryz.func50 rfl Tryz.call50 Tryz.ntmps50 (Nat.le_of_ble_eq_true rfl) fun E => ?_
  refine rch_run Tk Tryz.func50 ?_
  refine m_anyb Tk Tryz.func50 rfl rfl fun b hb => ?_
  refine m_cnd Tk Tryz.func50 rfl (fun h1 => ?_) (fun h1 => ?_)
  · have hl0 : l = [] := List.eq_nil_of_length_eq_zero (hb h1)
    subst hl0
    refine ret_wk (wk_nil 2 nm 3 1 rfl rfl rfl) ?_
    exact m_ret' (hT := Tk) (r := .osl 0 nm) rfl rfl rfl (takes_one _ _ _ _ rfl) (ret_osl _ _ _) rfl rfl
  · refine m_need Tk Tryz.func50 ⟨?_, ?_⟩ ?_
    · show (0 + l.length) * 8 ≤ 140737488355328
      simp only [big] at hl; omega
    · simp only [big] at hl; omega
    refine ret_wk (wk_cut (l := [(2, .osl 0 7)]) (Hv := [(7, .arr 3 1 (0 + l.length) ([] ++ l.map fun x => [vi x]) true)]) ⟨rfl, trivial⟩ rfl ⟨rfl, trivial⟩ rfl rfl) ?_
    refine ret_wk (wk_rename 7 nm rfl rfl) ?_
    refine m_ret' (hT := Tk) (r := .osl 0 nm) rfl rfl rfl (takes_one _ _ _ _ ?_) (ret_osl _ _ _) rfl rfl
    rw [Nat.zero_add]
    rfl
def checkSet (n : Int) : List Int → Option Int → Int
  | [], _ => 0
  | x :: r, prev => if x < 0 ∨ x ≥ n then 2 else if prev.any (x ≤ ·) then 5 else checkSet n r (some x)
theorem checkSet59 (O : List Heap) (l : List Int) (n : Int) (hl : l.length ≤ max63) : ASpec Tryz.prog 81 [ints l, ii n] O (ii (checkSet n l none)) [] O := by
  refine aspec_intro Tk Tryz.func81 rfl Tryz.call81 Tryz.ntmps81 (Nat.le_of_ble_eq_true rfl) fun E => ?_
  refine rch_run Tk Tryz.func81 ?_
  let prev : Nat → Option Int := fun i => if i = 0 then none else l[i - 1]?
  refine rch_loop_ind (fun i : Nat => [(0, ints l), (1, ii n), (7, ints l), (8, ii l.length), (9, ii i)]) (fun _ => [] :: O) 33 (fun i => i ≤ l.length ∧ checkSet n l none = checkSet n (l.drop i) (prev i)) (fun i => l.length - i) 0 ⟨Nat.zero_le _, rfl⟩ ⟨rfl, rfl, rfl, rfl, rfl, trivial⟩ rfl rfl ?_
  intro i ⟨hi, hno⟩ ih
  rw [hno]
  refine rch_run Tk Tryz.func81 ?_
  refine m_cnd Tk Tryz.func81 rfl (fun h1 => ?_) (fun h1 => ?_)
  · have h1 : i < l.length := by simpa using h1
    rw [hno] at ih
    have hd : l.drop i = l[i] :: l.drop (i + 1) := (List.drop_eq_getElem_cons h1)
    have hnext : prev (i + 1) = some l[i] := by simp [prev, h1]
    refine m_need Tk Tryz.func81 (by omega) ?_
    refine m_elem Tk Tryz.func81 (get_mapZ h1) ?_
    refine m_know Tk Tryz.func81 rfl (fun h2 => ?_) (fun h2 => ?_)
    · have h2 : l[i] < 0 := by simpa using h2
      refine m_cnd Tk Tryz.func81 rfl (fun _ => ?_) (fun h => by cases h)
      refine m_ret' (hT := Tk) (r := ii _) rfl rfl rfl trivial rfl rfl ?_
      rw [hd]
      simp only [checkSet]
      rw [if_pos (.inl h2)]
    have h2 : ¬ l[i] < 0 := by simpa using h2
    refine m_cnd Tk Tryz.func81 rfl (fun h3 => ?_) (fun h3 => ?_)
    · have h3 : l[i] ≥ n := by simpa using h3
      refine m_ret' (hT := Tk) (r := ii _) rfl rfl rfl trivial rfl rfl ?_
      rw [hd]
      simp only [checkSet]
      rw [if_pos (.inr h3)]
    have h3 : ¬ l[i] ≥ n := by simpa using h3
    refine m_know Tk Tryz.func81 rfl (fun h4 => ?_) (fun h4 => ?_)
    · have h4 : 0 < i := by simpa using h4
      have hw : IntKind.i64.wrap ((i : Int) - 1) = ((i - 1 : Nat) : Int) := by
        simp only [max63] at hl
        rw [w64 (by omega) (by omega)]
        omega
      have hp : prev i = some (l[i - 1]'(by omega)) := by
        simp only [prev, if_neg (show ¬ i = 0 by omega)]
        exact List.getElem?_eq_getElem (by omega)
      refine m_need Tk Tryz.func81 (by rw [hw]; omega) ?_
      refine m_elem Tk Tryz.func81 (by rw [hw]; exact get_mapZ (f := fun x => [vi x]) (show i - 1 < l.length by omega)) ?_
      refine m_cnd Tk Tryz.func81 rfl (fun h5 => ?_) (fun h5 => ?_)
      · have h5 : l[i] ≤ l[i - 1] := by simpa using h5
        refine m_ret' (hT := Tk) (r := ii _) rfl rfl rfl trivial rfl rfl ?_
        rw [hd, hp]
        simp only [checkSet]
        rw [if_neg (by omega), if_pos (by simpa using h5)]
      · have h5 : ¬ l[i] ≤ l[i - 1] := by simpa using h5
        refine ih (i + 1) _ ⟨h1, ?_⟩ (by omega) ⟨rfl, rfl, rfl, rfl, congrArg ii (wsucc h1 hl), trivial⟩ rfl rfl
        rw [hnext, hd, hp]
        simp only [checkSet]
        rw [if_neg (by omega), if_neg (by simpa using h5)]
    · have h4 : i = 0 := by
        have : ¬ 0 < i := by simpa using h4
        omega
      refine m_cnd Tk Tryz.func81 rfl (fun h => by cases h) (fun _ => ?_)
      refine ih (i + 1) _ ⟨h1, ?_⟩ (by omega) ⟨rfl, rfl, rfl, rfl, congrArg ii (wsucc h1 hl), trivial⟩ rfl rfl
      rw [hnext, hd]
      have hp : prev i = none := by simp [prev, h4]
      rw [hp]
      simp only [checkSet]
      rw [if_neg (by omega)]
      simp
  · have h1 : l.length ≤ i := by simpa using h1
    refine m_ret' (hT := Tk) (r := ii _) rfl rfl rfl trivial rfl rfl ?_
    rw [List.drop_eq_nil_of_le h1]
    rfl
end Go.AI


namespace Go.AI
open Go.Proofs
set_option maxRecDepth 20000
def findIx {α : Type} (p : α → Bool) : List α → Nat → Int
  | [], _ => -1
  | x :: r, i => if p x then (i : Int) else findIx p r (i + 1)
theorem indexFunc86 (O : List Heap) (l : List Int) (f d nm : Nat) (p : Int → Bool) (hl : l.length ≤ max63) (hp : ∀ x ∈ l, ASpec Tryz.prog f [ii x, .own (d + 1) nm 0 0] ([] :: O) (bb (p x)) [] ([] :: O)) :
    ASpec Tryz.prog 91 [ints l, .fn (.func f) [] [.own d nm 0 0]] O (ii (findIx p l 0)) [] O := by
  refine aspec_intro Tk Tryz.func91 rfl Tryz.call91 Tryz.ntmps91 (Nat.le_of_ble_eq_true rfl) fun E => ?_
  refine rch_run Tk Tryz.func91 ?_
  refine rch_loop_ind (fun i : Nat => [(0, ints l), (1, .fn (.func f) [] [.own (d + 1) nm 0 0]), (6, ints l), (7, ii l.length), (8, ii i)]) (fun _ => [] :: O) 19 (fun i => i ≤ l.length ∧ findIx p l 0 = findIx p (l.drop i) i) (fun i => l.length - i) 0 ⟨Nat.zero_le _, rfl⟩ ⟨rfl, rfl, rfl, rfl, rfl, trivial⟩ rfl rfl ?_
  intro i ⟨hi, hno⟩ ih
  rw [hno]
  rw [hno] at ih
  refine rch_run Tk Tryz.func91 ?_
  refine m_cnd Tk Tryz.func91 rfl (fun h1 => ?_) (fun h1 => ?_)
  · have h1 : i < l.length := by simpa using h1
    have hd : l.drop i = l[i] :: l.drop (i + 1) := (List.drop_eq_getElem_cons h1)
    refine m_need Tk Tryz.func91 (by omega) ?_
    refine m_elem Tk Tryz.func91 (get_mapZ h1) ?_
    refine m_call Tk Tryz.func91 (hp l[i] (List.getElem_mem h1)) rfl rfl rfl rfl rfl ?_
    refine m_cnd Tk Tryz.func91 rfl (fun h2 => ?_) (fun h2 => ?_)
    · refine m_ret' (hT := Tk) (r := ii _) rfl rfl rfl trivial rfl rfl ?_
      rw [hd]
      simp only [findIx]
      rw [if_pos h2]
    · refine ih (i + 1) _ ⟨h1, ?_⟩ (by omega) ⟨rfl, rfl, rfl, rfl, congrArg ii (wsucc h1 hl), trivial⟩ rfl rfl
      rw [hd]
      simp only [findIx]
      rw [if_neg (by rw [h2]; simp)]
  · have h1 : l.length ≤ i := by simpa using h1
    refine m_ret' (hT := Tk) (r := ii _) rfl rfl rfl trivial rfl rfl ?_
    rw [List.drop_eq_nil_of_le h1]
    rfl
theorem findIx_any {α : Type} (p : α → Bool) : ∀ (l : List α) (i : Nat), decide (findIx p l i ≥ 0) = l.any p
  | [], i => by simp [findIx]
  | x :: r, i => by
    by_cases h : p x = true
    · have e : findIx p (x :: r) i = (i : Int) := if_pos h
      rw [List.any_cons, h, Bool.true_or, decide_eq_true_iff, e]
      omega
    · have e : findIx p (x :: r) i = findIx p r (i + 1) := if_neg h
      have h' : p x = false := by simpa using h
      rw [List.any_cons, h', Bool.false_or, ← findIx_any p r (i + 1)]
      exact decide_eq_decide.2 (by rw [e])
theorem containsFunc68 (O : List Heap) (l : List Int) (f d nm : Nat) (p : Int → Bool) (hl : l.length ≤ max63) (hp : ∀ x ∈ l, ASpec Tryz.prog f [ii x, .own (d + 2) nm 0 0] ([] :: [] :: O) (bb (p x)) [] ([] :: [] :: O)) :
    ASpec Tryz.prog 70 [ints l, .fn (.func f) [] [.own d nm 0 0]] O (bb (l.any p)) [] O := by
  refine aspec_intro Tk Tryz.func70 rfl Tryz.call70 Tryz.ntmps70 (Nat.le_of_ble_eq_true rfl) fun E => ?_
  refine rch_run Tk Tryz.func70 ?_
  refine m_call Tk Tryz.func70 (indexFunc86 _ l f (d + 1) nm p hl hp) rfl rfl rfl rfl rfl ?_
  refine m_ret' (hT := Tk) (r := bb _) rfl rfl rfl trivial rfl rfl ?_
  exact congrArg bb (findIx_any p l 0)
end Go.AI


namespace Go.AI
open Go.Proofs
set_option maxRecDepth 20000
def chr (b : ByteArray) (i : Nat) : Int := ((b.data.toList.getD i 0).toNat : Int)
def letterB (c : Int) : Bool := (decide (97 ≤ c) && decide (c ≤ 122)) || (decide (65 ≤ c) && decide (c ≤ 90)) || decide (c = 95)
def charB (i : Nat) (c : Int) : Bool := letterB c || (decide (i ≠ 0) && decide (48 ≤ c) && decide (c ≤ 57))
def isNameB (b : ByteArray) : Bool := (List.range b.size).all (fun i => charB i (chr b i)) && decide (0 < b.size) && decide (b.size ≤ 32)
end Go.AI


namespace Go.AI
open Go.Proofs
set_option maxRecDepth 20000
structure Vr where
  name : ByteArray
  low : Int
  high : Int
  init : Int
abbrev intssI (l : List (List Int)) : I := .sl 1 l.length (l.map fun x => [intsI x])
def checkVr (ds : List Vr) (v : Vr) : Option Int :=
  if isNameB v.name = false then some 7
  else if ds.any (fun x => x.name.toList == v.name.toList) then some 8
  else if large v.low || large v.high then some 2
  else if v.low > v.high then some 5
  else if v.init < v.low ∨ v.init > v.high then some 2
  else none
where large (a : Int) : Bool := decide (65536 < a) || decide (a < -65536)
def checkVrs (all : List Vr) : List Vr → Nat → Int
  | [], _ => 0
  | v :: r, i => match checkVr (all.take i) v with
    | some e => e
    | none => checkVrs all r (i + 1)
end Go.AI


namespace Go.AI
open Go.Proofs
set_option maxRecDepth 20000
end Go.AI


namespace Go.AI
open Go.Proofs
set_option maxRecDepth 20000
inductive Ex where
  | mk (op val idx : Int) (args : List Ex)
end Go.AI


namespace Go.AI
open Go.Proofs
set_option maxRecDepth 20000
end Go.AI


namespace Go.AI
open Go.Proofs
set_option maxRecDepth 20000
mutual
def exOk : Ex → Prop
  | .mk _ _ _ a => a.length ≤ max63 ∧ exOks a
def exOks : List Ex → Prop
  | [] => True
  | x :: xs => exOk x ∧ exOks xs
end
end Go.AI


namespace Go.AI
open Go.Proofs
set_option maxRecDepth 20000
def arity (x : Int) : Int × Bool :=
  if x = 0 then (0, true) else
  if x = 1 then (0, true) else
  if x = 5 then (1, true) else
  if x = 10 then (1, true) else
  if x = 2 then (2, true) else
  if x = 3 then (2, true) else
  if x = 4 then (2, true) else
  if x = 6 then (2, true) else
  if x = 7 then (2, true) else
  if x = 8 then (2, true) else
  if x = 9 then (2, true) else
  if x = 11 then (2, true) else
  if x = 12 then (2, true) else
  if x = 13 then (3, true) else
  (0, false)
end Go.AI


namespace Go.AI
open Go.Proofs
set_option maxRecDepth 20000
def within (l : List Vr) (xs : List Int) : Bool := match l, xs with
  | [], [] => true
  | v :: r, x :: ys => decide (v.low ≤ x) && decide (x ≤ v.high) && within r ys
  | _, _ => false
end Go.AI


namespace Go.AI
open Go.Proofs
set_option maxRecDepth 20000
def formHead (op v ix : Int) (len : Nat) (n : Int) : Int :=
  if (arity op).2 = false then 11 else
  if (len : Int) ≠ (arity op).1 then 4 else
  if (op ≠ 0 ∧ v ≠ 0) ∨ (op ≠ 1 ∧ ix ≠ 0) then 6 else
  if (op = 0 ∧ (65536 < v ∨ v < -65536)) ∨ (op = 1 ∧ (ix < 0 ∨ ix ≥ n)) then 2 else 0
mutual
def formR : Ex → Int → Int → Int → Int × Int
  | .mk op v ix args, n, lvl, c =>
    if c = 64 ∨ lvl > 8 then (3, c) else
    if formHead op v ix args.length n ≠ 0 then (formHead op v ix args.length n, c + 1) else formRs args n (lvl + 1) (c + 1)
def formRs : List Ex → Int → Int → Int → Int × Int
  | [], _, _, c => (0, c)
  | e :: r, n, lvl, c => if (formR e n lvl c).1 ≠ 0 then formR e n lvl c else formRs r n lvl (formR e n lvl c).2
end
end Go.AI


namespace Go.AI
open Go.Proofs
set_option maxRecDepth 20000
def kindOp (op : Int) (l : List Int) : Int :=
  if op = 0 ∨ op = 1 then 1 else
  if op = 2 ∨ op = 3 ∨ op = 4 ∨ op = 5 then (if l.all (· = 1) then 1 else 0) else
  if op = 6 ∨ op = 7 ∨ op = 8 ∨ op = 9 then (if l.all (· = 1) then 2 else 0) else
  if op = 10 ∨ op = 11 ∨ op = 12 then (if l.all (· = 2) then 2 else 0) else
  if op = 13 then (if l.getD 0 0 = 2 ∧ l.getD 1 0 = l.getD 2 0 then l.getD 1 0 else 0) else 0
mutual
def kindR : Ex → Int
  | .mk op _ _ args => match kindRs args with
    | some l => kindOp op l
    | none => 0
def kindRs : List Ex → Option (List Int)
  | [] => some []
  | e :: r => if kindR e = 0 then none else (kindRs r).map (kindR e :: ·)
end
theorem oints_app (l : List Int) (k : Int) : Ob.arr 3 1 (l.length + 1) ((l.map fun x => [vi x]) ++ [[vi k]]) true = oints (l ++ [k]) := by
  simp
end Go.AI


namespace Go.AI
open Go.Proofs
set_option maxRecDepth 20000
def checkX (x : Ex) (n : Int) : Int × Int :=
  if n < 0 ∨ n > 16 then (0, 2) else if (formR x n 1 0).1 ≠ 0 then (0, (formR x n 1 0).1) else if kindR x = 0 then (0, 16) else (kindR x, 0)
def typedX (x : Ex) (n kind : Int) : Int := if (checkX x n).2 = 0 ∧ (checkX x n).1 ≠ kind then 16 else (checkX x n).2
end Go.AI


namespace Go.AI
open Go.Proofs
set_option maxRecDepth 20000
section
variable {n : Int} {vals : List Int} (hn : (vals.length : Int) = n) (hv : ∀ x ∈ vals, -65536 ≤ x ∧ x ≤ 65536)
include hn hv
end
end Go.AI


namespace Go.AI
open Go.Proofs
set_option maxRecDepth 20000
end Go.AI


namespace Go.AI
open Go.Proofs
set_option maxRecDepth 20000
structure Upd where
  v : Int
  x : Ex
structure Mv where
  frm : Int
  ev : Int
  to : Int
  g : Ex
  us : List Upd
structure Ext where
  alpha : List Int
  locs : Int
  init : Int
  marked : List Int
  vars : List Vr
  moves : List Mv
structure Sta where
  loc : Int
  vals : List Int
def mvOk (x : Mv) : Prop := exOk x.g ∧ x.us.length ≤ max63 ∧ ∀ u ∈ x.us, exOk u.x
structure extOk (m : Ext) : Prop where
  al : m.alpha.length ≤ max63
  ma : m.marked.length ≤ max63
  va : m.vars.length ≤ max63
  na : ∀ v ∈ m.vars, v.name.size ≤ max63
  mo : m.moves.length ≤ max63
  mv : ∀ x ∈ m.moves, mvOk x
def updErr (n : Int) : Option Int → List Upd → Int
  | _, [] => 0
  | prev, u :: r => if u.v < 0 ∨ u.v ≥ n then 2 else if prev.any (u.v ≤ ·) then 5 else if typedX u.x n 1 ≠ 0 then typedX u.x n 1 else updErr n (some u.v) r
def mvErr (m : Ext) (prev : Option Mv) (x : Mv) : Int :=
  if x.frm < 0 ∨ x.frm ≥ m.locs ∨ x.to < 0 ∨ x.to ≥ m.locs then 2 else
  if x.ev ∉ m.alpha then 9 else
  if prev.any (fun p => decide (x.frm < p.frm ∨ (x.frm = p.frm ∧ x.ev < p.ev))) then 5 else
  if typedX x.g m.vars.length 2 ≠ 0 then typedX x.g m.vars.length 2 else updErr m.vars.length none x.us
end Go.AI


namespace Go.AI
open Go.Proofs
set_option maxRecDepth 20000
theorem checkSet_sorted {n : Int} : ∀ {l : List Int} {p : Option Int}, checkSet n l p = 0 → l.Pairwise (· < ·) ∧ (∀ x ∈ l, 0 ≤ x ∧ x < n) ∧ ∀ y, p = some y → ∀ x ∈ l, y < x
  | [], p, _ => ⟨.nil, by simp, by simp⟩
  | x :: r, p, h => by
    simp only [checkSet] at h
    by_cases h1 : x < 0 ∨ x ≥ n
    · rw [if_pos h1] at h; cases h
    rw [if_neg h1] at h
    by_cases h2 : p.any (x ≤ ·) = true
    · rw [if_pos h2] at h; cases h
    rw [if_neg h2] at h
    obtain ⟨a, b, c⟩ := checkSet_sorted h
    refine ⟨List.pairwise_cons.2 ⟨c x rfl, a⟩, fun y hy => ?_, fun y hp z hz => ?_⟩
    · rcases List.mem_cons.1 hy with rfl | hy
      · omega
      · exact b y hy
    · subst hp
      have hyx : y < x := by simpa using h2
      rcases List.mem_cons.1 hz with rfl | hz
      · exact hyx
      · have := c x rfl z hz; omega
def varsErr (l : List Vr) : Int := if l.length > 16 then 3 else checkVrs l l 0
def mvsErr (m : Ext) : Option Mv → List Mv → Int
  | _, [] => 0
  | prev, x :: r => if mvErr m prev x ≠ 0 then mvErr m prev x else mvsErr m (some x) r
def chk (m : Ext) : Int :=
  if checkSet 32 m.alpha none ≠ 0 then checkSet 32 m.alpha none else
  if m.locs < 1 ∨ m.locs > 64 ∨ m.init < 0 ∨ m.init ≥ m.locs then 2 else
  if checkSet m.locs m.marked none ≠ 0 then checkSet m.locs m.marked none else
  if varsErr m.vars ≠ 0 then varsErr m.vars else
  if m.moves.length > 256 then 3 else mvsErr m none m.moves
end Go.AI


namespace Go.AI
abbrev Edg := Int × Int × Int
structure Aut where
  alpha : List Int
  states : Int
  marked : List Int
  edges : List Edg
abbrev edgI (e : Edg) : List I := [vi e.1, vi e.2.1, vi e.2.2]
abbrev edgs (l : List Edg) : D := .i (.sl 3 l.length (l.map edgI))
abbrev autD (a : Aut) : D := .agg [ints a.alpha, ii a.states, ints a.marked, edgs a.edges]
abbrev autC (a : Aut) : List D := [ints a.alpha, ii a.states, ints a.marked, edgs a.edges]
def chkEds (alpha : List Int) (n : Int) : Option Edg → List Edg → Int
  | _, [] => 0
  | prev, x :: r => if x.1 < 0 ∨ x.1 ≥ n ∨ x.2.2 < 0 ∨ x.2.2 ≥ n then 2 else if x.2.1 ∉ alpha then 9 else
    if prev.any (fun y => decide (x.1 < y.1 ∨ x.1 = y.1 ∧ x.2.1 ≤ y.2.1)) = true then 5 else chkEds alpha n (some x) r
def chkA (a : Aut) : Int := if checkSet 32 a.alpha none ≠ 0 then checkSet 32 a.alpha none else if a.states < 0 then 2 else if a.states > 4096 then 3 else
  if checkSet a.states a.marked none ≠ 0 then checkSet a.states a.marked none else chkEds a.alpha a.states none a.edges
def ltE (x y : Edg) : Prop := x.1 < y.1 ∨ x.1 = y.1 ∧ x.2.1 < y.2.1
theorem ltE_trans {x y z : Edg} (h : ltE x y) (h' : ltE y z) : ltE x z := by
  unfold ltE at *
  omega
theorem chkEds_of {alpha : List Int} {n : Int} : ∀ {l : List Edg} {p : Option Edg}, l.Pairwise ltE → (∀ x ∈ l, (0 ≤ x.1 ∧ x.1 < n) ∧ (0 ≤ x.2.2 ∧ x.2.2 < n) ∧ x.2.1 ∈ alpha) → (∀ y, p = some y → ∀ x ∈ l, ltE y x) → chkEds alpha n p l = 0
  | [], _, _, _, _ => rfl
  | x :: r, p, hp, hb, hy => by
    rw [List.pairwise_cons] at hp
    have hx := hb x (by simp)
    simp only [chkEds]
    rw [if_neg (by omega), if_neg (by simpa using hx.2.2), if_neg]
    · exact chkEds_of hp.2 (fun z hz => hb z (by simp [hz])) (fun y e z hz => by cases e; exact hp.1 z hz)
    · cases p with
      | none => simp
      | some y =>
        have := hy y rfl x (by simp)
        unfold ltE at this
        simp only [Option.any_some, decide_eq_true_eq]
        omega
theorem chkEds_sorted {alpha : List Int} {n : Int} : ∀ {l : List Edg} {p : Option Edg}, chkEds alpha n p l = 0 → l.Pairwise ltE ∧ (∀ x ∈ l, (0 ≤ x.1 ∧ x.1 < n) ∧ (0 ≤ x.2.2 ∧ x.2.2 < n) ∧ x.2.1 ∈ alpha) ∧ ∀ y, p = some y → ∀ x ∈ l, ltE y x
  | [], p, _ => ⟨.nil, by simp, by simp⟩
  | x :: r, p, h => by
    simp only [chkEds] at h
    split at h
    · cases h
    rename_i h1
    split at h
    · cases h
    rename_i h2
    split at h
    · cases h
    rename_i h3
    obtain ⟨i1, i2, i3⟩ := chkEds_sorted h
    refine ⟨List.pairwise_cons.2 ⟨fun z hz => i3 x rfl z hz, i1⟩, ?_, ?_⟩
    · intro z hz
      rcases List.mem_cons.1 hz with rfl | hz
      · exact ⟨by omega, by omega, by simpa using h2⟩
      · exact i2 z hz
    · rintro y rfl z hz
      simp only [Option.any_some, decide_eq_true_eq] at h3
      have hxy : ltE y x := by unfold ltE; omega
      rcases List.mem_cons.1 hz with rfl | hz
      · exact hxy
      · exact ltE_trans hxy (i3 x rfl z hz)
end Go.AI


namespace Go.AI
section
variable {c : Cx} {s : St} {k : List Item} {ops : Array Oper} {rest : List Nat} {o : Oper}
theorem chain_take {c : Cx} {ops : Array Oper} {O : List Heap} {n : Nat} : ∀ {m : Nat} {l : List Oper} {qs : List Pl} {x : SH}, ChainS c ops O n (l.take m) qs x → ChainS c ops O n l qs x
  | 0, l, [], x, _ => by cases l <;> trivial
  | 0, l, _ :: _, x, h => by
    rw [List.take_zero] at h
    exact h.elim
  | m + 1, [], qs, x, h => by simpa using h
  | m + 1, o :: r, [], x, _ => trivial
  | m + 1, o :: r, p :: qs, x, h => by
    rw [List.take_succ_cons] at h
    exact ⟨h.1, chain_take h.2⟩
end
end Go.AI
