/- The layer of abstract runs, part 37. -/
import Derived.Test.YtonnakcgopcfnaaDoorJilZJ
import Derived.Test.YtonnakcgopcfnaaDoorProg
import Derived.KernelRfl
set_option linter.unusedSimpArgs false
set_option linter.unusedVariables false
set_option linter.all false

set_option maxRecDepth 20000
namespace Go.AI
open Go.Proofs
def TrydI1 : TI := { size := 1, bytes := 8, k := .sc, zero := [.nilFunc] }
def TrydI2 : TI := { size := 1, bytes := 8, k := .int .i64, zero := [.int .i64 0] }
def TrydI3 : TI := { size := 1, bytes := 8, k := .int .i64, zero := [.int .i64 0] }
def TrydI4 : TI := { size := 1, bytes := 1, k := .bool, zero := [.bool false] }
def TrydI5 : TI := { size := 1, bytes := 1, k := .int .u8, zero := [.int .u8 0] }
def TrydI6 : TI := { size := 1, bytes := 1, k := .int .u8, zero := [.int .u8 0] }
def TrydI7 : TI := { size := 4, bytes := 24, k := .struct [(0, 1, false), (1, 1, false), (2, 1, false), (3, 1, false)], zero := [.int .i64 0, .int .i64 0, .bool false, .int .u8 0] }
def TrydI8 : TI := { size := 4, bytes := 24, k := .struct [(0, 1, false), (1, 1, false), (2, 1, false), (3, 1, false)], zero := [.int .i64 0, .int .i64 0, .bool false, .int .u8 0] }
def TrydI9 : TI := { size := 1, bytes := 16, k := .str, zero := [.string ⟨#[]⟩] }
def TrydI10 : TI := { size := 1, bytes := 16, k := .str, zero := [.string ⟨#[]⟩] }
def TrydI11 : TI := { size := 1, bytes := 16, k := .str, zero := [.string ⟨#[]⟩] }
def TrydI12 : TI := { size := 1, bytes := 8, k := .int .u64, zero := [.int .u64 0] }
def TrydI13 : TI := { size := 2, bytes := 24, k := .struct [(0, 1, false), (1, 1, false)], zero := [.string ⟨#[]⟩, .int .u64 0] }
def TrydI14 : TI := { size := 2, bytes := 24, k := .struct [(0, 1, false), (1, 1, false)], zero := [.string ⟨#[]⟩, .int .u64 0] }
def TrydI15 : TI := { size := 1, bytes := 8, k := .ptr 279, zero := [.pointer none] }
def TrydI16 : TI := { size := 1, bytes := 8, k := .ptr 282, zero := [.pointer none] }
def TrydI17 : TI := { size := 1, bytes := 8, k := .ptr 289, zero := [.pointer none] }
def TrydI18 : TI := { size := 1, bytes := 8, k := .struct [(0, 1, false)], zero := [.pointer none] }
def TrydI19 : TI := { size := 1, bytes := 8, k := .struct [(0, 1, false)], zero := [.pointer none] }
def TrydI20 : TI := { size := 1, bytes := 16, k := .sc, zero := [.nilIface] }
def TrydI21 : TI := { size := 1, bytes := 4, k := .int .i32, zero := [.int .i32 0] }
def TrydI22 : TI := { size := 1, bytes := 24, k := .slice 144, zero := [.slice none 0 0] }
def TrydI23 : TI := { size := 1, bytes := 8, k := .int .u64, zero := [.int .u64 0] }
def TrydI24 : TI := { size := 1, bytes := 8, k := .sc, zero := [.nilFunc] }
def TrydI25 : TI := { size := 1, bytes := 24, k := .slice 61, zero := [.slice none 0 0] }
def TrydI26 : TI := { size := 1, bytes := 8, k := .sc, zero := [.nilFunc] }
def TrydI27 : TI := { size := 1, bytes := 24, k := .slice 53, zero := [.slice none 0 0] }
def TrydI28 : TI := { size := 1, bytes := 8, k := .sc, zero := [.nilFunc] }
def TrydI29 : TI := { size := 1, bytes := 24, k := .slice 4, zero := [.slice none 0 0] }
def TrydI30 : TI := { size := 1, bytes := 8, k := .sc, zero := [.nilFunc] }
def TrydI31 : TI := { size := 1, bytes := 24, k := .slice 55, zero := [.slice none 0 0] }
def TrydI32 : TI := { size := 1, bytes := 8, k := .int .i64, zero := [.int .i64 0] }
def TrydI34 : TI := { size := 1, bytes := 8, k := .sc, zero := [.nilFunc] }
def TrydI35 : TI := { size := 1, bytes := 8, k := .sc, zero := [.nilFunc] }
def TrydI36 : TI := { size := 1, bytes := 8, k := .sc, zero := [.nilFunc] }
def TrydI37 : TI := { size := 1, bytes := 8, k := .sc, zero := [.nilFunc] }
def TrydI38 : TI := { size := 1, bytes := 24, k := .slice 5, zero := [.slice none 0 0] }
def TrydI39 : TI := { size := 1, bytes := 24, k := .slice 41, zero := [.slice none 0 0] }
def TrydI40 : TI := { size := 4, bytes := 48, k := .struct [(0, 1, false), (1, 1, false), (2, 1, false), (3, 1, false)], zero := [.int .i64 0, .int .i64 0, .int .i64 0, .slice none 0 0] }
def TrydI41 : TI := { size := 4, bytes := 48, k := .struct [(0, 1, false), (1, 1, false), (2, 1, false), (3, 1, false)], zero := [.int .i64 0, .int .i64 0, .int .i64 0, .slice none 0 0] }
def TrydI42 : TI := { size := 1, bytes := 8, k := .sc, zero := [.nilFunc] }
def TrydI44 : TI := { size := 1, bytes := 8, k := .sc, zero := [.nilFunc] }
def TrydI46 : TI := { size := 1, bytes := 8, k := .sc, zero := [.nilFunc] }
def TrydI48 : TI := { size := 1, bytes := 8, k := .sc, zero := [.nilFunc] }
def TrydI50 : TI := { size := 1, bytes := 8, k := .sc, zero := [.nilFunc] }
def TrydI51 : TI := { size := 1, bytes := 8, k := .sc, zero := [.nilFunc] }
def TrydI52 : TI := { size := 1, bytes := 8, k := .sc, zero := [.nilFunc] }
def TrydI53 : TI := { size := 1, bytes := 24, k := .slice 3, zero := [.slice none 0 0] }
def TrydI54 : TI := { size := 2, bytes := 48, k := .struct [(0, 1, false), (1, 1, false)], zero := [.slice none 0 0, .slice none 0 0] }
def TrydI55 : TI := { size := 2, bytes := 48, k := .struct [(0, 1, false), (1, 1, false)], zero := [.slice none 0 0, .slice none 0 0] }
def TrydI56 : TI := { size := 1, bytes := 8, k := .sc, zero := [.nilFunc] }
def TrydI57 : TI := { size := 9, bytes := 120, k := .struct [(0, 1, false), (1, 4, true), (5, 4, true)], zero := [.slice none 0 0, .int .i64 0, .int .i64 0, .int .i64 0, .slice none 0 0, .int .i64 0, .int .i64 0, .int .i64 0, .slice none 0 0] }
def TrydI58 : TI := { size := 9, bytes := 120, k := .struct [(0, 1, false), (1, 4, true), (5, 4, true)], zero := [.slice none 0 0, .int .i64 0, .int .i64 0, .int .i64 0, .slice none 0 0, .int .i64 0, .int .i64 0, .int .i64 0, .slice none 0 0] }
def TrydI59 : TI := { size := 1, bytes := 8, k := .sc, zero := [.nilFunc] }
def TrydI60 : TI := { size := 4, bytes := 40, k := .struct [(0, 1, false), (1, 1, false), (2, 1, false), (3, 1, false)], zero := [.string ⟨#[]⟩, .int .i64 0, .int .i64 0, .int .i64 0] }
def TrydI61 : TI := { size := 4, bytes := 40, k := .struct [(0, 1, false), (1, 1, false), (2, 1, false), (3, 1, false)], zero := [.string ⟨#[]⟩, .int .i64 0, .int .i64 0, .int .i64 0], cmp := [.str, .int .i64, .int .i64, .int .i64] }
def TrydI63 : TI := { size := 1, bytes := 8, k := .sc, zero := [.nilFunc] }
def TrydI65 : TI := { size := 1, bytes := 8, k := .sc, zero := [.nilFunc] }
def TrydI66 : TI := { size := 1, bytes := 8, k := .sc, zero := [.nilFunc] }
def TrydI67 : TI := { size := 1, bytes := 8, k := .sc, zero := [.nilFunc] }
def TrydI69 : TI := { size := 1, bytes := 8, k := .sc, zero := [.nilFunc] }
def TrydI70 : TI := { size := 1, bytes := 8, k := .sc, zero := [.nilFunc] }
def TrydI71 : TI := { size := 1, bytes := 24, k := .slice 163, zero := [.slice none 0 0] }
def TrydI72 : TI := { size := 1, bytes := 24, k := .slice 163, zero := [.slice none 0 0] }
def TrydI73 : TI := { size := 1, bytes := 8, k := .sc, zero := [.nilFunc] }
def TrydI74 : TI := { size := 1, bytes := 24, k := .slice 9, zero := [.slice none 0 0] }
def TrydI76 : TI := { size := 1, bytes := 8, k := .sc, zero := [.nilFunc] }
def TrydI77 : TI := { size := 1, bytes := 8, k := .sc, zero := [.nilFunc] }
def TrydI79 : TI := { size := 1, bytes := 8, k := .sc, zero := [.nilFunc] }
def TrydI80 : TI := { size := 1, bytes := 8, k := .sc, zero := [.nilFunc] }
def TrydI82 : TI := { size := 1, bytes := 8, k := .sc, zero := [.nilFunc] }
def TrydI83 : TI := { size := 1, bytes := 8, k := .sc, zero := [.nilFunc] }
def TrydI84 : TI := { size := 1, bytes := 8, k := .sc, zero := [.nilFunc] }
def TrydI85 : TI := { size := 1, bytes := 8, k := .sc, zero := [.nilFunc] }
def TrydI86 : TI := { size := 1, bytes := 8, k := .sc, zero := [.nilFunc] }
def TrydI87 : TI := { size := 3, bytes := 72, k := .arr 3 38, zero := [.slice none 0 0, .slice none 0 0, .slice none 0 0] }
def TrydI88 : TI := { size := 4, bytes := 80, k := .struct [(0, 3, true), (3, 1, false)], zero := [.slice none 0 0, .slice none 0 0, .slice none 0 0, .int .u64 0] }
def TrydI89 : TI := { size := 4, bytes := 80, k := .struct [(0, 3, true), (3, 1, false)], zero := [.slice none 0 0, .slice none 0 0, .slice none 0 0, .int .u64 0] }
def TrydI90 : TI := { size := 1, bytes := 24, k := .slice 95, zero := [.slice none 0 0] }
def TrydI91 : TI := { size := 1, bytes := 8, k := .sc, zero := [.nilFunc] }
def TrydI92 : TI := { size := 1, bytes := 8, k := .sc, zero := [.nilFunc] }
def TrydI93 : TI := { size := 1, bytes := 8, k := .sc, zero := [.nilFunc] }
def TrydI94 : TI := { size := 5, bytes := 56, k := .struct [(0, 1, false), (1, 4, true)], zero := [.int .i64 0, .int .i64 0, .int .i64 0, .int .i64 0, .slice none 0 0] }
def TrydI95 : TI := { size := 5, bytes := 56, k := .struct [(0, 1, false), (1, 4, true)], zero := [.int .i64 0, .int .i64 0, .int .i64 0, .int .i64 0, .slice none 0 0] }
def TrydI96 : TI := { size := 1, bytes := 8, k := .sc, zero := [.nilFunc] }
def TrydI97 : TI := { size := 1, bytes := 24, k := .slice 191, zero := [.slice none 0 0] }
def TrydI98 : TI := { size := 4, bytes := 56, k := .struct [(0, 1, false), (1, 1, false), (2, 1, false), (3, 1, false)], zero := [.int .u8 0, .int .u8 0, .slice none 0 0, .slice none 0 0] }
def TrydI99 : TI := { size := 4, bytes := 56, k := .struct [(0, 1, false), (1, 1, false), (2, 1, false), (3, 1, false)], zero := [.int .u8 0, .int .u8 0, .slice none 0 0, .slice none 0 0] }
def TrydI100 : TI := { size := 1, bytes := 24, k := .slice 122, zero := [.slice none 0 0] }
def TrydI101 : TI := { size := 6, bytes := 112, k := .struct [(0, 1, false), (1, 1, false), (2, 1, false), (3, 1, false), (4, 1, false), (5, 1, false)], zero := [.slice none 0 0, .int .i64 0, .int .i64 0, .slice none 0 0, .slice none 0 0, .slice none 0 0] }
def TrydI102 : TI := { size := 6, bytes := 112, k := .struct [(0, 1, false), (1, 1, false), (2, 1, false), (3, 1, false), (4, 1, false), (5, 1, false)], zero := [.slice none 0 0, .int .i64 0, .int .i64 0, .slice none 0 0, .slice none 0 0, .slice none 0 0] }
def TrydI103 : TI := { size := 1, bytes := 8, k := .sc, zero := [.nilFunc] }
def TrydI104 : TI := { size := 1, bytes := 24, k := .slice 124, zero := [.slice none 0 0] }
def TrydI105 : TI := { size := 4, bytes := 80, k := .struct [(0, 1, false), (1, 1, false), (2, 1, false), (3, 1, false)], zero := [.slice none 0 0, .int .i64 0, .slice none 0 0, .slice none 0 0] }
def TrydI106 : TI := { size := 4, bytes := 80, k := .struct [(0, 1, false), (1, 1, false), (2, 1, false), (3, 1, false)], zero := [.slice none 0 0, .int .i64 0, .slice none 0 0, .slice none 0 0] }
def TrydI107 : TI := { size := 1, bytes := 24, k := .slice 111, zero := [.slice none 0 0] }
def TrydI109 : TI := { size := 1, bytes := 8, k := .sc, zero := [.nilFunc] }
def TrydI110 : TI := { size := 2, bytes := 32, k := .struct [(0, 1, false), (1, 1, false)], zero := [.int .i64 0, .slice none 0 0] }
def TrydI111 : TI := { size := 2, bytes := 32, k := .struct [(0, 1, false), (1, 1, false)], zero := [.int .i64 0, .slice none 0 0] }
def TrydI113 : TI := { size := 1, bytes := 8, k := .sc, zero := [.nilFunc] }
def TrydI115 : TI := { size := 1, bytes := 8, k := .sc, zero := [.nilFunc] }
def TrydI116 : TI := { size := 1, bytes := 8, k := .sc, zero := [.nilFunc] }
def TrydI117 : TI := { size := 1, bytes := 8, k := .sc, zero := [.nilFunc] }
def TrydI119 : TI := { size := 1, bytes := 8, k := .sc, zero := [.nilFunc] }
def TrydI120 : TI := { size := 1, bytes := 8, k := .sc, zero := [.nilFunc] }
def TrydI121 : TI := { size := 8, bytes := 96, k := .struct [(0, 1, false), (1, 1, false), (2, 1, false), (3, 4, true), (7, 1, false)], zero := [.int .i64 0, .int .i64 0, .int .i64 0, .int .i64 0, .int .i64 0, .int .i64 0, .slice none 0 0, .slice none 0 0] }
def TrydI122 : TI := { size := 8, bytes := 96, k := .struct [(0, 1, false), (1, 1, false), (2, 1, false), (3, 4, true), (7, 1, false)], zero := [.int .i64 0, .int .i64 0, .int .i64 0, .int .i64 0, .int .i64 0, .int .i64 0, .slice none 0 0, .slice none 0 0] }
def TrydI123 : TI := { size := 3, bytes := 24, k := .struct [(0, 1, false), (1, 1, false), (2, 1, false)], zero := [.int .i64 0, .int .i64 0, .int .i64 0] }
def TrydI124 : TI := { size := 3, bytes := 24, k := .struct [(0, 1, false), (1, 1, false), (2, 1, false)], zero := [.int .i64 0, .int .i64 0, .int .i64 0], cmp := [.int .i64, .int .i64, .int .i64] }
def TrydI125 : TI := { size := 1, bytes := 8, k := .sc, zero := [.nilFunc] }
def TrydI126 : TI := { size := 1, bytes := 8, k := .sc, zero := [.nilFunc] }
def TrydI127 : TI := { size := 1, bytes := 8, k := .sc, zero := [.nilFunc] }
def TrydI128 : TI := { size := 1, bytes := 8, k := .sc, zero := [.nilFunc] }
def TrydI129 : TI := { size := 1, bytes := 8, k := .sc, zero := [.nilFunc] }
def TrydI130 : TI := { size := 1, bytes := 8, k := .sc, zero := [.nilFunc] }
def TrydI132 : TI := { size := 1, bytes := 8, k := .sc, zero := [.nilFunc] }
def TrydI134 : TI := { size := 1, bytes := 8, k := .sc, zero := [.nilFunc] }
def TrydI136 : TI := { size := 1, bytes := 8, k := .sc, zero := [.nilFunc] }
def TrydI137 : TI := { size := 1, bytes := 8, k := .sc, zero := [.nilFunc] }
def TrydI138 : TI := { size := 1, bytes := 8, k := .sc, zero := [.nilFunc] }
def TrydI139 : TI := { size := 1, bytes := 8, k := .sc, zero := [.nilFunc] }
def TrydI140 : TI := { size := 1, bytes := 8, k := .sc, zero := [.nilFunc] }
def TrydI141 : TI := { size := 1, bytes := 8, k := .sc, zero := [.nilFunc] }
def TrydI142 : TI := { size := 1, bytes := 8, k := .sc, zero := [.nilFunc] }
def TrydI143 : TI := { size := 1, bytes := 1, k := .int .i8, zero := [.int .i8 0] }
def TrydI144 : TI := { size := 2, bytes := 2, k := .arr 2 143, zero := [.int .i8 0, .int .i8 0] }
def TrydI145 : TI := { size := 1, bytes := 8, k := .sc, zero := [.nilFunc] }
def TrydI146 : TI := { size := 1, bytes := 8, k := .sc, zero := [.nilFunc] }
def TrydI147 : TI := { size := 1, bytes := 8, k := .sc, zero := [.nilFunc] }
def TrydI148 : TI := { size := 1, bytes := 8, k := .ptr 150, zero := [.pointer none] }
def TrydI149 : TI := { size := 3, bytes := 40, k := .struct [(0, 1, false), (1, 1, false), (2, 1, false)], zero := [.slice none 0 0, .int .i64 0, .int .i64 0] }
def TrydI150 : TI := { size := 3, bytes := 40, k := .struct [(0, 1, false), (1, 1, false), (2, 1, false)], zero := [.slice none 0 0, .int .i64 0, .int .i64 0] }
def TrydI151 : TI := { size := 1, bytes := 8, k := .sc, zero := [.nilFunc] }
def TrydI152 : TI := { size := 1, bytes := 8, k := .sc, zero := [.nilFunc] }
def TrydI153 : TI := { size := 1, bytes := 8, k := .sc, zero := [.nilFunc] }
def TrydI154 : TI := { size := 1, bytes := 8, k := .sc, zero := [.nilFunc] }
def TrydI155 : TI := { size := 1, bytes := 8, k := .ptr 3, zero := [.pointer none] }
def TrydI156 : TI := { size := 1, bytes := 8, k := .sc, zero := [.nilFunc] }
def TrydI157 : TI := { size := 1, bytes := 8, k := .sc, zero := [.nilFunc] }
def TrydI158 : TI := { size := 1, bytes := 8, k := .sc, zero := [.nilFunc] }
def TrydI159 : TI := { size := 1, bytes := 8, k := .sc, zero := [.nilFunc] }
def TrydI160 : TI := { size := 1, bytes := 8, k := .sc, zero := [.nilFunc] }
def TrydI161 : TI := { size := 1, bytes := 8, k := .sc, zero := [.nilFunc] }
def TrydI162 : TI := { size := 2, bytes := 2, k := .arr 2 5, zero := [.int .u8 0, .int .u8 0] }
def TrydI163 : TI := { size := 6, bytes := 6, k := .arr 3 162, zero := [.int .u8 0, .int .u8 0, .int .u8 0, .int .u8 0, .int .u8 0, .int .u8 0] }
def TrydI164 : TI := { size := 1, bytes := 8, k := .sc, zero := [.nilFunc] }
def TrydI165 : TI := { size := 1, bytes := 8, k := .sc, zero := [.nilFunc] }
def TrydI166 : TI := { size := 1, bytes := 8, k := .ptr 168, zero := [.pointer none] }
def TrydI167 : TI := { size := 2, bytes := 32, k := .struct [(0, 1, false), (1, 1, false)], zero := [.pointer none, .slice none 0 0] }
def TrydI168 : TI := { size := 2, bytes := 32, k := .struct [(0, 1, false), (1, 1, false)], zero := [.pointer none, .slice none 0 0] }
def TrydI169 : TI := { size := 1, bytes := 16, k := .sc, zero := [.nilIface] }
def TrydI170 : TI := { size := 1, bytes := 16, k := .sc, zero := [.nilIface] }
def TrydI172 : TI := { size := 1, bytes := 8, k := .sc, zero := [.nilFunc] }
def TrydI173 : TI := { size := 1, bytes := 24, k := .slice 176, zero := [.slice none 0 0] }
def TrydI174 : TI := { size := 1, bytes := 8, k := .sc, zero := [.nilFunc] }
def TrydI175 : TI := { size := 5, bytes := 32, k := .struct [(0, 1, false), (1, 1, false), (2, 1, false), (3, 1, false), (4, 1, false)], zero := [.int .i64 0, .int .i64 0, .int .i64 0, .bool false, .bool false] }
def TrydI176 : TI := { size := 5, bytes := 32, k := .struct [(0, 1, false), (1, 1, false), (2, 1, false), (3, 1, false), (4, 1, false)], zero := [.int .i64 0, .int .i64 0, .int .i64 0, .bool false, .bool false] }
def TrydI177 : TI := { size := 1, bytes := 8, k := .sc, zero := [.nilFunc] }
def TrydI178 : TI := { size := 1, bytes := 8, k := .sc, zero := [.nilFunc] }
def TrydI179 : TI := { size := 1, bytes := 8, k := .sc, zero := [.nilFunc] }
def TrydI180 : TI := { size := 1, bytes := 8, k := .sc, zero := [.nilFunc] }
def TrydI181 : TI := { size := 1, bytes := 8, k := .sc, zero := [.nilFunc] }
def TrydI182 : TI := { size := 1, bytes := 8, k := .sc, zero := [.nilFunc] }
def TrydI183 : TI := { size := 1, bytes := 8, k := .sc, zero := [.nilFunc] }
def TrydI184 : TI := { size := 1, bytes := 8, k := .sc, zero := [.nilFunc] }
def TrydI186 : TI := { size := 1, bytes := 8, k := .sc, zero := [.nilFunc] }
def TrydI187 : TI := { size := 1, bytes := 8, k := .sc, zero := [.nilFunc] }
def TrydI188 : TI := { size := 1, bytes := 8, k := .sc, zero := [.nilFunc] }
def TrydI189 : TI := { size := 3, bytes := 3, k := .arr 3 5, zero := [.int .u8 0, .int .u8 0, .int .u8 0] }
def TrydI190 : TI := { size := 5, bytes := 56, k := .struct [(0, 3, true), (3, 1, false), (4, 1, false)], zero := [.int .u8 0, .int .u8 0, .int .u8 0, .slice none 0 0, .slice none 0 0] }
def TrydI191 : TI := { size := 5, bytes := 56, k := .struct [(0, 3, true), (3, 1, false), (4, 1, false)], zero := [.int .u8 0, .int .u8 0, .int .u8 0, .slice none 0 0, .slice none 0 0] }
def TrydI193 : TI := { size := 1, bytes := 8, k := .sc, zero := [.nilFunc] }
def TrydI194 : TI := { size := 1, bytes := 8, k := .sc, zero := [.nilFunc] }
def TrydI195 : TI := { size := 1, bytes := 8, k := .sc, zero := [.nilFunc] }
def TrydI197 : TI := { size := 1, bytes := 8, k := .sc, zero := [.nilFunc] }
def TrydI198 : TI := { size := 1, bytes := 8, k := .sc, zero := [.nilFunc] }
def TrydI199 : TI := { size := 1, bytes := 8, k := .sc, zero := [.nilFunc] }
def TrydI200 : TI := { size := 1, bytes := 8, k := .sc, zero := [.nilFunc] }
def TrydI201 : TI := { size := 1, bytes := 8, k := .sc, zero := [.nilFunc] }
def TrydI202 : TI := { size := 1, bytes := 8, k := .sc, zero := [.nilFunc] }
def TrydI203 : TI := { size := 1, bytes := 8, k := .sc, zero := [.nilFunc] }
def TrydI204 : TI := { size := 1, bytes := 8, k := .sc, zero := [.nilFunc] }
def TrydI205 : TI := { size := 1, bytes := 8, k := .sc, zero := [.nilFunc] }
def TrydI206 : TI := { size := 1, bytes := 8, k := .sc, zero := [.nilFunc] }
def TrydI207 : TI := { size := 1, bytes := 8, k := .sc, zero := [.nilFunc] }
def TrydI208 : TI := { size := 1, bytes := 8, k := .sc, zero := [.nilFunc] }
def TrydI209 : TI := { size := 1, bytes := 8, k := .sc, zero := [.nilFunc] }
def TrydI210 : TI := { size := 1, bytes := 24, k := .slice 212, zero := [.slice none 0 0] }
def TrydI211 : TI := { size := 2, bytes := 16, k := .struct [(0, 1, false), (1, 1, false)], zero := [.int .i64 0, .int .i64 0] }
def TrydI212 : TI := { size := 2, bytes := 16, k := .struct [(0, 1, false), (1, 1, false)], zero := [.int .i64 0, .int .i64 0] }
def TrydI214 : TI := { size := 1, bytes := 8, k := .sc, zero := [.nilFunc] }
def TrydI215 : TI := { size := 1, bytes := 8, k := .sc, zero := [.nilFunc] }
def TrydI216 : TI := { size := 1, bytes := 8, k := .sc, zero := [.nilFunc] }
def TrydI217 : TI := { size := 1, bytes := 8, k := .sc, zero := [.nilFunc] }
def TrydI219 : TI := { size := 1, bytes := 8, k := .sc, zero := [.nilFunc] }
def TrydI220 : TI := { size := 4, bytes := 96, k := .struct [(0, 1, false), (1, 1, false), (2, 1, false), (3, 1, false)], zero := [.slice none 0 0, .slice none 0 0, .slice none 0 0, .slice none 0 0] }
def TrydI221 : TI := { size := 4, bytes := 96, k := .struct [(0, 1, false), (1, 1, false), (2, 1, false), (3, 1, false)], zero := [.slice none 0 0, .slice none 0 0, .slice none 0 0, .slice none 0 0] }
def TrydI222 : TI := { size := 1, bytes := 8, k := .sc, zero := [.nilFunc] }
def TrydI223 : TI := { size := 1, bytes := 8, k := .sc, zero := [.nilFunc] }
def TrydI224 : TI := { size := 1, bytes := 8, k := .sc, zero := [.nilFunc] }
def TrydI225 : TI := { size := 1, bytes := 8, k := .sc, zero := [.nilFunc] }
def TrydI226 : TI := { size := 1, bytes := 8, k := .sc, zero := [.nilFunc] }
def TrydI227 : TI := { size := 1, bytes := 8, k := .sc, zero := [.nilFunc] }
def TrydI228 : TI := { size := 1, bytes := 8, k := .sc, zero := [.nilFunc] }
def TrydI229 : TI := { size := 1, bytes := 8, k := .sc, zero := [.nilFunc] }
def TrydI230 : TI := { size := 1, bytes := 8, k := .sc, zero := [.nilFunc] }
def TrydI231 : TI := { size := 1, bytes := 8, k := .ptr 5, zero := [.pointer none] }
def TrydI232 : TI := { size := 1, bytes := 8, k := .sc, zero := [.nilFunc] }
def TrydI233 : TI := { size := 1, bytes := 8, k := .sc, zero := [.nilFunc] }
def TrydI234 : TI := { size := 1, bytes := 8, k := .sc, zero := [.nilFunc] }
def TrydI235 : TI := { size := 1, bytes := 8, k := .sc, zero := [.nilFunc] }
def TrydI236 : TI := { size := 1, bytes := 8, k := .sc, zero := [.nilFunc] }
def TrydI237 : TI := { size := 1, bytes := 8, k := .sc, zero := [.nilFunc] }
def TrydI238 : TI := { size := 1, bytes := 8, k := .map 9 3, zero := [.map none] }
def TrydI239 : TI := { size := 1, bytes := 8, k := .sc, zero := [.nilFunc] }
def TrydI240 : TI := { size := 1, bytes := 8, k := .sc, zero := [.nilFunc] }
def TrydI241 : TI := { size := 1, bytes := 8, k := .sc, zero := [.nilFunc] }
def TrydI242 : TI := { size := 1, bytes := 8, k := .sc, zero := [.nilFunc] }
def TrydI243 : TI := { size := 1, bytes := 8, k := .map 9 4, zero := [.map none] }
def TrydI244 : TI := { size := 1, bytes := 8, k := .ptr 122, zero := [.pointer none] }
def TrydI246 : TI := { size := 1, bytes := 8, k := .sc, zero := [.nilFunc] }
def TrydI247 : TI := { size := 1, bytes := 8, k := .sc, zero := [.nilFunc] }
def TrydI248 : TI := { size := 1, bytes := 8, k := .sc, zero := [.nilFunc] }
def TrydI249 : TI := { size := 1, bytes := 8, k := .sc, zero := [.nilFunc] }
def TrydI250 : TI := { size := 1, bytes := 8, k := .sc, zero := [.nilFunc] }
def TrydI251 : TI := { size := 1, bytes := 8, k := .sc, zero := [.nilFunc] }
def TrydI252 : TI := { size := 1, bytes := 8, k := .sc, zero := [.nilFunc] }
def TrydI254 : TI := { size := 1, bytes := 8, k := .sc, zero := [.nilFunc] }
def TrydI255 : TI := { size := 1, bytes := 8, k := .sc, zero := [.nilFunc] }
def TrydI256 : TI := { size := 1, bytes := 8, k := .sc, zero := [.nilFunc] }
def TrydI257 : TI := { size := 1, bytes := 8, k := .sc, zero := [.nilFunc] }
def TrydI258 : TI := { size := 1, bytes := 8, k := .int .u64, zero := [.int .u64 0] }
def TrydI259 : TI := { size := 1, bytes := 8, k := .sc, zero := [.nilFunc] }
def TrydI260 : TI := { size := 1, bytes := 8, k := .sc, zero := [.nilFunc] }
def TrydI261 : TI := { size := 1, bytes := 8, k := .sc, zero := [.nilFunc] }
def TrydI262 : TI := { size := 1, bytes := 8, k := .sc, zero := [.nilFunc] }
def TrydI263 : TI := { size := 1, bytes := 8, k := .sc, zero := [.nilFunc] }
def TrydI264 : TI := { size := 1, bytes := 8, k := .sc, zero := [.nilFunc] }
def TrydI265 : TI := { size := 24, bytes := 24, k := .arr 24 5, zero := [.int .u8 0, .int .u8 0, .int .u8 0, .int .u8 0, .int .u8 0, .int .u8 0, .int .u8 0, .int .u8 0, .int .u8 0, .int .u8 0, .int .u8 0, .int .u8 0, .int .u8 0, .int .u8 0, .int .u8 0, .int .u8 0, .int .u8 0, .int .u8 0, .int .u8 0, .int .u8 0, .int .u8 0, .int .u8 0, .int .u8 0, .int .u8 0] }
def TrydI266 : TI := { size := 1, bytes := 8, k := .sc, zero := [.nilFunc] }
def TrydI267 : TI := { size := 1, bytes := 8, k := .sc, zero := [.nilFunc] }
def TrydI269 : TI := { size := 1, bytes := 8, k := .sc, zero := [.nilFunc] }
def TrydI270 : TI := { size := 1, bytes := 8, k := .sc, zero := [.nilFunc] }
def TrydI271 : TI := { size := 20, bytes := 160, k := .arr 20 23, zero := [.int .u64 0, .int .u64 0, .int .u64 0, .int .u64 0, .int .u64 0, .int .u64 0, .int .u64 0, .int .u64 0, .int .u64 0, .int .u64 0, .int .u64 0, .int .u64 0, .int .u64 0, .int .u64 0, .int .u64 0, .int .u64 0, .int .u64 0, .int .u64 0, .int .u64 0, .int .u64 0] }
def TrydI272 : TI := { size := 1, bytes := 4, k := .int .u32, zero := [.int .u32 0] }
def TrydI274 : TI := { size := 1, bytes := 8, k := .sc, zero := [.nilFunc] }
def TrydI275 : TI := { size := 1, bytes := 8, k := .sc, zero := [.nilFunc] }
def TrydI276 : TI := { size := 32, bytes := 32, k := .arr 32 5, zero := [.int .u8 0, .int .u8 0, .int .u8 0, .int .u8 0, .int .u8 0, .int .u8 0, .int .u8 0, .int .u8 0, .int .u8 0, .int .u8 0, .int .u8 0, .int .u8 0, .int .u8 0, .int .u8 0, .int .u8 0, .int .u8 0, .int .u8 0, .int .u8 0, .int .u8 0, .int .u8 0, .int .u8 0, .int .u8 0, .int .u8 0, .int .u8 0, .int .u8 0, .int .u8 0, .int .u8 0, .int .u8 0, .int .u8 0, .int .u8 0, .int .u8 0, .int .u8 0] }
def TrydI277 : TI := { size := 64, bytes := 64, k := .arr 64 5, zero := [.int .u8 0, .int .u8 0, .int .u8 0, .int .u8 0, .int .u8 0, .int .u8 0, .int .u8 0, .int .u8 0, .int .u8 0, .int .u8 0, .int .u8 0, .int .u8 0, .int .u8 0, .int .u8 0, .int .u8 0, .int .u8 0, .int .u8 0, .int .u8 0, .int .u8 0, .int .u8 0, .int .u8 0, .int .u8 0, .int .u8 0, .int .u8 0, .int .u8 0, .int .u8 0, .int .u8 0, .int .u8 0, .int .u8 0, .int .u8 0, .int .u8 0, .int .u8 0, .int .u8 0, .int .u8 0, .int .u8 0, .int .u8 0, .int .u8 0, .int .u8 0, .int .u8 0, .int .u8 0, .int .u8 0, .int .u8 0, .int .u8 0, .int .u8 0, .int .u8 0, .int .u8 0, .int .u8 0, .int .u8 0, .int .u8 0, .int .u8 0, .int .u8 0, .int .u8 0, .int .u8 0, .int .u8 0, .int .u8 0, .int .u8 0, .int .u8 0, .int .u8 0, .int .u8 0, .int .u8 0, .int .u8 0, .int .u8 0, .int .u8 0, .int .u8 0] }
def TrydI278 : TI := { size := 4, bytes := 40, k := .struct [(0, 1, false), (1, 1, false), (2, 1, false), (3, 1, false)], zero := [.pointer none, .pointer none, .pointer none, .string ⟨#[]⟩] }
def TrydI279 : TI := { size := 4, bytes := 40, k := .struct [(0, 1, false), (1, 1, false), (2, 1, false), (3, 1, false)], zero := [.pointer none, .pointer none, .pointer none, .string ⟨#[]⟩] }
def TrydI283 : TI := { size := 1, bytes := 1, k := .int .u8, zero := [.int .u8 0] }
def TrydI284 : TI := { size := 1, bytes := 1, k := .int .u8, zero := [.int .u8 0] }
def TrydI285 : TI := { size := 1, bytes := 8, k := .sc, zero := [.nilFunc] }
def TrydI286 : TI := { size := 1, bytes := 4, k := .int .i32, zero := [.int .i32 0] }
def TrydI287 : TI := { size := 1, bytes := 4, k := .int .i32, zero := [.int .i32 0] }
def TrydI288 : TI := { size := 11, bytes := 48, k := .struct [(0, 1, false), (1, 1, false), (2, 1, false), (3, 1, false), (4, 1, false), (5, 1, false), (6, 1, false), (7, 1, false), (8, 1, false), (9, 1, false), (10, 1, false)], zero := [.int .u64 0, .int .u64 0, .int .u32 0, .int .u8 0, .int .u8 0, .int .u8 0, .int .u8 0, .nilFunc, .pointer none, .int .i32 0, .int .i32 0] }
def TrydI289 : TI := { size := 11, bytes := 48, k := .struct [(0, 1, false), (1, 1, false), (2, 1, false), (3, 1, false), (4, 1, false), (5, 1, false), (6, 1, false), (7, 1, false), (8, 1, false), (9, 1, false), (10, 1, false)], zero := [.int .u64 0, .int .u64 0, .int .u32 0, .int .u8 0, .int .u8 0, .int .u8 0, .int .u8 0, .nilFunc, .pointer none, .int .i32 0, .int .i32 0] }
theorem TrydI1_ok : TIok Tryd.prog 1 TrydI1 := tiok Tryd.type1 rfl rfl rfl rfl (by intro h; first | rfl | cases h) ⟨_, Tryd.underlying1, (by intro x h; cases h), (by intro x y h; cases h)⟩ (by decide) rfl (by decide) (.inl rfl)
theorem TrydI2_ok : TIok Tryd.prog 2 TrydI2 := tiok Tryd.type2 rfl rfl rfl rfl (by intro h; first | rfl | cases h) Tryd.underlying2 (by decide) rfl (by decide) (.inl rfl)
theorem TrydI3_ok : TIok Tryd.prog 3 TrydI3 := tiok Tryd.type3 rfl rfl rfl rfl (by intro h; first | rfl | cases h) Tryd.underlying3 (by decide) rfl (by decide) (.inl rfl)
theorem TrydI4_ok : TIok Tryd.prog 4 TrydI4 := tiok Tryd.type4 rfl rfl rfl rfl (by intro h; first | rfl | cases h) Tryd.underlying4 (by decide) rfl (by decide) (.inl rfl)
theorem TrydI5_ok : TIok Tryd.prog 5 TrydI5 := tiok Tryd.type5 rfl rfl rfl rfl (by intro h; first | rfl | cases h) Tryd.underlying5 (by decide) rfl (by decide) (.inl rfl)
theorem TrydI6_ok : TIok Tryd.prog 6 TrydI6 := tiok Tryd.type6 rfl rfl rfl rfl (by intro h; first | rfl | cases h) Tryd.underlying6 (by decide) rfl (by decide) (.inl rfl)
theorem TrydI7_ok : TIok Tryd.prog 7 TrydI7 := tiok Tryd.type7 rfl rfl rfl rfl (by intro h; first | rfl | cases h) (kind_struct Tryd.underlying7 (.cons ⟨rfl, ⟨_, Tryd.type2, rfl⟩, by decide, Tryd.isAgg2⟩ (.cons ⟨rfl, ⟨_, Tryd.type3, rfl⟩, by decide, Tryd.isAgg3⟩ (.cons ⟨rfl, ⟨_, Tryd.type4, rfl⟩, by decide, Tryd.isAgg4⟩ (.cons ⟨rfl, ⟨_, Tryd.type6, rfl⟩, by decide, Tryd.isAgg6⟩ .nil))))) (by decide) rfl (by decide) (.inl rfl)
theorem TrydI8_ok : TIok Tryd.prog 8 TrydI8 := tiok Tryd.type8 rfl rfl rfl rfl (by intro h; first | rfl | cases h) (kind_struct Tryd.underlying8 (.cons ⟨rfl, ⟨_, Tryd.type2, rfl⟩, by decide, Tryd.isAgg2⟩ (.cons ⟨rfl, ⟨_, Tryd.type3, rfl⟩, by decide, Tryd.isAgg3⟩ (.cons ⟨rfl, ⟨_, Tryd.type4, rfl⟩, by decide, Tryd.isAgg4⟩ (.cons ⟨rfl, ⟨_, Tryd.type6, rfl⟩, by decide, Tryd.isAgg6⟩ .nil))))) (by decide) rfl (by decide) (.inl rfl)
theorem TrydI9_ok : TIok Tryd.prog 9 TrydI9 := tiok Tryd.type9 rfl rfl rfl rfl (by intro h; first | rfl | cases h) Tryd.underlying9 (by decide) rfl (by decide) (.inl rfl)
theorem TrydI10_ok : TIok Tryd.prog 10 TrydI10 := tiok Tryd.type10 rfl rfl rfl rfl (by intro h; first | rfl | cases h) Tryd.underlying10 (by decide) rfl (by decide) (.inl rfl)
theorem TrydI11_ok : TIok Tryd.prog 11 TrydI11 := tiok Tryd.type11 rfl rfl rfl rfl (by intro h; first | rfl | cases h) Tryd.underlying11 (by decide) rfl (by decide) (.inl rfl)
theorem TrydI12_ok : TIok Tryd.prog 12 TrydI12 := tiok Tryd.type12 rfl rfl rfl rfl (by intro h; first | rfl | cases h) Tryd.underlying12 (by decide) rfl (by decide) (.inl rfl)
theorem TrydI13_ok : TIok Tryd.prog 13 TrydI13 := tiok Tryd.type13 rfl rfl rfl rfl (by intro h; first | rfl | cases h) (kind_struct Tryd.underlying13 (.cons ⟨rfl, ⟨_, Tryd.type9, rfl⟩, by decide, Tryd.isAgg9⟩ (.cons ⟨rfl, ⟨_, Tryd.type12, rfl⟩, by decide, Tryd.isAgg12⟩ .nil))) (by decide) rfl (by decide) (.inl rfl)
theorem TrydI14_ok : TIok Tryd.prog 14 TrydI14 := tiok Tryd.type14 rfl rfl rfl rfl (by intro h; first | rfl | cases h) (kind_struct Tryd.underlying14 (.cons ⟨rfl, ⟨_, Tryd.type9, rfl⟩, by decide, Tryd.isAgg9⟩ (.cons ⟨rfl, ⟨_, Tryd.type12, rfl⟩, by decide, Tryd.isAgg12⟩ .nil))) (by decide) rfl (by decide) (.inl rfl)
theorem TrydI15_ok : TIok Tryd.prog 15 TrydI15 := tiok Tryd.type15 rfl rfl rfl rfl (by intro h; first | rfl | cases h) Tryd.underlying15 (by decide) rfl (by decide) (.inl rfl)
theorem TrydI16_ok : TIok Tryd.prog 16 TrydI16 := tiok Tryd.type16 rfl rfl rfl rfl (by intro h; first | rfl | cases h) Tryd.underlying16 (by decide) rfl (by decide) (.inl rfl)
theorem TrydI17_ok : TIok Tryd.prog 17 TrydI17 := tiok Tryd.type17 rfl rfl rfl rfl (by intro h; first | rfl | cases h) Tryd.underlying17 (by decide) rfl (by decide) (.inl rfl)
theorem TrydI18_ok : TIok Tryd.prog 18 TrydI18 := tiok Tryd.type18 rfl rfl rfl rfl (by intro h; first | rfl | cases h) (kind_struct Tryd.underlying18 (.cons ⟨rfl, ⟨_, Tryd.type17, rfl⟩, by decide, Tryd.isAgg17⟩ .nil)) (by decide) rfl (by decide) (.inl rfl)
theorem TrydI19_ok : TIok Tryd.prog 19 TrydI19 := tiok Tryd.type19 rfl rfl rfl rfl (by intro h; first | rfl | cases h) (kind_struct Tryd.underlying19 (.cons ⟨rfl, ⟨_, Tryd.type17, rfl⟩, by decide, Tryd.isAgg17⟩ .nil)) (by decide) rfl (by decide) (.inl rfl)
theorem TrydI20_ok : TIok Tryd.prog 20 TrydI20 := tiok Tryd.type20 rfl rfl rfl rfl (by intro h; first | rfl | cases h) ⟨_, Tryd.underlying20, (by intro x h; cases h), (by intro x y h; cases h)⟩ (by decide) rfl (by decide) (.inl rfl)
theorem TrydI21_ok : TIok Tryd.prog 21 TrydI21 := tiok Tryd.type21 rfl rfl rfl rfl (by intro h; first | rfl | cases h) Tryd.underlying21 (by decide) rfl (by decide) (.inl rfl)
theorem TrydI22_ok : TIok Tryd.prog 22 TrydI22 := tiok Tryd.type22 rfl rfl rfl rfl (by intro h; first | rfl | cases h) Tryd.underlying22 (by decide) rfl (by decide) (.inl rfl)
theorem TrydI23_ok : TIok Tryd.prog 23 TrydI23 := tiok Tryd.type23 rfl rfl rfl rfl (by intro h; first | rfl | cases h) Tryd.underlying23 (by decide) rfl (by decide) (.inl rfl)
theorem TrydI24_ok : TIok Tryd.prog 24 TrydI24 := tiok Tryd.type24 rfl rfl rfl rfl (by intro h; first | rfl | cases h) ⟨_, Tryd.underlying24, (by intro x h; cases h), (by intro x y h; cases h)⟩ (by decide) rfl (by decide) (.inl rfl)
theorem TrydI25_ok : TIok Tryd.prog 25 TrydI25 := tiok Tryd.type25 rfl rfl rfl rfl (by intro h; first | rfl | cases h) Tryd.underlying25 (by decide) rfl (by decide) (.inl rfl)
theorem TrydI26_ok : TIok Tryd.prog 26 TrydI26 := tiok Tryd.type26 rfl rfl rfl rfl (by intro h; first | rfl | cases h) ⟨_, Tryd.underlying26, (by intro x h; cases h), (by intro x y h; cases h)⟩ (by decide) rfl (by decide) (.inl rfl)
theorem TrydI27_ok : TIok Tryd.prog 27 TrydI27 := tiok Tryd.type27 rfl rfl rfl rfl (by intro h; first | rfl | cases h) Tryd.underlying27 (by decide) rfl (by decide) (.inl rfl)
theorem TrydI28_ok : TIok Tryd.prog 28 TrydI28 := tiok Tryd.type28 rfl rfl rfl rfl (by intro h; first | rfl | cases h) ⟨_, Tryd.underlying28, (by intro x h; cases h), (by intro x y h; cases h)⟩ (by decide) rfl (by decide) (.inl rfl)
theorem TrydI29_ok : TIok Tryd.prog 29 TrydI29 := tiok Tryd.type29 rfl rfl rfl rfl (by intro h; first | rfl | cases h) Tryd.underlying29 (by decide) rfl (by decide) (.inl rfl)
theorem TrydI30_ok : TIok Tryd.prog 30 TrydI30 := tiok Tryd.type30 rfl rfl rfl rfl (by intro h; first | rfl | cases h) ⟨_, Tryd.underlying30, (by intro x h; cases h), (by intro x y h; cases h)⟩ (by decide) rfl (by decide) (.inl rfl)
theorem TrydI31_ok : TIok Tryd.prog 31 TrydI31 := tiok Tryd.type31 rfl rfl rfl rfl (by intro h; first | rfl | cases h) Tryd.underlying31 (by decide) rfl (by decide) (.inl rfl)
theorem TrydI32_ok : TIok Tryd.prog 32 TrydI32 := tiok Tryd.type32 rfl rfl rfl rfl (by intro h; first | rfl | cases h) Tryd.underlying32 (by decide) rfl (by decide) (.inl rfl)
theorem TrydI34_ok : TIok Tryd.prog 34 TrydI34 := tiok Tryd.type34 rfl rfl rfl rfl (by intro h; first | rfl | cases h) ⟨_, Tryd.underlying34, (by intro x h; cases h), (by intro x y h; cases h)⟩ (by decide) rfl (by decide) (.inl rfl)
theorem TrydI35_ok : TIok Tryd.prog 35 TrydI35 := tiok Tryd.type35 rfl rfl rfl rfl (by intro h; first | rfl | cases h) ⟨_, Tryd.underlying35, (by intro x h; cases h), (by intro x y h; cases h)⟩ (by decide) rfl (by decide) (.inl rfl)
theorem TrydI36_ok : TIok Tryd.prog 36 TrydI36 := tiok Tryd.type36 rfl rfl rfl rfl (by intro h; first | rfl | cases h) ⟨_, Tryd.underlying36, (by intro x h; cases h), (by intro x y h; cases h)⟩ (by decide) rfl (by decide) (.inl rfl)
theorem TrydI37_ok : TIok Tryd.prog 37 TrydI37 := tiok Tryd.type37 rfl rfl rfl rfl (by intro h; first | rfl | cases h) ⟨_, Tryd.underlying37, (by intro x h; cases h), (by intro x y h; cases h)⟩ (by decide) rfl (by decide) (.inl rfl)
theorem TrydI38_ok : TIok Tryd.prog 38 TrydI38 := tiok Tryd.type38 rfl rfl rfl rfl (by intro h; first | rfl | cases h) Tryd.underlying38 (by decide) rfl (by decide) (.inl rfl)
theorem TrydI39_ok : TIok Tryd.prog 39 TrydI39 := tiok Tryd.type39 rfl rfl rfl rfl (by intro h; first | rfl | cases h) Tryd.underlying39 (by decide) rfl (by decide) (.inl rfl)
theorem TrydI40_ok : TIok Tryd.prog 40 TrydI40 := tiok Tryd.type40 rfl rfl rfl rfl (by intro h; first | rfl | cases h) (kind_struct Tryd.underlying40 (.cons ⟨rfl, ⟨_, Tryd.type3, rfl⟩, by decide, Tryd.isAgg3⟩ (.cons ⟨rfl, ⟨_, Tryd.type3, rfl⟩, by decide, Tryd.isAgg3⟩ (.cons ⟨rfl, ⟨_, Tryd.type3, rfl⟩, by decide, Tryd.isAgg3⟩ (.cons ⟨rfl, ⟨_, Tryd.type39, rfl⟩, by decide, Tryd.isAgg39⟩ .nil))))) (by decide) rfl (by decide) (.inl rfl)
theorem TrydI41_ok : TIok Tryd.prog 41 TrydI41 := tiok Tryd.type41 rfl rfl rfl rfl (by intro h; first | rfl | cases h) (kind_struct Tryd.underlying41 (.cons ⟨rfl, ⟨_, Tryd.type3, rfl⟩, by decide, Tryd.isAgg3⟩ (.cons ⟨rfl, ⟨_, Tryd.type3, rfl⟩, by decide, Tryd.isAgg3⟩ (.cons ⟨rfl, ⟨_, Tryd.type3, rfl⟩, by decide, Tryd.isAgg3⟩ (.cons ⟨rfl, ⟨_, Tryd.type39, rfl⟩, by decide, Tryd.isAgg39⟩ .nil))))) (by decide) rfl (by decide) (.inl rfl)
theorem TrydI42_ok : TIok Tryd.prog 42 TrydI42 := tiok Tryd.type42 rfl rfl rfl rfl (by intro h; first | rfl | cases h) ⟨_, Tryd.underlying42, (by intro x h; cases h), (by intro x y h; cases h)⟩ (by decide) rfl (by decide) (.inl rfl)
theorem TrydI44_ok : TIok Tryd.prog 44 TrydI44 := tiok Tryd.type44 rfl rfl rfl rfl (by intro h; first | rfl | cases h) ⟨_, Tryd.underlying44, (by intro x h; cases h), (by intro x y h; cases h)⟩ (by decide) rfl (by decide) (.inl rfl)
theorem TrydI46_ok : TIok Tryd.prog 46 TrydI46 := tiok Tryd.type46 rfl rfl rfl rfl (by intro h; first | rfl | cases h) ⟨_, Tryd.underlying46, (by intro x h; cases h), (by intro x y h; cases h)⟩ (by decide) rfl (by decide) (.inl rfl)
theorem TrydI48_ok : TIok Tryd.prog 48 TrydI48 := tiok Tryd.type48 rfl rfl rfl rfl (by intro h; first | rfl | cases h) ⟨_, Tryd.underlying48, (by intro x h; cases h), (by intro x y h; cases h)⟩ (by decide) rfl (by decide) (.inl rfl)
theorem TrydI50_ok : TIok Tryd.prog 50 TrydI50 := tiok Tryd.type50 rfl rfl rfl rfl (by intro h; first | rfl | cases h) ⟨_, Tryd.underlying50, (by intro x h; cases h), (by intro x y h; cases h)⟩ (by decide) rfl (by decide) (.inl rfl)
theorem TrydI51_ok : TIok Tryd.prog 51 TrydI51 := tiok Tryd.type51 rfl rfl rfl rfl (by intro h; first | rfl | cases h) ⟨_, Tryd.underlying51, (by intro x h; cases h), (by intro x y h; cases h)⟩ (by decide) rfl (by decide) (.inl rfl)
theorem TrydI52_ok : TIok Tryd.prog 52 TrydI52 := tiok Tryd.type52 rfl rfl rfl rfl (by intro h; first | rfl | cases h) ⟨_, Tryd.underlying52, (by intro x h; cases h), (by intro x y h; cases h)⟩ (by decide) rfl (by decide) (.inl rfl)
theorem TrydI53_ok : TIok Tryd.prog 53 TrydI53 := tiok Tryd.type53 rfl rfl rfl rfl (by intro h; first | rfl | cases h) Tryd.underlying53 (by decide) rfl (by decide) (.inl rfl)
theorem TrydI54_ok : TIok Tryd.prog 54 TrydI54 := tiok Tryd.type54 rfl rfl rfl rfl (by intro h; first | rfl | cases h) (kind_struct Tryd.underlying54 (.cons ⟨rfl, ⟨_, Tryd.type53, rfl⟩, by decide, Tryd.isAgg53⟩ (.cons ⟨rfl, ⟨_, Tryd.type53, rfl⟩, by decide, Tryd.isAgg53⟩ .nil))) (by decide) rfl (by decide) (.inl rfl)
theorem TrydI55_ok : TIok Tryd.prog 55 TrydI55 := tiok Tryd.type55 rfl rfl rfl rfl (by intro h; first | rfl | cases h) (kind_struct Tryd.underlying55 (.cons ⟨rfl, ⟨_, Tryd.type53, rfl⟩, by decide, Tryd.isAgg53⟩ (.cons ⟨rfl, ⟨_, Tryd.type53, rfl⟩, by decide, Tryd.isAgg53⟩ .nil))) (by decide) rfl (by decide) (.inl rfl)
theorem TrydI56_ok : TIok Tryd.prog 56 TrydI56 := tiok Tryd.type56 rfl rfl rfl rfl (by intro h; first | rfl | cases h) ⟨_, Tryd.underlying56, (by intro x h; cases h), (by intro x y h; cases h)⟩ (by decide) rfl (by decide) (.inl rfl)
theorem TrydI57_ok : TIok Tryd.prog 57 TrydI57 := tiok Tryd.type57 rfl rfl rfl rfl (by intro h; first | rfl | cases h) (kind_struct Tryd.underlying57 (.cons ⟨rfl, ⟨_, Tryd.type25, rfl⟩, by decide, Tryd.isAgg25⟩ (.cons ⟨rfl, ⟨_, Tryd.type41, rfl⟩, by decide, Tryd.isAgg41⟩ (.cons ⟨rfl, ⟨_, Tryd.type41, rfl⟩, by decide, Tryd.isAgg41⟩ .nil)))) (by decide) rfl (by decide) (.inl rfl)
theorem TrydI58_ok : TIok Tryd.prog 58 TrydI58 := tiok Tryd.type58 rfl rfl rfl rfl (by intro h; first | rfl | cases h) (kind_struct Tryd.underlying58 (.cons ⟨rfl, ⟨_, Tryd.type25, rfl⟩, by decide, Tryd.isAgg25⟩ (.cons ⟨rfl, ⟨_, Tryd.type41, rfl⟩, by decide, Tryd.isAgg41⟩ (.cons ⟨rfl, ⟨_, Tryd.type41, rfl⟩, by decide, Tryd.isAgg41⟩ .nil)))) (by decide) rfl (by decide) (.inl rfl)
theorem TrydI59_ok : TIok Tryd.prog 59 TrydI59 := tiok Tryd.type59 rfl rfl rfl rfl (by intro h; first | rfl | cases h) ⟨_, Tryd.underlying59, (by intro x h; cases h), (by intro x y h; cases h)⟩ (by decide) rfl (by decide) (.inl rfl)
theorem TrydI60_ok : TIok Tryd.prog 60 TrydI60 := tiok Tryd.type60 rfl rfl rfl rfl (by intro h; first | rfl | cases h) (kind_struct Tryd.underlying60 (.cons ⟨rfl, ⟨_, Tryd.type9, rfl⟩, by decide, Tryd.isAgg9⟩ (.cons ⟨rfl, ⟨_, Tryd.type3, rfl⟩, by decide, Tryd.isAgg3⟩ (.cons ⟨rfl, ⟨_, Tryd.type3, rfl⟩, by decide, Tryd.isAgg3⟩ (.cons ⟨rfl, ⟨_, Tryd.type3, rfl⟩, by decide, Tryd.isAgg3⟩ .nil))))) (by decide) rfl (by decide) (.inl rfl)
theorem TrydI61_ok : TIok Tryd.prog 61 TrydI61 := tiok Tryd.type61 rfl rfl rfl rfl (by intro h; first | rfl | cases h) (kind_struct Tryd.underlying61 (.cons ⟨rfl, ⟨_, Tryd.type9, rfl⟩, by decide, Tryd.isAgg9⟩ (.cons ⟨rfl, ⟨_, Tryd.type3, rfl⟩, by decide, Tryd.isAgg3⟩ (.cons ⟨rfl, ⟨_, Tryd.type3, rfl⟩, by decide, Tryd.isAgg3⟩ (.cons ⟨rfl, ⟨_, Tryd.type3, rfl⟩, by decide, Tryd.isAgg3⟩ .nil))))) (by decide) rfl (by decide) (.inr ⟨Tryd.underlying61, by kernel_rfl, Tryd.eqGuardType61, ⟨by decide, rfl, Tryd.underlying9, ⟨by decide, rfl, Tryd.underlying3, ⟨by decide, rfl, Tryd.underlying3, ⟨by decide, rfl, Tryd.underlying3, trivial⟩⟩⟩⟩⟩)
theorem TrydI63_ok : TIok Tryd.prog 63 TrydI63 := tiok Tryd.type63 rfl rfl rfl rfl (by intro h; first | rfl | cases h) ⟨_, Tryd.underlying63, (by intro x h; cases h), (by intro x y h; cases h)⟩ (by decide) rfl (by decide) (.inl rfl)
theorem TrydI65_ok : TIok Tryd.prog 65 TrydI65 := tiok Tryd.type65 rfl rfl rfl rfl (by intro h; first | rfl | cases h) ⟨_, Tryd.underlying65, (by intro x h; cases h), (by intro x y h; cases h)⟩ (by decide) rfl (by decide) (.inl rfl)
theorem TrydI66_ok : TIok Tryd.prog 66 TrydI66 := tiok Tryd.type66 rfl rfl rfl rfl (by intro h; first | rfl | cases h) ⟨_, Tryd.underlying66, (by intro x h; cases h), (by intro x y h; cases h)⟩ (by decide) rfl (by decide) (.inl rfl)
theorem TrydI67_ok : TIok Tryd.prog 67 TrydI67 := tiok Tryd.type67 rfl rfl rfl rfl (by intro h; first | rfl | cases h) ⟨_, Tryd.underlying67, (by intro x h; cases h), (by intro x y h; cases h)⟩ (by decide) rfl (by decide) (.inl rfl)
theorem TrydI69_ok : TIok Tryd.prog 69 TrydI69 := tiok Tryd.type69 rfl rfl rfl rfl (by intro h; first | rfl | cases h) ⟨_, Tryd.underlying69, (by intro x h; cases h), (by intro x y h; cases h)⟩ (by decide) rfl (by decide) (.inl rfl)
theorem TrydI70_ok : TIok Tryd.prog 70 TrydI70 := tiok Tryd.type70 rfl rfl rfl rfl (by intro h; first | rfl | cases h) ⟨_, Tryd.underlying70, (by intro x h; cases h), (by intro x y h; cases h)⟩ (by decide) rfl (by decide) (.inl rfl)
theorem TrydI71_ok : TIok Tryd.prog 71 TrydI71 := tiok Tryd.type71 rfl rfl rfl rfl (by intro h; first | rfl | cases h) Tryd.underlying71 (by decide) rfl (by decide) (.inl rfl)
theorem TrydI72_ok : TIok Tryd.prog 72 TrydI72 := tiok Tryd.type72 rfl rfl rfl rfl (by intro h; first | rfl | cases h) Tryd.underlying72 (by decide) rfl (by decide) (.inl rfl)
theorem TrydI73_ok : TIok Tryd.prog 73 TrydI73 := tiok Tryd.type73 rfl rfl rfl rfl (by intro h; first | rfl | cases h) ⟨_, Tryd.underlying73, (by intro x h; cases h), (by intro x y h; cases h)⟩ (by decide) rfl (by decide) (.inl rfl)
theorem TrydI74_ok : TIok Tryd.prog 74 TrydI74 := tiok Tryd.type74 rfl rfl rfl rfl (by intro h; first | rfl | cases h) Tryd.underlying74 (by decide) rfl (by decide) (.inl rfl)
theorem TrydI76_ok : TIok Tryd.prog 76 TrydI76 := tiok Tryd.type76 rfl rfl rfl rfl (by intro h; first | rfl | cases h) ⟨_, Tryd.underlying76, (by intro x h; cases h), (by intro x y h; cases h)⟩ (by decide) rfl (by decide) (.inl rfl)
theorem TrydI77_ok : TIok Tryd.prog 77 TrydI77 := tiok Tryd.type77 rfl rfl rfl rfl (by intro h; first | rfl | cases h) ⟨_, Tryd.underlying77, (by intro x h; cases h), (by intro x y h; cases h)⟩ (by decide) rfl (by decide) (.inl rfl)
theorem TrydI79_ok : TIok Tryd.prog 79 TrydI79 := tiok Tryd.type79 rfl rfl rfl rfl (by intro h; first | rfl | cases h) ⟨_, Tryd.underlying79, (by intro x h; cases h), (by intro x y h; cases h)⟩ (by decide) rfl (by decide) (.inl rfl)
theorem TrydI80_ok : TIok Tryd.prog 80 TrydI80 := tiok Tryd.type80 rfl rfl rfl rfl (by intro h; first | rfl | cases h) ⟨_, Tryd.underlying80, (by intro x h; cases h), (by intro x y h; cases h)⟩ (by decide) rfl (by decide) (.inl rfl)
theorem TrydI82_ok : TIok Tryd.prog 82 TrydI82 := tiok Tryd.type82 rfl rfl rfl rfl (by intro h; first | rfl | cases h) ⟨_, Tryd.underlying82, (by intro x h; cases h), (by intro x y h; cases h)⟩ (by decide) rfl (by decide) (.inl rfl)
theorem TrydI83_ok : TIok Tryd.prog 83 TrydI83 := tiok Tryd.type83 rfl rfl rfl rfl (by intro h; first | rfl | cases h) ⟨_, Tryd.underlying83, (by intro x h; cases h), (by intro x y h; cases h)⟩ (by decide) rfl (by decide) (.inl rfl)
theorem TrydI84_ok : TIok Tryd.prog 84 TrydI84 := tiok Tryd.type84 rfl rfl rfl rfl (by intro h; first | rfl | cases h) ⟨_, Tryd.underlying84, (by intro x h; cases h), (by intro x y h; cases h)⟩ (by decide) rfl (by decide) (.inl rfl)
theorem TrydI85_ok : TIok Tryd.prog 85 TrydI85 := tiok Tryd.type85 rfl rfl rfl rfl (by intro h; first | rfl | cases h) ⟨_, Tryd.underlying85, (by intro x h; cases h), (by intro x y h; cases h)⟩ (by decide) rfl (by decide) (.inl rfl)
theorem TrydI86_ok : TIok Tryd.prog 86 TrydI86 := tiok Tryd.type86 rfl rfl rfl rfl (by intro h; first | rfl | cases h) ⟨_, Tryd.underlying86, (by intro x h; cases h), (by intro x y h; cases h)⟩ (by decide) rfl (by decide) (.inl rfl)
theorem TrydI87_ok : TIok Tryd.prog 87 TrydI87 := tiok Tryd.type87 rfl rfl rfl rfl (by intro h; first | rfl | cases h) Tryd.underlying87 (by decide) rfl (by decide) (.inl rfl)
theorem TrydI88_ok : TIok Tryd.prog 88 TrydI88 := tiok Tryd.type88 rfl rfl rfl rfl (by intro h; first | rfl | cases h) (kind_struct Tryd.underlying88 (.cons ⟨rfl, ⟨_, Tryd.type87, rfl⟩, by decide, Tryd.isAgg87⟩ (.cons ⟨rfl, ⟨_, Tryd.type23, rfl⟩, by decide, Tryd.isAgg23⟩ .nil))) (by decide) rfl (by decide) (.inl rfl)
theorem TrydI89_ok : TIok Tryd.prog 89 TrydI89 := tiok Tryd.type89 rfl rfl rfl rfl (by intro h; first | rfl | cases h) (kind_struct Tryd.underlying89 (.cons ⟨rfl, ⟨_, Tryd.type87, rfl⟩, by decide, Tryd.isAgg87⟩ (.cons ⟨rfl, ⟨_, Tryd.type23, rfl⟩, by decide, Tryd.isAgg23⟩ .nil))) (by decide) rfl (by decide) (.inl rfl)
theorem TrydI90_ok : TIok Tryd.prog 90 TrydI90 := tiok Tryd.type90 rfl rfl rfl rfl (by intro h; first | rfl | cases h) Tryd.underlying90 (by decide) rfl (by decide) (.inl rfl)
theorem TrydI91_ok : TIok Tryd.prog 91 TrydI91 := tiok Tryd.type91 rfl rfl rfl rfl (by intro h; first | rfl | cases h) ⟨_, Tryd.underlying91, (by intro x h; cases h), (by intro x y h; cases h)⟩ (by decide) rfl (by decide) (.inl rfl)
theorem TrydI92_ok : TIok Tryd.prog 92 TrydI92 := tiok Tryd.type92 rfl rfl rfl rfl (by intro h; first | rfl | cases h) ⟨_, Tryd.underlying92, (by intro x h; cases h), (by intro x y h; cases h)⟩ (by decide) rfl (by decide) (.inl rfl)
theorem TrydI93_ok : TIok Tryd.prog 93 TrydI93 := tiok Tryd.type93 rfl rfl rfl rfl (by intro h; first | rfl | cases h) ⟨_, Tryd.underlying93, (by intro x h; cases h), (by intro x y h; cases h)⟩ (by decide) rfl (by decide) (.inl rfl)
theorem TrydI94_ok : TIok Tryd.prog 94 TrydI94 := tiok Tryd.type94 rfl rfl rfl rfl (by intro h; first | rfl | cases h) (kind_struct Tryd.underlying94 (.cons ⟨rfl, ⟨_, Tryd.type3, rfl⟩, by decide, Tryd.isAgg3⟩ (.cons ⟨rfl, ⟨_, Tryd.type41, rfl⟩, by decide, Tryd.isAgg41⟩ .nil))) (by decide) rfl (by decide) (.inl rfl)
theorem TrydI95_ok : TIok Tryd.prog 95 TrydI95 := tiok Tryd.type95 rfl rfl rfl rfl (by intro h; first | rfl | cases h) (kind_struct Tryd.underlying95 (.cons ⟨rfl, ⟨_, Tryd.type3, rfl⟩, by decide, Tryd.isAgg3⟩ (.cons ⟨rfl, ⟨_, Tryd.type41, rfl⟩, by decide, Tryd.isAgg41⟩ .nil))) (by decide) rfl (by decide) (.inl rfl)
theorem TrydI96_ok : TIok Tryd.prog 96 TrydI96 := tiok Tryd.type96 rfl rfl rfl rfl (by intro h; first | rfl | cases h) ⟨_, Tryd.underlying96, (by intro x h; cases h), (by intro x y h; cases h)⟩ (by decide) rfl (by decide) (.inl rfl)
theorem TrydI97_ok : TIok Tryd.prog 97 TrydI97 := tiok Tryd.type97 rfl rfl rfl rfl (by intro h; first | rfl | cases h) Tryd.underlying97 (by decide) rfl (by decide) (.inl rfl)
theorem TrydI98_ok : TIok Tryd.prog 98 TrydI98 := tiok Tryd.type98 rfl rfl rfl rfl (by intro h; first | rfl | cases h) (kind_struct Tryd.underlying98 (.cons ⟨rfl, ⟨_, Tryd.type5, rfl⟩, by decide, Tryd.isAgg5⟩ (.cons ⟨rfl, ⟨_, Tryd.type5, rfl⟩, by decide, Tryd.isAgg5⟩ (.cons ⟨rfl, ⟨_, Tryd.type22, rfl⟩, by decide, Tryd.isAgg22⟩ (.cons ⟨rfl, ⟨_, Tryd.type97, rfl⟩, by decide, Tryd.isAgg97⟩ .nil))))) (by decide) rfl (by decide) (.inl rfl)
theorem TrydI99_ok : TIok Tryd.prog 99 TrydI99 := tiok Tryd.type99 rfl rfl rfl rfl (by intro h; first | rfl | cases h) (kind_struct Tryd.underlying99 (.cons ⟨rfl, ⟨_, Tryd.type5, rfl⟩, by decide, Tryd.isAgg5⟩ (.cons ⟨rfl, ⟨_, Tryd.type5, rfl⟩, by decide, Tryd.isAgg5⟩ (.cons ⟨rfl, ⟨_, Tryd.type22, rfl⟩, by decide, Tryd.isAgg22⟩ (.cons ⟨rfl, ⟨_, Tryd.type97, rfl⟩, by decide, Tryd.isAgg97⟩ .nil))))) (by decide) rfl (by decide) (.inl rfl)
theorem TrydI100_ok : TIok Tryd.prog 100 TrydI100 := tiok Tryd.type100 rfl rfl rfl rfl (by intro h; first | rfl | cases h) Tryd.underlying100 (by decide) rfl (by decide) (.inl rfl)
theorem TrydI101_ok : TIok Tryd.prog 101 TrydI101 := tiok Tryd.type101 rfl rfl rfl rfl (by intro h; first | rfl | cases h) (kind_struct Tryd.underlying101 (.cons ⟨rfl, ⟨_, Tryd.type53, rfl⟩, by decide, Tryd.isAgg53⟩ (.cons ⟨rfl, ⟨_, Tryd.type3, rfl⟩, by decide, Tryd.isAgg3⟩ (.cons ⟨rfl, ⟨_, Tryd.type3, rfl⟩, by decide, Tryd.isAgg3⟩ (.cons ⟨rfl, ⟨_, Tryd.type53, rfl⟩, by decide, Tryd.isAgg53⟩ (.cons ⟨rfl, ⟨_, Tryd.type25, rfl⟩, by decide, Tryd.isAgg25⟩ (.cons ⟨rfl, ⟨_, Tryd.type100, rfl⟩, by decide, Tryd.isAgg100⟩ .nil))))))) (by decide) rfl (by decide) (.inl rfl)
theorem TrydI102_ok : TIok Tryd.prog 102 TrydI102 := tiok Tryd.type102 rfl rfl rfl rfl (by intro h; first | rfl | cases h) (kind_struct Tryd.underlying102 (.cons ⟨rfl, ⟨_, Tryd.type53, rfl⟩, by decide, Tryd.isAgg53⟩ (.cons ⟨rfl, ⟨_, Tryd.type3, rfl⟩, by decide, Tryd.isAgg3⟩ (.cons ⟨rfl, ⟨_, Tryd.type3, rfl⟩, by decide, Tryd.isAgg3⟩ (.cons ⟨rfl, ⟨_, Tryd.type53, rfl⟩, by decide, Tryd.isAgg53⟩ (.cons ⟨rfl, ⟨_, Tryd.type25, rfl⟩, by decide, Tryd.isAgg25⟩ (.cons ⟨rfl, ⟨_, Tryd.type100, rfl⟩, by decide, Tryd.isAgg100⟩ .nil))))))) (by decide) rfl (by decide) (.inl rfl)
theorem TrydI103_ok : TIok Tryd.prog 103 TrydI103 := tiok Tryd.type103 rfl rfl rfl rfl (by intro h; first | rfl | cases h) ⟨_, Tryd.underlying103, (by intro x h; cases h), (by intro x y h; cases h)⟩ (by decide) rfl (by decide) (.inl rfl)
theorem TrydI104_ok : TIok Tryd.prog 104 TrydI104 := tiok Tryd.type104 rfl rfl rfl rfl (by intro h; first | rfl | cases h) Tryd.underlying104 (by decide) rfl (by decide) (.inl rfl)
theorem TrydI105_ok : TIok Tryd.prog 105 TrydI105 := tiok Tryd.type105 rfl rfl rfl rfl (by intro h; first | rfl | cases h) (kind_struct Tryd.underlying105 (.cons ⟨rfl, ⟨_, Tryd.type53, rfl⟩, by decide, Tryd.isAgg53⟩ (.cons ⟨rfl, ⟨_, Tryd.type3, rfl⟩, by decide, Tryd.isAgg3⟩ (.cons ⟨rfl, ⟨_, Tryd.type53, rfl⟩, by decide, Tryd.isAgg53⟩ (.cons ⟨rfl, ⟨_, Tryd.type104, rfl⟩, by decide, Tryd.isAgg104⟩ .nil))))) (by decide) rfl (by decide) (.inl rfl)
theorem TrydI106_ok : TIok Tryd.prog 106 TrydI106 := tiok Tryd.type106 rfl rfl rfl rfl (by intro h; first | rfl | cases h) (kind_struct Tryd.underlying106 (.cons ⟨rfl, ⟨_, Tryd.type53, rfl⟩, by decide, Tryd.isAgg53⟩ (.cons ⟨rfl, ⟨_, Tryd.type3, rfl⟩, by decide, Tryd.isAgg3⟩ (.cons ⟨rfl, ⟨_, Tryd.type53, rfl⟩, by decide, Tryd.isAgg53⟩ (.cons ⟨rfl, ⟨_, Tryd.type104, rfl⟩, by decide, Tryd.isAgg104⟩ .nil))))) (by decide) rfl (by decide) (.inl rfl)
theorem TrydI107_ok : TIok Tryd.prog 107 TrydI107 := tiok Tryd.type107 rfl rfl rfl rfl (by intro h; first | rfl | cases h) Tryd.underlying107 (by decide) rfl (by decide) (.inl rfl)
theorem TrydI109_ok : TIok Tryd.prog 109 TrydI109 := tiok Tryd.type109 rfl rfl rfl rfl (by intro h; first | rfl | cases h) ⟨_, Tryd.underlying109, (by intro x h; cases h), (by intro x y h; cases h)⟩ (by decide) rfl (by decide) (.inl rfl)
theorem TrydI110_ok : TIok Tryd.prog 110 TrydI110 := tiok Tryd.type110 rfl rfl rfl rfl (by intro h; first | rfl | cases h) (kind_struct Tryd.underlying110 (.cons ⟨rfl, ⟨_, Tryd.type3, rfl⟩, by decide, Tryd.isAgg3⟩ (.cons ⟨rfl, ⟨_, Tryd.type53, rfl⟩, by decide, Tryd.isAgg53⟩ .nil))) (by decide) rfl (by decide) (.inl rfl)
theorem TrydI111_ok : TIok Tryd.prog 111 TrydI111 := tiok Tryd.type111 rfl rfl rfl rfl (by intro h; first | rfl | cases h) (kind_struct Tryd.underlying111 (.cons ⟨rfl, ⟨_, Tryd.type3, rfl⟩, by decide, Tryd.isAgg3⟩ (.cons ⟨rfl, ⟨_, Tryd.type53, rfl⟩, by decide, Tryd.isAgg53⟩ .nil))) (by decide) rfl (by decide) (.inl rfl)
theorem TrydI113_ok : TIok Tryd.prog 113 TrydI113 := tiok Tryd.type113 rfl rfl rfl rfl (by intro h; first | rfl | cases h) ⟨_, Tryd.underlying113, (by intro x h; cases h), (by intro x y h; cases h)⟩ (by decide) rfl (by decide) (.inl rfl)
theorem TrydI115_ok : TIok Tryd.prog 115 TrydI115 := tiok Tryd.type115 rfl rfl rfl rfl (by intro h; first | rfl | cases h) ⟨_, Tryd.underlying115, (by intro x h; cases h), (by intro x y h; cases h)⟩ (by decide) rfl (by decide) (.inl rfl)
theorem TrydI116_ok : TIok Tryd.prog 116 TrydI116 := tiok Tryd.type116 rfl rfl rfl rfl (by intro h; first | rfl | cases h) ⟨_, Tryd.underlying116, (by intro x h; cases h), (by intro x y h; cases h)⟩ (by decide) rfl (by decide) (.inl rfl)
theorem TrydI117_ok : TIok Tryd.prog 117 TrydI117 := tiok Tryd.type117 rfl rfl rfl rfl (by intro h; first | rfl | cases h) ⟨_, Tryd.underlying117, (by intro x h; cases h), (by intro x y h; cases h)⟩ (by decide) rfl (by decide) (.inl rfl)
theorem TrydI119_ok : TIok Tryd.prog 119 TrydI119 := tiok Tryd.type119 rfl rfl rfl rfl (by intro h; first | rfl | cases h) ⟨_, Tryd.underlying119, (by intro x h; cases h), (by intro x y h; cases h)⟩ (by decide) rfl (by decide) (.inl rfl)
theorem TrydI120_ok : TIok Tryd.prog 120 TrydI120 := tiok Tryd.type120 rfl rfl rfl rfl (by intro h; first | rfl | cases h) ⟨_, Tryd.underlying120, (by intro x h; cases h), (by intro x y h; cases h)⟩ (by decide) rfl (by decide) (.inl rfl)
theorem TrydI121_ok : TIok Tryd.prog 121 TrydI121 := tiok Tryd.type121 rfl rfl rfl rfl (by intro h; first | rfl | cases h) (kind_struct Tryd.underlying121 (.cons ⟨rfl, ⟨_, Tryd.type3, rfl⟩, by decide, Tryd.isAgg3⟩ (.cons ⟨rfl, ⟨_, Tryd.type3, rfl⟩, by decide, Tryd.isAgg3⟩ (.cons ⟨rfl, ⟨_, Tryd.type3, rfl⟩, by decide, Tryd.isAgg3⟩ (.cons ⟨rfl, ⟨_, Tryd.type41, rfl⟩, by decide, Tryd.isAgg41⟩ (.cons ⟨rfl, ⟨_, Tryd.type90, rfl⟩, by decide, Tryd.isAgg90⟩ .nil)))))) (by decide) rfl (by decide) (.inl rfl)
theorem TrydI122_ok : TIok Tryd.prog 122 TrydI122 := tiok Tryd.type122 rfl rfl rfl rfl (by intro h; first | rfl | cases h) (kind_struct Tryd.underlying122 (.cons ⟨rfl, ⟨_, Tryd.type3, rfl⟩, by decide, Tryd.isAgg3⟩ (.cons ⟨rfl, ⟨_, Tryd.type3, rfl⟩, by decide, Tryd.isAgg3⟩ (.cons ⟨rfl, ⟨_, Tryd.type3, rfl⟩, by decide, Tryd.isAgg3⟩ (.cons ⟨rfl, ⟨_, Tryd.type41, rfl⟩, by decide, Tryd.isAgg41⟩ (.cons ⟨rfl, ⟨_, Tryd.type90, rfl⟩, by decide, Tryd.isAgg90⟩ .nil)))))) (by decide) rfl (by decide) (.inl rfl)
theorem TrydI123_ok : TIok Tryd.prog 123 TrydI123 := tiok Tryd.type123 rfl rfl rfl rfl (by intro h; first | rfl | cases h) (kind_struct Tryd.underlying123 (.cons ⟨rfl, ⟨_, Tryd.type3, rfl⟩, by decide, Tryd.isAgg3⟩ (.cons ⟨rfl, ⟨_, Tryd.type3, rfl⟩, by decide, Tryd.isAgg3⟩ (.cons ⟨rfl, ⟨_, Tryd.type3, rfl⟩, by decide, Tryd.isAgg3⟩ .nil)))) (by decide) rfl (by decide) (.inl rfl)
theorem TrydI124_ok : TIok Tryd.prog 124 TrydI124 := tiok Tryd.type124 rfl rfl rfl rfl (by intro h; first | rfl | cases h) (kind_struct Tryd.underlying124 (.cons ⟨rfl, ⟨_, Tryd.type3, rfl⟩, by decide, Tryd.isAgg3⟩ (.cons ⟨rfl, ⟨_, Tryd.type3, rfl⟩, by decide, Tryd.isAgg3⟩ (.cons ⟨rfl, ⟨_, Tryd.type3, rfl⟩, by decide, Tryd.isAgg3⟩ .nil)))) (by decide) rfl (by decide) (.inr ⟨Tryd.underlying124, by kernel_rfl, Tryd.eqGuardType124, ⟨by decide, rfl, Tryd.underlying3, ⟨by decide, rfl, Tryd.underlying3, ⟨by decide, rfl, Tryd.underlying3, trivial⟩⟩⟩⟩)
theorem TrydI125_ok : TIok Tryd.prog 125 TrydI125 := tiok Tryd.type125 rfl rfl rfl rfl (by intro h; first | rfl | cases h) ⟨_, Tryd.underlying125, (by intro x h; cases h), (by intro x y h; cases h)⟩ (by decide) rfl (by decide) (.inl rfl)
theorem TrydI126_ok : TIok Tryd.prog 126 TrydI126 := tiok Tryd.type126 rfl rfl rfl rfl (by intro h; first | rfl | cases h) ⟨_, Tryd.underlying126, (by intro x h; cases h), (by intro x y h; cases h)⟩ (by decide) rfl (by decide) (.inl rfl)
theorem TrydI127_ok : TIok Tryd.prog 127 TrydI127 := tiok Tryd.type127 rfl rfl rfl rfl (by intro h; first | rfl | cases h) ⟨_, Tryd.underlying127, (by intro x h; cases h), (by intro x y h; cases h)⟩ (by decide) rfl (by decide) (.inl rfl)
theorem TrydI128_ok : TIok Tryd.prog 128 TrydI128 := tiok Tryd.type128 rfl rfl rfl rfl (by intro h; first | rfl | cases h) ⟨_, Tryd.underlying128, (by intro x h; cases h), (by intro x y h; cases h)⟩ (by decide) rfl (by decide) (.inl rfl)
theorem TrydI129_ok : TIok Tryd.prog 129 TrydI129 := tiok Tryd.type129 rfl rfl rfl rfl (by intro h; first | rfl | cases h) ⟨_, Tryd.underlying129, (by intro x h; cases h), (by intro x y h; cases h)⟩ (by decide) rfl (by decide) (.inl rfl)
theorem TrydI130_ok : TIok Tryd.prog 130 TrydI130 := tiok Tryd.type130 rfl rfl rfl rfl (by intro h; first | rfl | cases h) ⟨_, Tryd.underlying130, (by intro x h; cases h), (by intro x y h; cases h)⟩ (by decide) rfl (by decide) (.inl rfl)
theorem TrydI132_ok : TIok Tryd.prog 132 TrydI132 := tiok Tryd.type132 rfl rfl rfl rfl (by intro h; first | rfl | cases h) ⟨_, Tryd.underlying132, (by intro x h; cases h), (by intro x y h; cases h)⟩ (by decide) rfl (by decide) (.inl rfl)
theorem TrydI134_ok : TIok Tryd.prog 134 TrydI134 := tiok Tryd.type134 rfl rfl rfl rfl (by intro h; first | rfl | cases h) ⟨_, Tryd.underlying134, (by intro x h; cases h), (by intro x y h; cases h)⟩ (by decide) rfl (by decide) (.inl rfl)
theorem TrydI136_ok : TIok Tryd.prog 136 TrydI136 := tiok Tryd.type136 rfl rfl rfl rfl (by intro h; first | rfl | cases h) ⟨_, Tryd.underlying136, (by intro x h; cases h), (by intro x y h; cases h)⟩ (by decide) rfl (by decide) (.inl rfl)
theorem TrydI137_ok : TIok Tryd.prog 137 TrydI137 := tiok Tryd.type137 rfl rfl rfl rfl (by intro h; first | rfl | cases h) ⟨_, Tryd.underlying137, (by intro x h; cases h), (by intro x y h; cases h)⟩ (by decide) rfl (by decide) (.inl rfl)
theorem TrydI138_ok : TIok Tryd.prog 138 TrydI138 := tiok Tryd.type138 rfl rfl rfl rfl (by intro h; first | rfl | cases h) ⟨_, Tryd.underlying138, (by intro x h; cases h), (by intro x y h; cases h)⟩ (by decide) rfl (by decide) (.inl rfl)
theorem TrydI139_ok : TIok Tryd.prog 139 TrydI139 := tiok Tryd.type139 rfl rfl rfl rfl (by intro h; first | rfl | cases h) ⟨_, Tryd.underlying139, (by intro x h; cases h), (by intro x y h; cases h)⟩ (by decide) rfl (by decide) (.inl rfl)
theorem TrydI140_ok : TIok Tryd.prog 140 TrydI140 := tiok Tryd.type140 rfl rfl rfl rfl (by intro h; first | rfl | cases h) ⟨_, Tryd.underlying140, (by intro x h; cases h), (by intro x y h; cases h)⟩ (by decide) rfl (by decide) (.inl rfl)
theorem TrydI141_ok : TIok Tryd.prog 141 TrydI141 := tiok Tryd.type141 rfl rfl rfl rfl (by intro h; first | rfl | cases h) ⟨_, Tryd.underlying141, (by intro x h; cases h), (by intro x y h; cases h)⟩ (by decide) rfl (by decide) (.inl rfl)
theorem TrydI142_ok : TIok Tryd.prog 142 TrydI142 := tiok Tryd.type142 rfl rfl rfl rfl (by intro h; first | rfl | cases h) ⟨_, Tryd.underlying142, (by intro x h; cases h), (by intro x y h; cases h)⟩ (by decide) rfl (by decide) (.inl rfl)
theorem TrydI143_ok : TIok Tryd.prog 143 TrydI143 := tiok Tryd.type143 rfl rfl rfl rfl (by intro h; first | rfl | cases h) Tryd.underlying143 (by decide) rfl (by decide) (.inl rfl)
theorem TrydI144_ok : TIok Tryd.prog 144 TrydI144 := tiok Tryd.type144 rfl rfl rfl rfl (by intro h; first | rfl | cases h) Tryd.underlying144 (by decide) rfl (by decide) (.inl rfl)
theorem TrydI145_ok : TIok Tryd.prog 145 TrydI145 := tiok Tryd.type145 rfl rfl rfl rfl (by intro h; first | rfl | cases h) ⟨_, Tryd.underlying145, (by intro x h; cases h), (by intro x y h; cases h)⟩ (by decide) rfl (by decide) (.inl rfl)
theorem TrydI146_ok : TIok Tryd.prog 146 TrydI146 := tiok Tryd.type146 rfl rfl rfl rfl (by intro h; first | rfl | cases h) ⟨_, Tryd.underlying146, (by intro x h; cases h), (by intro x y h; cases h)⟩ (by decide) rfl (by decide) (.inl rfl)
theorem TrydI147_ok : TIok Tryd.prog 147 TrydI147 := tiok Tryd.type147 rfl rfl rfl rfl (by intro h; first | rfl | cases h) ⟨_, Tryd.underlying147, (by intro x h; cases h), (by intro x y h; cases h)⟩ (by decide) rfl (by decide) (.inl rfl)
theorem TrydI148_ok : TIok Tryd.prog 148 TrydI148 := tiok Tryd.type148 rfl rfl rfl rfl (by intro h; first | rfl | cases h) Tryd.underlying148 (by decide) rfl (by decide) (.inl rfl)
theorem TrydI149_ok : TIok Tryd.prog 149 TrydI149 := tiok Tryd.type149 rfl rfl rfl rfl (by intro h; first | rfl | cases h) (kind_struct Tryd.underlying149 (.cons ⟨rfl, ⟨_, Tryd.type38, rfl⟩, by decide, Tryd.isAgg38⟩ (.cons ⟨rfl, ⟨_, Tryd.type3, rfl⟩, by decide, Tryd.isAgg3⟩ (.cons ⟨rfl, ⟨_, Tryd.type3, rfl⟩, by decide, Tryd.isAgg3⟩ .nil)))) (by decide) rfl (by decide) (.inl rfl)
theorem TrydI150_ok : TIok Tryd.prog 150 TrydI150 := tiok Tryd.type150 rfl rfl rfl rfl (by intro h; first | rfl | cases h) (kind_struct Tryd.underlying150 (.cons ⟨rfl, ⟨_, Tryd.type38, rfl⟩, by decide, Tryd.isAgg38⟩ (.cons ⟨rfl, ⟨_, Tryd.type3, rfl⟩, by decide, Tryd.isAgg3⟩ (.cons ⟨rfl, ⟨_, Tryd.type3, rfl⟩, by decide, Tryd.isAgg3⟩ .nil)))) (by decide) rfl (by decide) (.inl rfl)
theorem TrydI151_ok : TIok Tryd.prog 151 TrydI151 := tiok Tryd.type151 rfl rfl rfl rfl (by intro h; first | rfl | cases h) ⟨_, Tryd.underlying151, (by intro x h; cases h), (by intro x y h; cases h)⟩ (by decide) rfl (by decide) (.inl rfl)
theorem TrydI152_ok : TIok Tryd.prog 152 TrydI152 := tiok Tryd.type152 rfl rfl rfl rfl (by intro h; first | rfl | cases h) ⟨_, Tryd.underlying152, (by intro x h; cases h), (by intro x y h; cases h)⟩ (by decide) rfl (by decide) (.inl rfl)
theorem TrydI153_ok : TIok Tryd.prog 153 TrydI153 := tiok Tryd.type153 rfl rfl rfl rfl (by intro h; first | rfl | cases h) ⟨_, Tryd.underlying153, (by intro x h; cases h), (by intro x y h; cases h)⟩ (by decide) rfl (by decide) (.inl rfl)
theorem TrydI154_ok : TIok Tryd.prog 154 TrydI154 := tiok Tryd.type154 rfl rfl rfl rfl (by intro h; first | rfl | cases h) ⟨_, Tryd.underlying154, (by intro x h; cases h), (by intro x y h; cases h)⟩ (by decide) rfl (by decide) (.inl rfl)
theorem TrydI155_ok : TIok Tryd.prog 155 TrydI155 := tiok Tryd.type155 rfl rfl rfl rfl (by intro h; first | rfl | cases h) Tryd.underlying155 (by decide) rfl (by decide) (.inl rfl)
theorem TrydI156_ok : TIok Tryd.prog 156 TrydI156 := tiok Tryd.type156 rfl rfl rfl rfl (by intro h; first | rfl | cases h) ⟨_, Tryd.underlying156, (by intro x h; cases h), (by intro x y h; cases h)⟩ (by decide) rfl (by decide) (.inl rfl)
theorem TrydI157_ok : TIok Tryd.prog 157 TrydI157 := tiok Tryd.type157 rfl rfl rfl rfl (by intro h; first | rfl | cases h) ⟨_, Tryd.underlying157, (by intro x h; cases h), (by intro x y h; cases h)⟩ (by decide) rfl (by decide) (.inl rfl)
theorem TrydI158_ok : TIok Tryd.prog 158 TrydI158 := tiok Tryd.type158 rfl rfl rfl rfl (by intro h; first | rfl | cases h) ⟨_, Tryd.underlying158, (by intro x h; cases h), (by intro x y h; cases h)⟩ (by decide) rfl (by decide) (.inl rfl)
theorem TrydI159_ok : TIok Tryd.prog 159 TrydI159 := tiok Tryd.type159 rfl rfl rfl rfl (by intro h; first | rfl | cases h) ⟨_, Tryd.underlying159, (by intro x h; cases h), (by intro x y h; cases h)⟩ (by decide) rfl (by decide) (.inl rfl)
theorem TrydI160_ok : TIok Tryd.prog 160 TrydI160 := tiok Tryd.type160 rfl rfl rfl rfl (by intro h; first | rfl | cases h) ⟨_, Tryd.underlying160, (by intro x h; cases h), (by intro x y h; cases h)⟩ (by decide) rfl (by decide) (.inl rfl)
theorem TrydI161_ok : TIok Tryd.prog 161 TrydI161 := tiok Tryd.type161 rfl rfl rfl rfl (by intro h; first | rfl | cases h) ⟨_, Tryd.underlying161, (by intro x h; cases h), (by intro x y h; cases h)⟩ (by decide) rfl (by decide) (.inl rfl)
theorem TrydI162_ok : TIok Tryd.prog 162 TrydI162 := tiok Tryd.type162 rfl rfl rfl rfl (by intro h; first | rfl | cases h) Tryd.underlying162 (by decide) rfl (by decide) (.inl rfl)
theorem TrydI163_ok : TIok Tryd.prog 163 TrydI163 := tiok Tryd.type163 rfl rfl rfl rfl (by intro h; first | rfl | cases h) Tryd.underlying163 (by decide) rfl (by decide) (.inl rfl)
theorem TrydI164_ok : TIok Tryd.prog 164 TrydI164 := tiok Tryd.type164 rfl rfl rfl rfl (by intro h; first | rfl | cases h) ⟨_, Tryd.underlying164, (by intro x h; cases h), (by intro x y h; cases h)⟩ (by decide) rfl (by decide) (.inl rfl)
theorem TrydI165_ok : TIok Tryd.prog 165 TrydI165 := tiok Tryd.type165 rfl rfl rfl rfl (by intro h; first | rfl | cases h) ⟨_, Tryd.underlying165, (by intro x h; cases h), (by intro x y h; cases h)⟩ (by decide) rfl (by decide) (.inl rfl)
theorem TrydI166_ok : TIok Tryd.prog 166 TrydI166 := tiok Tryd.type166 rfl rfl rfl rfl (by intro h; first | rfl | cases h) Tryd.underlying166 (by decide) rfl (by decide) (.inl rfl)
theorem TrydI167_ok : TIok Tryd.prog 167 TrydI167 := tiok Tryd.type167 rfl rfl rfl rfl (by intro h; first | rfl | cases h) (kind_struct Tryd.underlying167 (.cons ⟨rfl, ⟨_, Tryd.type166, rfl⟩, by decide, Tryd.isAgg166⟩ (.cons ⟨rfl, ⟨_, Tryd.type38, rfl⟩, by decide, Tryd.isAgg38⟩ .nil))) (by decide) rfl (by decide) (.inl rfl)
theorem TrydI168_ok : TIok Tryd.prog 168 TrydI168 := tiok Tryd.type168 rfl rfl rfl rfl (by intro h; first | rfl | cases h) (kind_struct Tryd.underlying168 (.cons ⟨rfl, ⟨_, Tryd.type166, rfl⟩, by decide, Tryd.isAgg166⟩ (.cons ⟨rfl, ⟨_, Tryd.type38, rfl⟩, by decide, Tryd.isAgg38⟩ .nil))) (by decide) rfl (by decide) (.inl rfl)
theorem TrydI169_ok : TIok Tryd.prog 169 TrydI169 := tiok Tryd.type169 rfl rfl rfl rfl (by intro h; first | rfl | cases h) ⟨_, Tryd.underlying169, (by intro x h; cases h), (by intro x y h; cases h)⟩ (by decide) rfl (by decide) (.inl rfl)
theorem TrydI170_ok : TIok Tryd.prog 170 TrydI170 := tiok Tryd.type170 rfl rfl rfl rfl (by intro h; first | rfl | cases h) ⟨_, Tryd.underlying170, (by intro x h; cases h), (by intro x y h; cases h)⟩ (by decide) rfl (by decide) (.inl rfl)
theorem TrydI172_ok : TIok Tryd.prog 172 TrydI172 := tiok Tryd.type172 rfl rfl rfl rfl (by intro h; first | rfl | cases h) ⟨_, Tryd.underlying172, (by intro x h; cases h), (by intro x y h; cases h)⟩ (by decide) rfl (by decide) (.inl rfl)
theorem TrydI173_ok : TIok Tryd.prog 173 TrydI173 := tiok Tryd.type173 rfl rfl rfl rfl (by intro h; first | rfl | cases h) Tryd.underlying173 (by decide) rfl (by decide) (.inl rfl)
theorem TrydI174_ok : TIok Tryd.prog 174 TrydI174 := tiok Tryd.type174 rfl rfl rfl rfl (by intro h; first | rfl | cases h) ⟨_, Tryd.underlying174, (by intro x h; cases h), (by intro x y h; cases h)⟩ (by decide) rfl (by decide) (.inl rfl)
theorem TrydI175_ok : TIok Tryd.prog 175 TrydI175 := tiok Tryd.type175 rfl rfl rfl rfl (by intro h; first | rfl | cases h) (kind_struct Tryd.underlying175 (.cons ⟨rfl, ⟨_, Tryd.type3, rfl⟩, by decide, Tryd.isAgg3⟩ (.cons ⟨rfl, ⟨_, Tryd.type3, rfl⟩, by decide, Tryd.isAgg3⟩ (.cons ⟨rfl, ⟨_, Tryd.type3, rfl⟩, by decide, Tryd.isAgg3⟩ (.cons ⟨rfl, ⟨_, Tryd.type4, rfl⟩, by decide, Tryd.isAgg4⟩ (.cons ⟨rfl, ⟨_, Tryd.type4, rfl⟩, by decide, Tryd.isAgg4⟩ .nil)))))) (by decide) rfl (by decide) (.inl rfl)
theorem TrydI176_ok : TIok Tryd.prog 176 TrydI176 := tiok Tryd.type176 rfl rfl rfl rfl (by intro h; first | rfl | cases h) (kind_struct Tryd.underlying176 (.cons ⟨rfl, ⟨_, Tryd.type3, rfl⟩, by decide, Tryd.isAgg3⟩ (.cons ⟨rfl, ⟨_, Tryd.type3, rfl⟩, by decide, Tryd.isAgg3⟩ (.cons ⟨rfl, ⟨_, Tryd.type3, rfl⟩, by decide, Tryd.isAgg3⟩ (.cons ⟨rfl, ⟨_, Tryd.type4, rfl⟩, by decide, Tryd.isAgg4⟩ (.cons ⟨rfl, ⟨_, Tryd.type4, rfl⟩, by decide, Tryd.isAgg4⟩ .nil)))))) (by decide) rfl (by decide) (.inl rfl)
theorem TrydI177_ok : TIok Tryd.prog 177 TrydI177 := tiok Tryd.type177 rfl rfl rfl rfl (by intro h; first | rfl | cases h) ⟨_, Tryd.underlying177, (by intro x h; cases h), (by intro x y h; cases h)⟩ (by decide) rfl (by decide) (.inl rfl)
theorem TrydI178_ok : TIok Tryd.prog 178 TrydI178 := tiok Tryd.type178 rfl rfl rfl rfl (by intro h; first | rfl | cases h) ⟨_, Tryd.underlying178, (by intro x h; cases h), (by intro x y h; cases h)⟩ (by decide) rfl (by decide) (.inl rfl)
theorem TrydI179_ok : TIok Tryd.prog 179 TrydI179 := tiok Tryd.type179 rfl rfl rfl rfl (by intro h; first | rfl | cases h) ⟨_, Tryd.underlying179, (by intro x h; cases h), (by intro x y h; cases h)⟩ (by decide) rfl (by decide) (.inl rfl)
theorem TrydI180_ok : TIok Tryd.prog 180 TrydI180 := tiok Tryd.type180 rfl rfl rfl rfl (by intro h; first | rfl | cases h) ⟨_, Tryd.underlying180, (by intro x h; cases h), (by intro x y h; cases h)⟩ (by decide) rfl (by decide) (.inl rfl)
theorem TrydI181_ok : TIok Tryd.prog 181 TrydI181 := tiok Tryd.type181 rfl rfl rfl rfl (by intro h; first | rfl | cases h) ⟨_, Tryd.underlying181, (by intro x h; cases h), (by intro x y h; cases h)⟩ (by decide) rfl (by decide) (.inl rfl)
theorem TrydI182_ok : TIok Tryd.prog 182 TrydI182 := tiok Tryd.type182 rfl rfl rfl rfl (by intro h; first | rfl | cases h) ⟨_, Tryd.underlying182, (by intro x h; cases h), (by intro x y h; cases h)⟩ (by decide) rfl (by decide) (.inl rfl)
theorem TrydI183_ok : TIok Tryd.prog 183 TrydI183 := tiok Tryd.type183 rfl rfl rfl rfl (by intro h; first | rfl | cases h) ⟨_, Tryd.underlying183, (by intro x h; cases h), (by intro x y h; cases h)⟩ (by decide) rfl (by decide) (.inl rfl)
theorem TrydI184_ok : TIok Tryd.prog 184 TrydI184 := tiok Tryd.type184 rfl rfl rfl rfl (by intro h; first | rfl | cases h) ⟨_, Tryd.underlying184, (by intro x h; cases h), (by intro x y h; cases h)⟩ (by decide) rfl (by decide) (.inl rfl)
theorem TrydI186_ok : TIok Tryd.prog 186 TrydI186 := tiok Tryd.type186 rfl rfl rfl rfl (by intro h; first | rfl | cases h) ⟨_, Tryd.underlying186, (by intro x h; cases h), (by intro x y h; cases h)⟩ (by decide) rfl (by decide) (.inl rfl)
theorem TrydI187_ok : TIok Tryd.prog 187 TrydI187 := tiok Tryd.type187 rfl rfl rfl rfl (by intro h; first | rfl | cases h) ⟨_, Tryd.underlying187, (by intro x h; cases h), (by intro x y h; cases h)⟩ (by decide) rfl (by decide) (.inl rfl)
theorem TrydI188_ok : TIok Tryd.prog 188 TrydI188 := tiok Tryd.type188 rfl rfl rfl rfl (by intro h; first | rfl | cases h) ⟨_, Tryd.underlying188, (by intro x h; cases h), (by intro x y h; cases h)⟩ (by decide) rfl (by decide) (.inl rfl)
theorem TrydI189_ok : TIok Tryd.prog 189 TrydI189 := tiok Tryd.type189 rfl rfl rfl rfl (by intro h; first | rfl | cases h) Tryd.underlying189 (by decide) rfl (by decide) (.inl rfl)
theorem TrydI190_ok : TIok Tryd.prog 190 TrydI190 := tiok Tryd.type190 rfl rfl rfl rfl (by intro h; first | rfl | cases h) (kind_struct Tryd.underlying190 (.cons ⟨rfl, ⟨_, Tryd.type189, rfl⟩, by decide, Tryd.isAgg189⟩ (.cons ⟨rfl, ⟨_, Tryd.type38, rfl⟩, by decide, Tryd.isAgg38⟩ (.cons ⟨rfl, ⟨_, Tryd.type38, rfl⟩, by decide, Tryd.isAgg38⟩ .nil)))) (by decide) rfl (by decide) (.inl rfl)
theorem TrydI191_ok : TIok Tryd.prog 191 TrydI191 := tiok Tryd.type191 rfl rfl rfl rfl (by intro h; first | rfl | cases h) (kind_struct Tryd.underlying191 (.cons ⟨rfl, ⟨_, Tryd.type189, rfl⟩, by decide, Tryd.isAgg189⟩ (.cons ⟨rfl, ⟨_, Tryd.type38, rfl⟩, by decide, Tryd.isAgg38⟩ (.cons ⟨rfl, ⟨_, Tryd.type38, rfl⟩, by decide, Tryd.isAgg38⟩ .nil)))) (by decide) rfl (by decide) (.inl rfl)
theorem TrydI193_ok : TIok Tryd.prog 193 TrydI193 := tiok Tryd.type193 rfl rfl rfl rfl (by intro h; first | rfl | cases h) ⟨_, Tryd.underlying193, (by intro x h; cases h), (by intro x y h; cases h)⟩ (by decide) rfl (by decide) (.inl rfl)
theorem TrydI194_ok : TIok Tryd.prog 194 TrydI194 := tiok Tryd.type194 rfl rfl rfl rfl (by intro h; first | rfl | cases h) ⟨_, Tryd.underlying194, (by intro x h; cases h), (by intro x y h; cases h)⟩ (by decide) rfl (by decide) (.inl rfl)
theorem TrydI195_ok : TIok Tryd.prog 195 TrydI195 := tiok Tryd.type195 rfl rfl rfl rfl (by intro h; first | rfl | cases h) ⟨_, Tryd.underlying195, (by intro x h; cases h), (by intro x y h; cases h)⟩ (by decide) rfl (by decide) (.inl rfl)
theorem TrydI197_ok : TIok Tryd.prog 197 TrydI197 := tiok Tryd.type197 rfl rfl rfl rfl (by intro h; first | rfl | cases h) ⟨_, Tryd.underlying197, (by intro x h; cases h), (by intro x y h; cases h)⟩ (by decide) rfl (by decide) (.inl rfl)
theorem TrydI198_ok : TIok Tryd.prog 198 TrydI198 := tiok Tryd.type198 rfl rfl rfl rfl (by intro h; first | rfl | cases h) ⟨_, Tryd.underlying198, (by intro x h; cases h), (by intro x y h; cases h)⟩ (by decide) rfl (by decide) (.inl rfl)
theorem TrydI199_ok : TIok Tryd.prog 199 TrydI199 := tiok Tryd.type199 rfl rfl rfl rfl (by intro h; first | rfl | cases h) ⟨_, Tryd.underlying199, (by intro x h; cases h), (by intro x y h; cases h)⟩ (by decide) rfl (by decide) (.inl rfl)
theorem TrydI200_ok : TIok Tryd.prog 200 TrydI200 := tiok Tryd.type200 rfl rfl rfl rfl (by intro h; first | rfl | cases h) ⟨_, Tryd.underlying200, (by intro x h; cases h), (by intro x y h; cases h)⟩ (by decide) rfl (by decide) (.inl rfl)
theorem TrydI201_ok : TIok Tryd.prog 201 TrydI201 := tiok Tryd.type201 rfl rfl rfl rfl (by intro h; first | rfl | cases h) ⟨_, Tryd.underlying201, (by intro x h; cases h), (by intro x y h; cases h)⟩ (by decide) rfl (by decide) (.inl rfl)
theorem TrydI202_ok : TIok Tryd.prog 202 TrydI202 := tiok Tryd.type202 rfl rfl rfl rfl (by intro h; first | rfl | cases h) ⟨_, Tryd.underlying202, (by intro x h; cases h), (by intro x y h; cases h)⟩ (by decide) rfl (by decide) (.inl rfl)
theorem TrydI203_ok : TIok Tryd.prog 203 TrydI203 := tiok Tryd.type203 rfl rfl rfl rfl (by intro h; first | rfl | cases h) ⟨_, Tryd.underlying203, (by intro x h; cases h), (by intro x y h; cases h)⟩ (by decide) rfl (by decide) (.inl rfl)
theorem TrydI204_ok : TIok Tryd.prog 204 TrydI204 := tiok Tryd.type204 rfl rfl rfl rfl (by intro h; first | rfl | cases h) ⟨_, Tryd.underlying204, (by intro x h; cases h), (by intro x y h; cases h)⟩ (by decide) rfl (by decide) (.inl rfl)
theorem TrydI205_ok : TIok Tryd.prog 205 TrydI205 := tiok Tryd.type205 rfl rfl rfl rfl (by intro h; first | rfl | cases h) ⟨_, Tryd.underlying205, (by intro x h; cases h), (by intro x y h; cases h)⟩ (by decide) rfl (by decide) (.inl rfl)
theorem TrydI206_ok : TIok Tryd.prog 206 TrydI206 := tiok Tryd.type206 rfl rfl rfl rfl (by intro h; first | rfl | cases h) ⟨_, Tryd.underlying206, (by intro x h; cases h), (by intro x y h; cases h)⟩ (by decide) rfl (by decide) (.inl rfl)
theorem TrydI207_ok : TIok Tryd.prog 207 TrydI207 := tiok Tryd.type207 rfl rfl rfl rfl (by intro h; first | rfl | cases h) ⟨_, Tryd.underlying207, (by intro x h; cases h), (by intro x y h; cases h)⟩ (by decide) rfl (by decide) (.inl rfl)
theorem TrydI208_ok : TIok Tryd.prog 208 TrydI208 := tiok Tryd.type208 rfl rfl rfl rfl (by intro h; first | rfl | cases h) ⟨_, Tryd.underlying208, (by intro x h; cases h), (by intro x y h; cases h)⟩ (by decide) rfl (by decide) (.inl rfl)
theorem TrydI209_ok : TIok Tryd.prog 209 TrydI209 := tiok Tryd.type209 rfl rfl rfl rfl (by intro h; first | rfl | cases h) ⟨_, Tryd.underlying209, (by intro x h; cases h), (by intro x y h; cases h)⟩ (by decide) rfl (by decide) (.inl rfl)
theorem TrydI210_ok : TIok Tryd.prog 210 TrydI210 := tiok Tryd.type210 rfl rfl rfl rfl (by intro h; first | rfl | cases h) Tryd.underlying210 (by decide) rfl (by decide) (.inl rfl)
theorem TrydI211_ok : TIok Tryd.prog 211 TrydI211 := tiok Tryd.type211 rfl rfl rfl rfl (by intro h; first | rfl | cases h) (kind_struct Tryd.underlying211 (.cons ⟨rfl, ⟨_, Tryd.type3, rfl⟩, by decide, Tryd.isAgg3⟩ (.cons ⟨rfl, ⟨_, Tryd.type3, rfl⟩, by decide, Tryd.isAgg3⟩ .nil))) (by decide) rfl (by decide) (.inl rfl)
theorem TrydI212_ok : TIok Tryd.prog 212 TrydI212 := tiok Tryd.type212 rfl rfl rfl rfl (by intro h; first | rfl | cases h) (kind_struct Tryd.underlying212 (.cons ⟨rfl, ⟨_, Tryd.type3, rfl⟩, by decide, Tryd.isAgg3⟩ (.cons ⟨rfl, ⟨_, Tryd.type3, rfl⟩, by decide, Tryd.isAgg3⟩ .nil))) (by decide) rfl (by decide) (.inl rfl)
theorem TrydI214_ok : TIok Tryd.prog 214 TrydI214 := tiok Tryd.type214 rfl rfl rfl rfl (by intro h; first | rfl | cases h) ⟨_, Tryd.underlying214, (by intro x h; cases h), (by intro x y h; cases h)⟩ (by decide) rfl (by decide) (.inl rfl)
theorem TrydI215_ok : TIok Tryd.prog 215 TrydI215 := tiok Tryd.type215 rfl rfl rfl rfl (by intro h; first | rfl | cases h) ⟨_, Tryd.underlying215, (by intro x h; cases h), (by intro x y h; cases h)⟩ (by decide) rfl (by decide) (.inl rfl)
theorem TrydI216_ok : TIok Tryd.prog 216 TrydI216 := tiok Tryd.type216 rfl rfl rfl rfl (by intro h; first | rfl | cases h) ⟨_, Tryd.underlying216, (by intro x h; cases h), (by intro x y h; cases h)⟩ (by decide) rfl (by decide) (.inl rfl)
theorem TrydI217_ok : TIok Tryd.prog 217 TrydI217 := tiok Tryd.type217 rfl rfl rfl rfl (by intro h; first | rfl | cases h) ⟨_, Tryd.underlying217, (by intro x h; cases h), (by intro x y h; cases h)⟩ (by decide) rfl (by decide) (.inl rfl)
theorem TrydI219_ok : TIok Tryd.prog 219 TrydI219 := tiok Tryd.type219 rfl rfl rfl rfl (by intro h; first | rfl | cases h) ⟨_, Tryd.underlying219, (by intro x h; cases h), (by intro x y h; cases h)⟩ (by decide) rfl (by decide) (.inl rfl)
theorem TrydI220_ok : TIok Tryd.prog 220 TrydI220 := tiok Tryd.type220 rfl rfl rfl rfl (by intro h; first | rfl | cases h) (kind_struct Tryd.underlying220 (.cons ⟨rfl, ⟨_, Tryd.type25, rfl⟩, by decide, Tryd.isAgg25⟩ (.cons ⟨rfl, ⟨_, Tryd.type27, rfl⟩, by decide, Tryd.isAgg27⟩ (.cons ⟨rfl, ⟨_, Tryd.type27, rfl⟩, by decide, Tryd.isAgg27⟩ (.cons ⟨rfl, ⟨_, Tryd.type27, rfl⟩, by decide, Tryd.isAgg27⟩ .nil))))) (by decide) rfl (by decide) (.inl rfl)
theorem TrydI221_ok : TIok Tryd.prog 221 TrydI221 := tiok Tryd.type221 rfl rfl rfl rfl (by intro h; first | rfl | cases h) (kind_struct Tryd.underlying221 (.cons ⟨rfl, ⟨_, Tryd.type25, rfl⟩, by decide, Tryd.isAgg25⟩ (.cons ⟨rfl, ⟨_, Tryd.type27, rfl⟩, by decide, Tryd.isAgg27⟩ (.cons ⟨rfl, ⟨_, Tryd.type27, rfl⟩, by decide, Tryd.isAgg27⟩ (.cons ⟨rfl, ⟨_, Tryd.type27, rfl⟩, by decide, Tryd.isAgg27⟩ .nil))))) (by decide) rfl (by decide) (.inl rfl)
theorem TrydI222_ok : TIok Tryd.prog 222 TrydI222 := tiok Tryd.type222 rfl rfl rfl rfl (by intro h; first | rfl | cases h) ⟨_, Tryd.underlying222, (by intro x h; cases h), (by intro x y h; cases h)⟩ (by decide) rfl (by decide) (.inl rfl)
theorem TrydI223_ok : TIok Tryd.prog 223 TrydI223 := tiok Tryd.type223 rfl rfl rfl rfl (by intro h; first | rfl | cases h) ⟨_, Tryd.underlying223, (by intro x h; cases h), (by intro x y h; cases h)⟩ (by decide) rfl (by decide) (.inl rfl)
theorem TrydI224_ok : TIok Tryd.prog 224 TrydI224 := tiok Tryd.type224 rfl rfl rfl rfl (by intro h; first | rfl | cases h) ⟨_, Tryd.underlying224, (by intro x h; cases h), (by intro x y h; cases h)⟩ (by decide) rfl (by decide) (.inl rfl)
theorem TrydI225_ok : TIok Tryd.prog 225 TrydI225 := tiok Tryd.type225 rfl rfl rfl rfl (by intro h; first | rfl | cases h) ⟨_, Tryd.underlying225, (by intro x h; cases h), (by intro x y h; cases h)⟩ (by decide) rfl (by decide) (.inl rfl)
theorem TrydI226_ok : TIok Tryd.prog 226 TrydI226 := tiok Tryd.type226 rfl rfl rfl rfl (by intro h; first | rfl | cases h) ⟨_, Tryd.underlying226, (by intro x h; cases h), (by intro x y h; cases h)⟩ (by decide) rfl (by decide) (.inl rfl)
theorem TrydI227_ok : TIok Tryd.prog 227 TrydI227 := tiok Tryd.type227 rfl rfl rfl rfl (by intro h; first | rfl | cases h) ⟨_, Tryd.underlying227, (by intro x h; cases h), (by intro x y h; cases h)⟩ (by decide) rfl (by decide) (.inl rfl)
theorem TrydI228_ok : TIok Tryd.prog 228 TrydI228 := tiok Tryd.type228 rfl rfl rfl rfl (by intro h; first | rfl | cases h) ⟨_, Tryd.underlying228, (by intro x h; cases h), (by intro x y h; cases h)⟩ (by decide) rfl (by decide) (.inl rfl)
theorem TrydI229_ok : TIok Tryd.prog 229 TrydI229 := tiok Tryd.type229 rfl rfl rfl rfl (by intro h; first | rfl | cases h) ⟨_, Tryd.underlying229, (by intro x h; cases h), (by intro x y h; cases h)⟩ (by decide) rfl (by decide) (.inl rfl)
theorem TrydI230_ok : TIok Tryd.prog 230 TrydI230 := tiok Tryd.type230 rfl rfl rfl rfl (by intro h; first | rfl | cases h) ⟨_, Tryd.underlying230, (by intro x h; cases h), (by intro x y h; cases h)⟩ (by decide) rfl (by decide) (.inl rfl)
theorem TrydI231_ok : TIok Tryd.prog 231 TrydI231 := tiok Tryd.type231 rfl rfl rfl rfl (by intro h; first | rfl | cases h) Tryd.underlying231 (by decide) rfl (by decide) (.inl rfl)
theorem TrydI232_ok : TIok Tryd.prog 232 TrydI232 := tiok Tryd.type232 rfl rfl rfl rfl (by intro h; first | rfl | cases h) ⟨_, Tryd.underlying232, (by intro x h; cases h), (by intro x y h; cases h)⟩ (by decide) rfl (by decide) (.inl rfl)
theorem TrydI233_ok : TIok Tryd.prog 233 TrydI233 := tiok Tryd.type233 rfl rfl rfl rfl (by intro h; first | rfl | cases h) ⟨_, Tryd.underlying233, (by intro x h; cases h), (by intro x y h; cases h)⟩ (by decide) rfl (by decide) (.inl rfl)
theorem TrydI234_ok : TIok Tryd.prog 234 TrydI234 := tiok Tryd.type234 rfl rfl rfl rfl (by intro h; first | rfl | cases h) ⟨_, Tryd.underlying234, (by intro x h; cases h), (by intro x y h; cases h)⟩ (by decide) rfl (by decide) (.inl rfl)
theorem TrydI235_ok : TIok Tryd.prog 235 TrydI235 := tiok Tryd.type235 rfl rfl rfl rfl (by intro h; first | rfl | cases h) ⟨_, Tryd.underlying235, (by intro x h; cases h), (by intro x y h; cases h)⟩ (by decide) rfl (by decide) (.inl rfl)
theorem TrydI236_ok : TIok Tryd.prog 236 TrydI236 := tiok Tryd.type236 rfl rfl rfl rfl (by intro h; first | rfl | cases h) ⟨_, Tryd.underlying236, (by intro x h; cases h), (by intro x y h; cases h)⟩ (by decide) rfl (by decide) (.inl rfl)
theorem TrydI237_ok : TIok Tryd.prog 237 TrydI237 := tiok Tryd.type237 rfl rfl rfl rfl (by intro h; first | rfl | cases h) ⟨_, Tryd.underlying237, (by intro x h; cases h), (by intro x y h; cases h)⟩ (by decide) rfl (by decide) (.inl rfl)
theorem TrydI238_ok : TIok Tryd.prog 238 TrydI238 := tiok Tryd.type238 rfl rfl rfl rfl (by intro h; first | rfl | cases h) Tryd.underlying238 (by decide) rfl (by decide) (.inl rfl)
theorem TrydI239_ok : TIok Tryd.prog 239 TrydI239 := tiok Tryd.type239 rfl rfl rfl rfl (by intro h; first | rfl | cases h) ⟨_, Tryd.underlying239, (by intro x h; cases h), (by intro x y h; cases h)⟩ (by decide) rfl (by decide) (.inl rfl)
theorem TrydI240_ok : TIok Tryd.prog 240 TrydI240 := tiok Tryd.type240 rfl rfl rfl rfl (by intro h; first | rfl | cases h) ⟨_, Tryd.underlying240, (by intro x h; cases h), (by intro x y h; cases h)⟩ (by decide) rfl (by decide) (.inl rfl)
theorem TrydI241_ok : TIok Tryd.prog 241 TrydI241 := tiok Tryd.type241 rfl rfl rfl rfl (by intro h; first | rfl | cases h) ⟨_, Tryd.underlying241, (by intro x h; cases h), (by intro x y h; cases h)⟩ (by decide) rfl (by decide) (.inl rfl)
theorem TrydI242_ok : TIok Tryd.prog 242 TrydI242 := tiok Tryd.type242 rfl rfl rfl rfl (by intro h; first | rfl | cases h) ⟨_, Tryd.underlying242, (by intro x h; cases h), (by intro x y h; cases h)⟩ (by decide) rfl (by decide) (.inl rfl)
theorem TrydI243_ok : TIok Tryd.prog 243 TrydI243 := tiok Tryd.type243 rfl rfl rfl rfl (by intro h; first | rfl | cases h) Tryd.underlying243 (by decide) rfl (by decide) (.inl rfl)
theorem TrydI244_ok : TIok Tryd.prog 244 TrydI244 := tiok Tryd.type244 rfl rfl rfl rfl (by intro h; first | rfl | cases h) Tryd.underlying244 (by decide) rfl (by decide) (.inl rfl)
theorem TrydI246_ok : TIok Tryd.prog 246 TrydI246 := tiok Tryd.type246 rfl rfl rfl rfl (by intro h; first | rfl | cases h) ⟨_, Tryd.underlying246, (by intro x h; cases h), (by intro x y h; cases h)⟩ (by decide) rfl (by decide) (.inl rfl)
theorem TrydI247_ok : TIok Tryd.prog 247 TrydI247 := tiok Tryd.type247 rfl rfl rfl rfl (by intro h; first | rfl | cases h) ⟨_, Tryd.underlying247, (by intro x h; cases h), (by intro x y h; cases h)⟩ (by decide) rfl (by decide) (.inl rfl)
theorem TrydI248_ok : TIok Tryd.prog 248 TrydI248 := tiok Tryd.type248 rfl rfl rfl rfl (by intro h; first | rfl | cases h) ⟨_, Tryd.underlying248, (by intro x h; cases h), (by intro x y h; cases h)⟩ (by decide) rfl (by decide) (.inl rfl)
theorem TrydI249_ok : TIok Tryd.prog 249 TrydI249 := tiok Tryd.type249 rfl rfl rfl rfl (by intro h; first | rfl | cases h) ⟨_, Tryd.underlying249, (by intro x h; cases h), (by intro x y h; cases h)⟩ (by decide) rfl (by decide) (.inl rfl)
theorem TrydI250_ok : TIok Tryd.prog 250 TrydI250 := tiok Tryd.type250 rfl rfl rfl rfl (by intro h; first | rfl | cases h) ⟨_, Tryd.underlying250, (by intro x h; cases h), (by intro x y h; cases h)⟩ (by decide) rfl (by decide) (.inl rfl)
theorem TrydI251_ok : TIok Tryd.prog 251 TrydI251 := tiok Tryd.type251 rfl rfl rfl rfl (by intro h; first | rfl | cases h) ⟨_, Tryd.underlying251, (by intro x h; cases h), (by intro x y h; cases h)⟩ (by decide) rfl (by decide) (.inl rfl)
theorem TrydI252_ok : TIok Tryd.prog 252 TrydI252 := tiok Tryd.type252 rfl rfl rfl rfl (by intro h; first | rfl | cases h) ⟨_, Tryd.underlying252, (by intro x h; cases h), (by intro x y h; cases h)⟩ (by decide) rfl (by decide) (.inl rfl)
theorem TrydI254_ok : TIok Tryd.prog 254 TrydI254 := tiok Tryd.type254 rfl rfl rfl rfl (by intro h; first | rfl | cases h) ⟨_, Tryd.underlying254, (by intro x h; cases h), (by intro x y h; cases h)⟩ (by decide) rfl (by decide) (.inl rfl)
theorem TrydI255_ok : TIok Tryd.prog 255 TrydI255 := tiok Tryd.type255 rfl rfl rfl rfl (by intro h; first | rfl | cases h) ⟨_, Tryd.underlying255, (by intro x h; cases h), (by intro x y h; cases h)⟩ (by decide) rfl (by decide) (.inl rfl)
theorem TrydI256_ok : TIok Tryd.prog 256 TrydI256 := tiok Tryd.type256 rfl rfl rfl rfl (by intro h; first | rfl | cases h) ⟨_, Tryd.underlying256, (by intro x h; cases h), (by intro x y h; cases h)⟩ (by decide) rfl (by decide) (.inl rfl)
theorem TrydI257_ok : TIok Tryd.prog 257 TrydI257 := tiok Tryd.type257 rfl rfl rfl rfl (by intro h; first | rfl | cases h) ⟨_, Tryd.underlying257, (by intro x h; cases h), (by intro x y h; cases h)⟩ (by decide) rfl (by decide) (.inl rfl)
theorem TrydI258_ok : TIok Tryd.prog 258 TrydI258 := tiok Tryd.type258 rfl rfl rfl rfl (by intro h; first | rfl | cases h) Tryd.underlying258 (by decide) rfl (by decide) (.inl rfl)
theorem TrydI259_ok : TIok Tryd.prog 259 TrydI259 := tiok Tryd.type259 rfl rfl rfl rfl (by intro h; first | rfl | cases h) ⟨_, Tryd.underlying259, (by intro x h; cases h), (by intro x y h; cases h)⟩ (by decide) rfl (by decide) (.inl rfl)
theorem TrydI260_ok : TIok Tryd.prog 260 TrydI260 := tiok Tryd.type260 rfl rfl rfl rfl (by intro h; first | rfl | cases h) ⟨_, Tryd.underlying260, (by intro x h; cases h), (by intro x y h; cases h)⟩ (by decide) rfl (by decide) (.inl rfl)
theorem TrydI261_ok : TIok Tryd.prog 261 TrydI261 := tiok Tryd.type261 rfl rfl rfl rfl (by intro h; first | rfl | cases h) ⟨_, Tryd.underlying261, (by intro x h; cases h), (by intro x y h; cases h)⟩ (by decide) rfl (by decide) (.inl rfl)
theorem TrydI262_ok : TIok Tryd.prog 262 TrydI262 := tiok Tryd.type262 rfl rfl rfl rfl (by intro h; first | rfl | cases h) ⟨_, Tryd.underlying262, (by intro x h; cases h), (by intro x y h; cases h)⟩ (by decide) rfl (by decide) (.inl rfl)
theorem TrydI263_ok : TIok Tryd.prog 263 TrydI263 := tiok Tryd.type263 rfl rfl rfl rfl (by intro h; first | rfl | cases h) ⟨_, Tryd.underlying263, (by intro x h; cases h), (by intro x y h; cases h)⟩ (by decide) rfl (by decide) (.inl rfl)
theorem TrydI264_ok : TIok Tryd.prog 264 TrydI264 := tiok Tryd.type264 rfl rfl rfl rfl (by intro h; first | rfl | cases h) ⟨_, Tryd.underlying264, (by intro x h; cases h), (by intro x y h; cases h)⟩ (by decide) rfl (by decide) (.inl rfl)
theorem TrydI265_ok : TIok Tryd.prog 265 TrydI265 := tiok Tryd.type265 rfl rfl rfl rfl (by intro h; first | rfl | cases h) Tryd.underlying265 (by decide) rfl (by decide) (.inl rfl)
theorem TrydI266_ok : TIok Tryd.prog 266 TrydI266 := tiok Tryd.type266 rfl rfl rfl rfl (by intro h; first | rfl | cases h) ⟨_, Tryd.underlying266, (by intro x h; cases h), (by intro x y h; cases h)⟩ (by decide) rfl (by decide) (.inl rfl)
theorem TrydI267_ok : TIok Tryd.prog 267 TrydI267 := tiok Tryd.type267 rfl rfl rfl rfl (by intro h; first | rfl | cases h) ⟨_, Tryd.underlying267, (by intro x h; cases h), (by intro x y h; cases h)⟩ (by decide) rfl (by decide) (.inl rfl)
theorem TrydI269_ok : TIok Tryd.prog 269 TrydI269 := tiok Tryd.type269 rfl rfl rfl rfl (by intro h; first | rfl | cases h) ⟨_, Tryd.underlying269, (by intro x h; cases h), (by intro x y h; cases h)⟩ (by decide) rfl (by decide) (.inl rfl)
theorem TrydI270_ok : TIok Tryd.prog 270 TrydI270 := tiok Tryd.type270 rfl rfl rfl rfl (by intro h; first | rfl | cases h) ⟨_, Tryd.underlying270, (by intro x h; cases h), (by intro x y h; cases h)⟩ (by decide) rfl (by decide) (.inl rfl)
theorem TrydI271_ok : TIok Tryd.prog 271 TrydI271 := tiok Tryd.type271 rfl rfl rfl rfl (by intro h; first | rfl | cases h) Tryd.underlying271 (by decide) rfl (by decide) (.inl rfl)
theorem TrydI272_ok : TIok Tryd.prog 272 TrydI272 := tiok Tryd.type272 rfl rfl rfl rfl (by intro h; first | rfl | cases h) Tryd.underlying272 (by decide) rfl (by decide) (.inl rfl)
theorem TrydI274_ok : TIok Tryd.prog 274 TrydI274 := tiok Tryd.type274 rfl rfl rfl rfl (by intro h; first | rfl | cases h) ⟨_, Tryd.underlying274, (by intro x h; cases h), (by intro x y h; cases h)⟩ (by decide) rfl (by decide) (.inl rfl)
theorem TrydI275_ok : TIok Tryd.prog 275 TrydI275 := tiok Tryd.type275 rfl rfl rfl rfl (by intro h; first | rfl | cases h) ⟨_, Tryd.underlying275, (by intro x h; cases h), (by intro x y h; cases h)⟩ (by decide) rfl (by decide) (.inl rfl)
theorem TrydI276_ok : TIok Tryd.prog 276 TrydI276 := tiok Tryd.type276 rfl rfl rfl rfl (by intro h; first | rfl | cases h) Tryd.underlying276 (by decide) rfl (by decide) (.inl rfl)
theorem TrydI277_ok : TIok Tryd.prog 277 TrydI277 := tiok Tryd.type277 rfl rfl rfl rfl (by intro h; first | rfl | cases h) Tryd.underlying277 (by decide) rfl (by decide) (.inl rfl)
theorem TrydI278_ok : TIok Tryd.prog 278 TrydI278 := tiok Tryd.type278 rfl rfl rfl rfl (by intro h; first | rfl | cases h) (kind_struct Tryd.underlying278 (.cons ⟨rfl, ⟨_, Tryd.type17, rfl⟩, by decide, Tryd.isAgg17⟩ (.cons ⟨rfl, ⟨_, Tryd.type17, rfl⟩, by decide, Tryd.isAgg17⟩ (.cons ⟨rfl, ⟨_, Tryd.type17, rfl⟩, by decide, Tryd.isAgg17⟩ (.cons ⟨rfl, ⟨_, Tryd.type9, rfl⟩, by decide, Tryd.isAgg9⟩ .nil))))) (by decide) rfl (by decide) (.inl rfl)
theorem TrydI279_ok : TIok Tryd.prog 279 TrydI279 := tiok Tryd.type279 rfl rfl rfl rfl (by intro h; first | rfl | cases h) (kind_struct Tryd.underlying279 (.cons ⟨rfl, ⟨_, Tryd.type17, rfl⟩, by decide, Tryd.isAgg17⟩ (.cons ⟨rfl, ⟨_, Tryd.type17, rfl⟩, by decide, Tryd.isAgg17⟩ (.cons ⟨rfl, ⟨_, Tryd.type17, rfl⟩, by decide, Tryd.isAgg17⟩ (.cons ⟨rfl, ⟨_, Tryd.type9, rfl⟩, by decide, Tryd.isAgg9⟩ .nil))))) (by decide) rfl (by decide) (.inl rfl)
theorem TrydI283_ok : TIok Tryd.prog 283 TrydI283 := tiok Tryd.type283 rfl rfl rfl rfl (by intro h; first | rfl | cases h) Tryd.underlying283 (by decide) rfl (by decide) (.inl rfl)
theorem TrydI284_ok : TIok Tryd.prog 284 TrydI284 := tiok Tryd.type284 rfl rfl rfl rfl (by intro h; first | rfl | cases h) Tryd.underlying284 (by decide) rfl (by decide) (.inl rfl)
theorem TrydI285_ok : TIok Tryd.prog 285 TrydI285 := tiok Tryd.type285 rfl rfl rfl rfl (by intro h; first | rfl | cases h) ⟨_, Tryd.underlying285, (by intro x h; cases h), (by intro x y h; cases h)⟩ (by decide) rfl (by decide) (.inl rfl)
theorem TrydI286_ok : TIok Tryd.prog 286 TrydI286 := tiok Tryd.type286 rfl rfl rfl rfl (by intro h; first | rfl | cases h) Tryd.underlying286 (by decide) rfl (by decide) (.inl rfl)
theorem TrydI287_ok : TIok Tryd.prog 287 TrydI287 := tiok Tryd.type287 rfl rfl rfl rfl (by intro h; first | rfl | cases h) Tryd.underlying287 (by decide) rfl (by decide) (.inl rfl)
theorem TrydI288_ok : TIok Tryd.prog 288 TrydI288 := tiok Tryd.type288 rfl rfl rfl rfl (by intro h; first | rfl | cases h) (kind_struct Tryd.underlying288 (.cons ⟨rfl, ⟨_, Tryd.type12, rfl⟩, by decide, Tryd.isAgg12⟩ (.cons ⟨rfl, ⟨_, Tryd.type12, rfl⟩, by decide, Tryd.isAgg12⟩ (.cons ⟨rfl, ⟨_, Tryd.type272, rfl⟩, by decide, Tryd.isAgg272⟩ (.cons ⟨rfl, ⟨_, Tryd.type283, rfl⟩, by decide, Tryd.isAgg283⟩ (.cons ⟨rfl, ⟨_, Tryd.type5, rfl⟩, by decide, Tryd.isAgg5⟩ (.cons ⟨rfl, ⟨_, Tryd.type5, rfl⟩, by decide, Tryd.isAgg5⟩ (.cons ⟨rfl, ⟨_, Tryd.type284, rfl⟩, by decide, Tryd.isAgg284⟩ (.cons ⟨rfl, ⟨_, Tryd.type285, rfl⟩, by decide, Tryd.isAgg285⟩ (.cons ⟨rfl, ⟨_, Tryd.type231, rfl⟩, by decide, Tryd.isAgg231⟩ (.cons ⟨rfl, ⟨_, Tryd.type286, rfl⟩, by decide, Tryd.isAgg286⟩ (.cons ⟨rfl, ⟨_, Tryd.type287, rfl⟩, by decide, Tryd.isAgg287⟩ .nil)))))))))))) (by decide) rfl (by decide) (.inl rfl)
theorem TrydI289_ok : TIok Tryd.prog 289 TrydI289 := tiok Tryd.type289 rfl rfl rfl rfl (by intro h; first | rfl | cases h) (kind_struct Tryd.underlying289 (.cons ⟨rfl, ⟨_, Tryd.type12, rfl⟩, by decide, Tryd.isAgg12⟩ (.cons ⟨rfl, ⟨_, Tryd.type12, rfl⟩, by decide, Tryd.isAgg12⟩ (.cons ⟨rfl, ⟨_, Tryd.type272, rfl⟩, by decide, Tryd.isAgg272⟩ (.cons ⟨rfl, ⟨_, Tryd.type283, rfl⟩, by decide, Tryd.isAgg283⟩ (.cons ⟨rfl, ⟨_, Tryd.type5, rfl⟩, by decide, Tryd.isAgg5⟩ (.cons ⟨rfl, ⟨_, Tryd.type5, rfl⟩, by decide, Tryd.isAgg5⟩ (.cons ⟨rfl, ⟨_, Tryd.type284, rfl⟩, by decide, Tryd.isAgg284⟩ (.cons ⟨rfl, ⟨_, Tryd.type285, rfl⟩, by decide, Tryd.isAgg285⟩ (.cons ⟨rfl, ⟨_, Tryd.type231, rfl⟩, by decide, Tryd.isAgg231⟩ (.cons ⟨rfl, ⟨_, Tryd.type286, rfl⟩, by decide, Tryd.isAgg286⟩ (.cons ⟨rfl, ⟨_, Tryd.type287, rfl⟩, by decide, Tryd.isAgg287⟩ .nil)))))))))))) (by decide) rfl (by decide) (.inl rfl)
def TrydT : TT := [
  (1, TrydI1),
  (2, TrydI2),
  (3, TrydI3),
  (4, TrydI4),
  (5, TrydI5),
  (6, TrydI6),
  (7, TrydI7),
  (8, TrydI8),
  (9, TrydI9),
  (10, TrydI10),
  (11, TrydI11),
  (12, TrydI12),
  (13, TrydI13),
  (14, TrydI14),
  (15, TrydI15),
  (16, TrydI16),
  (17, TrydI17),
  (18, TrydI18),
  (19, TrydI19),
  (20, TrydI20),
  (21, TrydI21),
  (22, TrydI22),
  (23, TrydI23),
  (24, TrydI24),
  (25, TrydI25),
  (26, TrydI26),
  (27, TrydI27),
  (28, TrydI28),
  (29, TrydI29),
  (30, TrydI30),
  (31, TrydI31),
  (32, TrydI32),
  (34, TrydI34),
  (35, TrydI35),
  (36, TrydI36),
  (37, TrydI37),
  (38, TrydI38),
  (39, TrydI39),
  (40, TrydI40),
  (41, TrydI41),
  (42, TrydI42),
  (44, TrydI44),
  (46, TrydI46),
  (48, TrydI48),
  (50, TrydI50),
  (51, TrydI51),
  (52, TrydI52),
  (53, TrydI53),
  (54, TrydI54),
  (55, TrydI55),
  (56, TrydI56),
  (57, TrydI57),
  (58, TrydI58),
  (59, TrydI59),
  (60, TrydI60),
  (61, TrydI61),
  (63, TrydI63),
  (65, TrydI65),
  (66, TrydI66),
  (67, TrydI67),
  (69, TrydI69),
  (70, TrydI70),
  (71, TrydI71),
  (72, TrydI72),
  (73, TrydI73),
  (74, TrydI74),
  (76, TrydI76),
  (77, TrydI77),
  (79, TrydI79),
  (80, TrydI80),
  (82, TrydI82),
  (83, TrydI83),
  (84, TrydI84),
  (85, TrydI85),
  (86, TrydI86),
  (87, TrydI87),
  (88, TrydI88),
  (89, TrydI89),
  (90, TrydI90),
  (91, TrydI91),
  (92, TrydI92),
  (93, TrydI93),
  (94, TrydI94),
  (95, TrydI95),
  (96, TrydI96),
  (97, TrydI97),
  (98, TrydI98),
  (99, TrydI99),
  (100, TrydI100),
  (101, TrydI101),
  (102, TrydI102),
  (103, TrydI103),
  (104, TrydI104),
  (105, TrydI105),
  (106, TrydI106),
  (107, TrydI107),
  (109, TrydI109),
  (110, TrydI110),
  (111, TrydI111),
  (113, TrydI113),
  (115, TrydI115),
  (116, TrydI116),
  (117, TrydI117),
  (119, TrydI119),
  (120, TrydI120),
  (121, TrydI121),
  (122, TrydI122),
  (123, TrydI123),
  (124, TrydI124),
  (125, TrydI125),
  (126, TrydI126),
  (127, TrydI127),
  (128, TrydI128),
  (129, TrydI129),
  (130, TrydI130),
  (132, TrydI132),
  (134, TrydI134),
  (136, TrydI136),
  (137, TrydI137),
  (138, TrydI138),
  (139, TrydI139),
  (140, TrydI140),
  (141, TrydI141),
  (142, TrydI142),
  (143, TrydI143),
  (144, TrydI144),
  (145, TrydI145),
  (146, TrydI146),
  (147, TrydI147),
  (148, TrydI148),
  (149, TrydI149),
  (150, TrydI150),
  (151, TrydI151),
  (152, TrydI152),
  (153, TrydI153),
  (154, TrydI154),
  (155, TrydI155),
  (156, TrydI156),
  (157, TrydI157),
  (158, TrydI158),
  (159, TrydI159),
  (160, TrydI160),
  (161, TrydI161),
  (162, TrydI162),
  (163, TrydI163),
  (164, TrydI164),
  (165, TrydI165),
  (166, TrydI166),
  (167, TrydI167),
  (168, TrydI168),
  (169, TrydI169),
  (170, TrydI170),
  (172, TrydI172),
  (173, TrydI173),
  (174, TrydI174),
  (175, TrydI175),
  (176, TrydI176),
  (177, TrydI177),
  (178, TrydI178),
  (179, TrydI179),
  (180, TrydI180),
  (181, TrydI181),
  (182, TrydI182),
  (183, TrydI183),
  (184, TrydI184),
  (186, TrydI186),
  (187, TrydI187),
  (188, TrydI188),
  (189, TrydI189),
  (190, TrydI190),
  (191, TrydI191),
  (193, TrydI193),
  (194, TrydI194),
  (195, TrydI195),
  (197, TrydI197),
  (198, TrydI198),
  (199, TrydI199),
  (200, TrydI200),
  (201, TrydI201),
  (202, TrydI202),
  (203, TrydI203),
  (204, TrydI204),
  (205, TrydI205),
  (206, TrydI206),
  (207, TrydI207),
  (208, TrydI208),
  (209, TrydI209),
  (210, TrydI210),
  (211, TrydI211),
  (212, TrydI212),
  (214, TrydI214),
  (215, TrydI215),
  (216, TrydI216),
  (217, TrydI217),
  (219, TrydI219),
  (220, TrydI220),
  (221, TrydI221),
  (222, TrydI222),
  (223, TrydI223),
  (224, TrydI224),
  (225, TrydI225),
  (226, TrydI226),
  (227, TrydI227),
  (228, TrydI228),
  (229, TrydI229),
  (230, TrydI230),
  (231, TrydI231),
  (232, TrydI232),
  (233, TrydI233),
  (234, TrydI234),
  (235, TrydI235),
  (236, TrydI236),
  (237, TrydI237),
  (238, TrydI238),
  (239, TrydI239),
  (240, TrydI240),
  (241, TrydI241),
  (242, TrydI242),
  (243, TrydI243),
  (244, TrydI244),
  (246, TrydI246),
  (247, TrydI247),
  (248, TrydI248),
  (249, TrydI249),
  (250, TrydI250),
  (251, TrydI251),
  (252, TrydI252),
  (254, TrydI254),
  (255, TrydI255),
  (256, TrydI256),
  (257, TrydI257),
  (258, TrydI258),
  (259, TrydI259),
  (260, TrydI260),
  (261, TrydI261),
  (262, TrydI262),
  (263, TrydI263),
  (264, TrydI264),
  (265, TrydI265),
  (266, TrydI266),
  (267, TrydI267),
  (269, TrydI269),
  (270, TrydI270),
  (271, TrydI271),
  (272, TrydI272),
  (274, TrydI274),
  (275, TrydI275),
  (276, TrydI276),
  (277, TrydI277),
  (278, TrydI278),
  (279, TrydI279),
  (283, TrydI283),
  (284, TrydI284),
  (285, TrydI285),
  (286, TrydI286),
  (287, TrydI287),
  (288, TrydI288),
  (289, TrydI289)]
theorem Tk : TOk Tryd.prog TrydT := tok_of ⟨TrydI1_ok, TrydI2_ok, TrydI3_ok, TrydI4_ok, TrydI5_ok, TrydI6_ok, TrydI7_ok, TrydI8_ok, TrydI9_ok, TrydI10_ok, TrydI11_ok, TrydI12_ok, TrydI13_ok, TrydI14_ok, TrydI15_ok, TrydI16_ok, TrydI17_ok, TrydI18_ok, TrydI19_ok, TrydI20_ok, TrydI21_ok, TrydI22_ok, TrydI23_ok, TrydI24_ok, TrydI25_ok, TrydI26_ok, TrydI27_ok, TrydI28_ok, TrydI29_ok, TrydI30_ok, TrydI31_ok, TrydI32_ok, TrydI34_ok, TrydI35_ok, TrydI36_ok, TrydI37_ok, TrydI38_ok, TrydI39_ok, TrydI40_ok, TrydI41_ok, TrydI42_ok, TrydI44_ok, TrydI46_ok, TrydI48_ok, TrydI50_ok, TrydI51_ok, TrydI52_ok, TrydI53_ok, TrydI54_ok, TrydI55_ok, TrydI56_ok, TrydI57_ok, TrydI58_ok, TrydI59_ok, TrydI60_ok, TrydI61_ok, TrydI63_ok, TrydI65_ok, TrydI66_ok, TrydI67_ok, TrydI69_ok, TrydI70_ok, TrydI71_ok, TrydI72_ok, TrydI73_ok, TrydI74_ok, TrydI76_ok, TrydI77_ok, TrydI79_ok, TrydI80_ok, TrydI82_ok, TrydI83_ok, TrydI84_ok, TrydI85_ok, TrydI86_ok, TrydI87_ok, TrydI88_ok, TrydI89_ok, TrydI90_ok, TrydI91_ok, TrydI92_ok, TrydI93_ok, TrydI94_ok, TrydI95_ok, TrydI96_ok, TrydI97_ok, TrydI98_ok, TrydI99_ok, TrydI100_ok, TrydI101_ok, TrydI102_ok, TrydI103_ok, TrydI104_ok, TrydI105_ok, TrydI106_ok, TrydI107_ok, TrydI109_ok, TrydI110_ok, TrydI111_ok, TrydI113_ok, TrydI115_ok, TrydI116_ok, TrydI117_ok, TrydI119_ok, TrydI120_ok, TrydI121_ok, TrydI122_ok, TrydI123_ok, TrydI124_ok, TrydI125_ok, TrydI126_ok, TrydI127_ok, TrydI128_ok, TrydI129_ok, TrydI130_ok, TrydI132_ok, TrydI134_ok, TrydI136_ok, TrydI137_ok, TrydI138_ok, TrydI139_ok, TrydI140_ok, TrydI141_ok, TrydI142_ok, TrydI143_ok, TrydI144_ok, TrydI145_ok, TrydI146_ok, TrydI147_ok, TrydI148_ok, TrydI149_ok, TrydI150_ok, TrydI151_ok, TrydI152_ok, TrydI153_ok, TrydI154_ok, TrydI155_ok, TrydI156_ok, TrydI157_ok, TrydI158_ok, TrydI159_ok, TrydI160_ok, TrydI161_ok, TrydI162_ok, TrydI163_ok, TrydI164_ok, TrydI165_ok, TrydI166_ok, TrydI167_ok, TrydI168_ok, TrydI169_ok, TrydI170_ok, TrydI172_ok, TrydI173_ok, TrydI174_ok, TrydI175_ok, TrydI176_ok, TrydI177_ok, TrydI178_ok, TrydI179_ok, TrydI180_ok, TrydI181_ok, TrydI182_ok, TrydI183_ok, TrydI184_ok, TrydI186_ok, TrydI187_ok, TrydI188_ok, TrydI189_ok, TrydI190_ok, TrydI191_ok, TrydI193_ok, TrydI194_ok, TrydI195_ok, TrydI197_ok, TrydI198_ok, TrydI199_ok, TrydI200_ok, TrydI201_ok, TrydI202_ok, TrydI203_ok, TrydI204_ok, TrydI205_ok, TrydI206_ok, TrydI207_ok, TrydI208_ok, TrydI209_ok, TrydI210_ok, TrydI211_ok, TrydI212_ok, TrydI214_ok, TrydI215_ok, TrydI216_ok, TrydI217_ok, TrydI219_ok, TrydI220_ok, TrydI221_ok, TrydI222_ok, TrydI223_ok, TrydI224_ok, TrydI225_ok, TrydI226_ok, TrydI227_ok, TrydI228_ok, TrydI229_ok, TrydI230_ok, TrydI231_ok, TrydI232_ok, TrydI233_ok, TrydI234_ok, TrydI235_ok, TrydI236_ok, TrydI237_ok, TrydI238_ok, TrydI239_ok, TrydI240_ok, TrydI241_ok, TrydI242_ok, TrydI243_ok, TrydI244_ok, TrydI246_ok, TrydI247_ok, TrydI248_ok, TrydI249_ok, TrydI250_ok, TrydI251_ok, TrydI252_ok, TrydI254_ok, TrydI255_ok, TrydI256_ok, TrydI257_ok, TrydI258_ok, TrydI259_ok, TrydI260_ok, TrydI261_ok, TrydI262_ok, TrydI263_ok, TrydI264_ok, TrydI265_ok, TrydI266_ok, TrydI267_ok, TrydI269_ok, TrydI270_ok, TrydI271_ok, TrydI272_ok, TrydI274_ok, TrydI275_ok, TrydI276_ok, TrydI277_ok, TrydI278_ok, TrydI279_ok, TrydI283_ok, TrydI284_ok, TrydI285_ok, TrydI286_ok, TrydI287_ok, TrydI288_ok, TrydI289_ok, trivial⟩
end Go.AI


namespace Go.AI
open Go.Proofs
set_option maxRecDepth 20000
theorem mixedT : Tryd.prog.follows .mixedOrders = true := rfl
end Go.AI


namespace Go.AI
open Go.Proofs
set_option maxRecDepth 20000
end Go.AI


namespace Go.AI
open Go.Proofs
set_option maxRecDepth 20000
abbrev big : Nat := 140737488355328
abbrev oints (l : List Int) : Ob := .arr 3 1 l.length (l.map fun x => [vi x]) true
theorem ret_osl (H : Heap) (nm : Nat) (ob : Ob) : D.ret H [(nm, ob)] (.osl 0 nm) = .osl 0 nm := by
  simp [D.ret, D.ret2, D.ret1, memH, look_cons]
theorem takes_one (nm : Nat) (ob ob' : Ob) (Hr : Heap) (h : ob' = ob.ret [(nm, ob)] Hr) : takesB [(nm, ob)] Hr [(nm, ob')] := ⟨⟨ob, by simp [look], h⟩, trivial⟩
theorem clone57 (nm : Nat) (O : List Heap) (l : List Int) (hl : l.length * 8 ≤ big) : ASpec Tryd.prog 84 [ints l] O (.osl 0 nm) [(nm, oints l)] O := by
  refine aspec_intro Tk Tryd.func84 rfl Tryd.call84 Tryd.ntmps84 (Nat.le_of_ble_eq_true rfl) fun E => ?_
  refine rch_run Tk Tryd.func84 ?_
  refine m_anyb Tk Tryd.func84 rfl rfl fun b hb => ?_
  refine m_cnd Tk Tryd.func84 rfl (fun h1 => ?_) (fun h1 => ?_)
  · have hl0 : l = [] := List.eq_nil_of_length_eq_zero (hb h1)
    subst hl0
    refine ret_wk (wk_nil 2 nm 3 1 rfl rfl rfl) ?_
    exact m_ret' (hT := Tk) (r := .osl 0 nm) rfl rfl rfl (takes_one _ _ _ _ rfl) (ret_osl _ _ _) rfl rfl
  · refine m_need Tk Tryd.func84 ⟨?_, ?_⟩ ?_
    · show (0 + l.length) * 8 ≤ 140737488355328
      simp only [big] at hl; omega
    · simp only [big] at hl; omega
    refine ret_wk (wk_cut (l := [(2, .osl 0 7)]) (Hv := [(7, .arr 3 1 (0 + l.length) ([] ++ l.map fun x => [vi x]) true)]) ⟨rfl, trivial⟩ rfl ⟨rfl, trivial⟩ rfl rfl) ?_
    refine ret_wk (wk_rename 7 nm rfl rfl) ?_
    refine m_ret' (hT := Tk) (r := .osl 0 nm) rfl rfl rfl (takes_one _ _ _ _ ?_) (ret_osl _ _ _) rfl rfl
    rw [Nat.zero_add]
    rfl
/-- CheckSet: 0 ok, 2 a number out of range, 5 not in order. -/
def checkSet (n : Int) : List Int → Option Int → Int
  | [], _ => 0
  | x :: r, prev => if x < 0 ∨ x ≥ n then 2 else if prev.any (x ≤ ·) then 5 else checkSet n r (some x)
end Go.AI
