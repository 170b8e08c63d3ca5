/- The layer of abstract runs, part 7. -/
import Derived.Test.YtbknncolmohdlaaDoorLayerF
import Derived.Test.YtbknncolmohdlaaDoorProg
import Derived.KernelRfl
set_option linter.unusedSimpArgs false
set_option linter.unusedVariables false
set_option linter.all false
set_option maxRecDepth 20000
namespace Go.AI
open Go.Proofs
def TrydI1 : TI := { size := 1, bytes := 8, k := .sc, zero := [.nilFunc] }
def TrydI2 : TI := { size := 1, bytes := 8, k := .int .i64, zero := [.int .i64 0] }
def TrydI3 : TI := { size := 1, bytes := 8, k := .int .i64, zero := [.int .i64 0] }
def TrydI4 : TI := { size := 1, bytes := 1, k := .bool, zero := [.bool false] }
def TrydI5 : TI := { size := 1, bytes := 1, k := .int .u8, zero := [.int .u8 0] }
def TrydI6 : TI := { size := 1, bytes := 1, k := .int .u8, zero := [.int .u8 0] }
def TrydI7 : TI := { size := 4, bytes := 24, k := .struct [(0, 1, false), (1, 1, false), (2, 1, false), (3, 1, false)], zero := [.int .i64 0, .int .i64 0, .bool false, .int .u8 0] }
def TrydI8 : TI := { size := 4, bytes := 24, k := .struct [(0, 1, false), (1, 1, false), (2, 1, false), (3, 1, false)], zero := [.int .i64 0, .int .i64 0, .bool false, .int .u8 0] }
def TrydI9 : TI := { size := 1, bytes := 16, k := .str, zero := [.string ⟨#[]⟩] }
def TrydI10 : TI := { size := 1, bytes := 16, k := .str, zero := [.string ⟨#[]⟩] }
def TrydI11 : TI := { size := 1, bytes := 16, k := .str, zero := [.string ⟨#[]⟩] }
def TrydI12 : TI := { size := 1, bytes := 8, k := .int .u64, zero := [.int .u64 0] }
def TrydI13 : TI := { size := 2, bytes := 24, k := .struct [(0, 1, false), (1, 1, false)], zero := [.string ⟨#[]⟩, .int .u64 0] }
def TrydI14 : TI := { size := 2, bytes := 24, k := .struct [(0, 1, false), (1, 1, false)], zero := [.string ⟨#[]⟩, .int .u64 0] }
def TrydI15 : TI := { size := 1, bytes := 8, k := .ptr 170, zero := [.pointer none] }
def TrydI16 : TI := { size := 1, bytes := 8, k := .ptr 173, zero := [.pointer none] }
def TrydI17 : TI := { size := 1, bytes := 8, k := .ptr 181, zero := [.pointer none] }
def TrydI18 : TI := { size := 1, bytes := 8, k := .struct [(0, 1, false)], zero := [.pointer none] }
def TrydI19 : TI := { size := 1, bytes := 8, k := .struct [(0, 1, false)], zero := [.pointer none] }
def TrydI20 : TI := { size := 1, bytes := 16, k := .sc, zero := [.nilIface] }
def TrydI21 : TI := { size := 1, bytes := 4, k := .int .i32, zero := [.int .i32 0] }
def TrydI22 : TI := { size := 1, bytes := 2, k := .int .u16, zero := [.int .u16 0] }
def TrydI23 : TI := { size := 1, bytes := 8, k := .sc, zero := [.nilFunc] }
def TrydI24 : TI := { size := 1, bytes := 24, k := .slice 3, zero := [.slice none 0 0] }
def TrydI25 : TI := { size := 1, bytes := 24, k := .slice 31, zero := [.slice none 0 0] }
def TrydI26 : TI := { size := 1, bytes := 24, k := .slice 38, zero := [.slice none 0 0] }
def TrydI27 : TI := { size := 6, bytes := 112, k := .struct [(0, 1, false), (1, 1, false), (2, 1, false), (3, 1, false), (4, 1, false), (5, 1, false)], zero := [.slice none 0 0, .int .i64 0, .int .i64 0, .slice none 0 0, .slice none 0 0, .slice none 0 0] }
def TrydI28 : TI := { size := 6, bytes := 112, k := .struct [(0, 1, false), (1, 1, false), (2, 1, false), (3, 1, false), (4, 1, false), (5, 1, false)], zero := [.slice none 0 0, .int .i64 0, .int .i64 0, .slice none 0 0, .slice none 0 0, .slice none 0 0] }
def TrydI29 : TI := { size := 1, bytes := 8, k := .sc, zero := [.nilFunc] }
def TrydI30 : TI := { size := 4, bytes := 40, k := .struct [(0, 1, false), (1, 1, false), (2, 1, false), (3, 1, false)], zero := [.string ⟨#[]⟩, .int .i64 0, .int .i64 0, .int .i64 0] }
def TrydI31 : TI := { size := 4, bytes := 40, k := .struct [(0, 1, false), (1, 1, false), (2, 1, false), (3, 1, false)], zero := [.string ⟨#[]⟩, .int .i64 0, .int .i64 0, .int .i64 0] }
def TrydI32 : TI := { size := 1, bytes := 24, k := .slice 34, zero := [.slice none 0 0] }
def TrydI33 : TI := { size := 4, bytes := 48, k := .struct [(0, 1, false), (1, 1, false), (2, 1, false), (3, 1, false)], zero := [.int .i64 0, .int .i64 0, .int .i64 0, .slice none 0 0] }
def TrydI34 : TI := { size := 4, bytes := 48, k := .struct [(0, 1, false), (1, 1, false), (2, 1, false), (3, 1, false)], zero := [.int .i64 0, .int .i64 0, .int .i64 0, .slice none 0 0] }
def TrydI35 : TI := { size := 1, bytes := 8, k := .sc, zero := [.nilFunc] }
def TrydI36 : TI := { size := 1, bytes := 24, k := .slice 92, zero := [.slice none 0 0] }
def TrydI37 : TI := { size := 8, bytes := 96, k := .struct [(0, 1, false), (1, 1, false), (2, 1, false), (3, 4, true), (7, 1, false)], zero := [.int .i64 0, .int .i64 0, .int .i64 0, .int .i64 0, .int .i64 0, .int .i64 0, .slice none 0 0, .slice none 0 0] }
def TrydI38 : TI := { size := 8, bytes := 96, k := .struct [(0, 1, false), (1, 1, false), (2, 1, false), (3, 4, true), (7, 1, false)], zero := [.int .i64 0, .int .i64 0, .int .i64 0, .int .i64 0, .int .i64 0, .int .i64 0, .slice none 0 0, .slice none 0 0] }
def TrydI39 : TI := { size := 1, bytes := 24, k := .slice 55, zero := [.slice none 0 0] }
def TrydI40 : TI := { size := 1, bytes := 8, k := .int .i64, zero := [.int .i64 0] }
def TrydI42 : TI := { size := 1, bytes := 8, k := .sc, zero := [.nilFunc] }
def TrydI44 : TI := { size := 1, bytes := 8, k := .sc, zero := [.nilFunc] }
def TrydI45 : TI := { size := 1, bytes := 8, k := .sc, zero := [.nilFunc] }
def TrydI46 : TI := { size := 1, bytes := 24, k := .slice 120, zero := [.slice none 0 0] }
def TrydI47 : TI := { size := 1, bytes := 24, k := .slice 103, zero := [.slice none 0 0] }
def TrydI48 : TI := { size := 4, bytes := 56, k := .struct [(0, 1, false), (1, 1, false), (2, 1, false), (3, 1, false)], zero := [.int .u8 0, .int .u8 0, .slice none 0 0, .slice none 0 0] }
def TrydI49 : TI := { size := 4, bytes := 56, k := .struct [(0, 1, false), (1, 1, false), (2, 1, false), (3, 1, false)], zero := [.int .u8 0, .int .u8 0, .slice none 0 0, .slice none 0 0] }
def TrydI50 : TI := { size := 1, bytes := 8, k := .sc, zero := [.nilFunc] }
def TrydI51 : TI := { size := 1, bytes := 24, k := .slice 57, zero := [.slice none 0 0] }
def TrydI53 : TI := { size := 1, bytes := 8, k := .sc, zero := [.nilFunc] }
def TrydI54 : TI := { size := 2, bytes := 32, k := .struct [(0, 1, false), (1, 1, false)], zero := [.int .i64 0, .slice none 0 0] }
def TrydI55 : TI := { size := 2, bytes := 32, k := .struct [(0, 1, false), (1, 1, false)], zero := [.int .i64 0, .slice none 0 0] }
def TrydI56 : TI := { size := 3, bytes := 56, k := .struct [(0, 1, false), (1, 2, true)], zero := [.slice none 0 0, .int .i64 0, .slice none 0 0] }
def TrydI57 : TI := { size := 3, bytes := 56, k := .struct [(0, 1, false), (1, 2, true)], zero := [.slice none 0 0, .int .i64 0, .slice none 0 0] }
def TrydI58 : TI := { size := 1, bytes := 8, k := .sc, zero := [.nilFunc] }
def TrydI59 : TI := { size := 1, bytes := 8, k := .sc, zero := [.nilFunc] }
def TrydI60 : TI := { size := 1, bytes := 8, k := .sc, zero := [.nilFunc] }
def TrydI62 : TI := { size := 1, bytes := 8, k := .sc, zero := [.nilFunc] }
def TrydI64 : TI := { size := 1, bytes := 8, k := .sc, zero := [.nilFunc] }
def TrydI65 : TI := { size := 1, bytes := 8, k := .sc, zero := [.nilFunc] }
def TrydI66 : TI := { size := 1, bytes := 8, k := .sc, zero := [.nilFunc] }
def TrydI67 : TI := { size := 1, bytes := 8, k := .sc, zero := [.nilFunc] }
def TrydI69 : TI := { size := 1, bytes := 8, k := .sc, zero := [.nilFunc] }
def TrydI70 : TI := { size := 1, bytes := 8, k := .sc, zero := [.nilFunc] }
def TrydI71 : TI := { size := 1, bytes := 8, k := .sc, zero := [.nilFunc] }
def TrydI73 : TI := { size := 1, bytes := 8, k := .sc, zero := [.nilFunc] }
def TrydI74 : TI := { size := 1, bytes := 8, k := .sc, zero := [.nilFunc] }
def TrydI76 : TI := { size := 1, bytes := 8, k := .sc, zero := [.nilFunc] }
def TrydI77 : TI := { size := 1, bytes := 8, k := .sc, zero := [.nilFunc] }
def TrydI79 : TI := { size := 1, bytes := 8, k := .sc, zero := [.nilFunc] }
def TrydI80 : TI := { size := 1, bytes := 8, k := .sc, zero := [.nilFunc] }
def TrydI81 : TI := { size := 1, bytes := 24, k := .slice 24, zero := [.slice none 0 0] }
def TrydI83 : TI := { size := 1, bytes := 8, k := .sc, zero := [.nilFunc] }
def TrydI84 : TI := { size := 1, bytes := 8, k := .sc, zero := [.nilFunc] }
def TrydI85 : TI := { size := 1, bytes := 8, k := .sc, zero := [.nilFunc] }
def TrydI86 : TI := { size := 1, bytes := 8, k := .sc, zero := [.nilFunc] }
def TrydI87 : TI := { size := 1, bytes := 8, k := .sc, zero := [.nilFunc] }
def TrydI88 : TI := { size := 1, bytes := 8, k := .sc, zero := [.nilFunc] }
def TrydI89 : TI := { size := 1, bytes := 8, k := .sc, zero := [.nilFunc] }
def TrydI90 : TI := { size := 1, bytes := 8, k := .sc, zero := [.nilFunc] }
def TrydI91 : TI := { size := 5, bytes := 56, k := .struct [(0, 1, false), (1, 4, true)], zero := [.int .i64 0, .int .i64 0, .int .i64 0, .int .i64 0, .slice none 0 0] }
def TrydI92 : TI := { size := 5, bytes := 56, k := .struct [(0, 1, false), (1, 4, true)], zero := [.int .i64 0, .int .i64 0, .int .i64 0, .int .i64 0, .slice none 0 0] }
def TrydI93 : TI := { size := 1, bytes := 24, k := .slice 95, zero := [.slice none 0 0] }
def TrydI94 : TI := { size := 2, bytes := 16, k := .struct [(0, 1, false), (1, 1, false)], zero := [.int .i64 0, .int .i64 0] }
def TrydI95 : TI := { size := 2, bytes := 16, k := .struct [(0, 1, false), (1, 1, false)], zero := [.int .i64 0, .int .i64 0] }
def TrydI97 : TI := { size := 1, bytes := 8, k := .sc, zero := [.nilFunc] }
def TrydI98 : TI := { size := 1, bytes := 8, k := .sc, zero := [.nilFunc] }
def TrydI99 : TI := { size := 1, bytes := 8, k := .sc, zero := [.nilFunc] }
def TrydI100 : TI := { size := 3, bytes := 3, k := .arr 3 5, zero := [.int .u8 0, .int .u8 0, .int .u8 0] }
def TrydI101 : TI := { size := 1, bytes := 24, k := .slice 5, zero := [.slice none 0 0] }
def TrydI102 : TI := { size := 5, bytes := 56, k := .struct [(0, 3, true), (3, 1, false), (4, 1, false)], zero := [.int .u8 0, .int .u8 0, .int .u8 0, .slice none 0 0, .slice none 0 0] }
def TrydI103 : TI := { size := 5, bytes := 56, k := .struct [(0, 3, true), (3, 1, false), (4, 1, false)], zero := [.int .u8 0, .int .u8 0, .int .u8 0, .slice none 0 0, .slice none 0 0] }
def TrydI104 : TI := { size := 1, bytes := 8, k := .sc, zero := [.nilFunc] }
def TrydI106 : TI := { size := 1, bytes := 8, k := .sc, zero := [.nilFunc] }
def TrydI107 : TI := { size := 1, bytes := 8, k := .sc, zero := [.nilFunc] }
def TrydI108 : TI := { size := 1, bytes := 8, k := .sc, zero := [.nilFunc] }
def TrydI109 : TI := { size := 1, bytes := 8, k := .sc, zero := [.nilFunc] }
def TrydI110 : TI := { size := 1, bytes := 8, k := .sc, zero := [.nilFunc] }
def TrydI111 : TI := { size := 1, bytes := 8, k := .sc, zero := [.nilFunc] }
def TrydI112 : TI := { size := 1, bytes := 8, k := .sc, zero := [.nilFunc] }
def TrydI113 : TI := { size := 1, bytes := 8, k := .sc, zero := [.nilFunc] }
def TrydI114 : TI := { size := 1, bytes := 8, k := .sc, zero := [.nilFunc] }
def TrydI115 : TI := { size := 1, bytes := 8, k := .sc, zero := [.nilFunc] }
def TrydI116 : TI := { size := 1, bytes := 8, k := .sc, zero := [.nilFunc] }
def TrydI117 : TI := { size := 1, bytes := 8, k := .sc, zero := [.nilFunc] }
def TrydI118 : TI := { size := 1, bytes := 8, k := .map 9 4, zero := [.map none] }
def TrydI119 : TI := { size := 1, bytes := 1, k := .int .i8, zero := [.int .i8 0] }
def TrydI120 : TI := { size := 2, bytes := 2, k := .arr 2 119, zero := [.int .i8 0, .int .i8 0] }
def TrydI121 : TI := { size := 1, bytes := 8, k := .ptr 123, zero := [.pointer none] }
def TrydI122 : TI := { size := 3, bytes := 40, k := .struct [(0, 1, false), (1, 1, false), (2, 1, false)], zero := [.slice none 0 0, .int .i64 0, .int .i64 0] }
def TrydI123 : TI := { size := 3, bytes := 40, k := .struct [(0, 1, false), (1, 1, false), (2, 1, false)], zero := [.slice none 0 0, .int .i64 0, .int .i64 0] }
def TrydI124 : TI := { size := 1, bytes := 8, k := .sc, zero := [.nilFunc] }
def TrydI126 : TI := { size := 1, bytes := 8, k := .sc, zero := [.nilFunc] }
def TrydI127 : TI := { size := 1, bytes := 8, k := .ptr 38, zero := [.pointer none] }
def TrydI129 : TI := { size := 1, bytes := 8, k := .sc, zero := [.nilFunc] }
def TrydI130 : TI := { size := 1, bytes := 8, k := .sc, zero := [.nilFunc] }
def TrydI131 : TI := { size := 1, bytes := 8, k := .sc, zero := [.nilFunc] }
def TrydI132 : TI := { size := 1, bytes := 8, k := .sc, zero := [.nilFunc] }
def TrydI133 : TI := { size := 1, bytes := 8, k := .sc, zero := [.nilFunc] }
def TrydI134 : TI := { size := 1, bytes := 8, k := .sc, zero := [.nilFunc] }
def TrydI135 : TI := { size := 1, bytes := 8, k := .sc, zero := [.nilFunc] }
def TrydI136 : TI := { size := 1, bytes := 8, k := .sc, zero := [.nilFunc] }
def TrydI137 : TI := { size := 1, bytes := 8, k := .sc, zero := [.nilFunc] }
def TrydI138 : TI := { size := 1, bytes := 8, k := .sc, zero := [.nilFunc] }
def TrydI139 : TI := { size := 1, bytes := 8, k := .sc, zero := [.nilFunc] }
def TrydI140 : TI := { size := 1, bytes := 8, k := .sc, zero := [.nilFunc] }
def TrydI141 : TI := { size := 1, bytes := 8, k := .sc, zero := [.nilFunc] }
def TrydI142 : TI := { size := 1, bytes := 8, k := .sc, zero := [.nilFunc] }
def TrydI143 : TI := { size := 1, bytes := 8, k := .int .u64, zero := [.int .u64 0] }
def TrydI144 : TI := { size := 1, bytes := 8, k := .sc, zero := [.nilFunc] }
def TrydI145 : TI := { size := 1, bytes := 8, k := .ptr 3, zero := [.pointer none] }
def TrydI146 : TI := { size := 1, bytes := 8, k := .sc, zero := [.nilFunc] }
def TrydI147 : TI := { size := 1, bytes := 8, k := .sc, zero := [.nilFunc] }
def TrydI148 : TI := { size := 1, bytes := 8, k := .sc, zero := [.nilFunc] }
def TrydI149 : TI := { size := 1, bytes := 8, k := .sc, zero := [.nilFunc] }
def TrydI150 : TI := { size := 1, bytes := 8, k := .sc, zero := [.nilFunc] }
def TrydI151 : TI := { size := 1, bytes := 8, k := .sc, zero := [.nilFunc] }
def TrydI152 : TI := { size := 1, bytes := 8, k := .sc, zero := [.nilFunc] }
def TrydI153 : TI := { size := 1, bytes := 8, k := .sc, zero := [.nilFunc] }
def TrydI154 : TI := { size := 24, bytes := 24, k := .arr 24 5, zero := [.int .u8 0, .int .u8 0, .int .u8 0, .int .u8 0, .int .u8 0, .int .u8 0, .int .u8 0, .int .u8 0, .int .u8 0, .int .u8 0, .int .u8 0, .int .u8 0, .int .u8 0, .int .u8 0, .int .u8 0, .int .u8 0, .int .u8 0, .int .u8 0, .int .u8 0, .int .u8 0, .int .u8 0, .int .u8 0, .int .u8 0, .int .u8 0] }
def TrydI155 : TI := { size := 1, bytes := 8, k := .int .u64, zero := [.int .u64 0] }
def TrydI156 : TI := { size := 1, bytes := 8, k := .sc, zero := [.nilFunc] }
def TrydI157 : TI := { size := 1, bytes := 8, k := .sc, zero := [.nilFunc] }
def TrydI159 : TI := { size := 1, bytes := 8, k := .sc, zero := [.nilFunc] }
def TrydI160 : TI := { size := 1, bytes := 8, k := .sc, zero := [.nilFunc] }
def TrydI161 : TI := { size := 20, bytes := 160, k := .arr 20 155, zero := [.int .u64 0, .int .u64 0, .int .u64 0, .int .u64 0, .int .u64 0, .int .u64 0, .int .u64 0, .int .u64 0, .int .u64 0, .int .u64 0, .int .u64 0, .int .u64 0, .int .u64 0, .int .u64 0, .int .u64 0, .int .u64 0, .int .u64 0, .int .u64 0, .int .u64 0, .int .u64 0] }
def TrydI162 : TI := { size := 1, bytes := 4, k := .int .u32, zero := [.int .u32 0] }
def TrydI164 : TI := { size := 1, bytes := 8, k := .sc, zero := [.nilFunc] }
def TrydI165 : TI := { size := 1, bytes := 8, k := .sc, zero := [.nilFunc] }
def TrydI166 : TI := { size := 32, bytes := 32, k := .arr 32 5, zero := [.int .u8 0, .int .u8 0, .int .u8 0, .int .u8 0, .int .u8 0, .int .u8 0, .int .u8 0, .int .u8 0, .int .u8 0, .int .u8 0, .int .u8 0, .int .u8 0, .int .u8 0, .int .u8 0, .int .u8 0, .int .u8 0, .int .u8 0, .int .u8 0, .int .u8 0, .int .u8 0, .int .u8 0, .int .u8 0, .int .u8 0, .int .u8 0, .int .u8 0, .int .u8 0, .int .u8 0, .int .u8 0, .int .u8 0, .int .u8 0, .int .u8 0, .int .u8 0] }
def TrydI167 : TI := { size := 64, bytes := 64, k := .arr 64 5, zero := [.int .u8 0, .int .u8 0, .int .u8 0, .int .u8 0, .int .u8 0, .int .u8 0, .int .u8 0, .int .u8 0, .int .u8 0, .int .u8 0, .int .u8 0, .int .u8 0, .int .u8 0, .int .u8 0, .int .u8 0, .int .u8 0, .int .u8 0, .int .u8 0, .int .u8 0, .int .u8 0, .int .u8 0, .int .u8 0, .int .u8 0, .int .u8 0, .int .u8 0, .int .u8 0, .int .u8 0, .int .u8 0, .int .u8 0, .int .u8 0, .int .u8 0, .int .u8 0, .int .u8 0, .int .u8 0, .int .u8 0, .int .u8 0, .int .u8 0, .int .u8 0, .int .u8 0, .int .u8 0, .int .u8 0, .int .u8 0, .int .u8 0, .int .u8 0, .int .u8 0, .int .u8 0, .int .u8 0, .int .u8 0, .int .u8 0, .int .u8 0, .int .u8 0, .int .u8 0, .int .u8 0, .int .u8 0, .int .u8 0, .int .u8 0, .int .u8 0, .int .u8 0, .int .u8 0, .int .u8 0, .int .u8 0, .int .u8 0, .int .u8 0, .int .u8 0] }
def TrydI168 : TI := { size := 1, bytes := 8, k := .sc, zero := [.nilFunc] }
def TrydI169 : TI := { size := 4, bytes := 40, k := .struct [(0, 1, false), (1, 1, false), (2, 1, false), (3, 1, false)], zero := [.pointer none, .pointer none, .pointer none, .string ⟨#[]⟩] }
def TrydI170 : TI := { size := 4, bytes := 40, k := .struct [(0, 1, false), (1, 1, false), (2, 1, false), (3, 1, false)], zero := [.pointer none, .pointer none, .pointer none, .string ⟨#[]⟩] }
def TrydI174 : TI := { size := 1, bytes := 1, k := .int .u8, zero := [.int .u8 0] }
def TrydI175 : TI := { size := 1, bytes := 1, k := .int .u8, zero := [.int .u8 0] }
def TrydI176 : TI := { size := 1, bytes := 8, k := .sc, zero := [.nilFunc] }
def TrydI177 : TI := { size := 1, bytes := 8, k := .ptr 5, zero := [.pointer none] }
def TrydI178 : TI := { size := 1, bytes := 4, k := .int .i32, zero := [.int .i32 0] }
def TrydI179 : TI := { size := 1, bytes := 4, k := .int .i32, zero := [.int .i32 0] }
def TrydI180 : TI := { size := 11, bytes := 48, k := .struct [(0, 1, false), (1, 1, false), (2, 1, false), (3, 1, false), (4, 1, false), (5, 1, false), (6, 1, false), (7, 1, false), (8, 1, false), (9, 1, false), (10, 1, false)], zero := [.int .u64 0, .int .u64 0, .int .u32 0, .int .u8 0, .int .u8 0, .int .u8 0, .int .u8 0, .nilFunc, .pointer none, .int .i32 0, .int .i32 0] }
def TrydI181 : TI := { size := 11, bytes := 48, k := .struct [(0, 1, false), (1, 1, false), (2, 1, false), (3, 1, false), (4, 1, false), (5, 1, false), (6, 1, false), (7, 1, false), (8, 1, false), (9, 1, false), (10, 1, false)], zero := [.int .u64 0, .int .u64 0, .int .u32 0, .int .u8 0, .int .u8 0, .int .u8 0, .int .u8 0, .nilFunc, .pointer none, .int .i32 0, .int .i32 0] }
theorem TrydI1_ok : TIok Tryd.prog 1 TrydI1 := tiok Tryd.type1 rfl rfl rfl rfl (by intro h; first | rfl | cases h) ⟨_, Tryd.underlying1, (by intro x h; cases h), (by intro x y h; cases h)⟩ (by decide) rfl (by decide)
theorem TrydI2_ok : TIok Tryd.prog 2 TrydI2 := tiok Tryd.type2 rfl rfl rfl rfl (by intro h; first | rfl | cases h) Tryd.underlying2 (by decide) rfl (by decide)
theorem TrydI3_ok : TIok Tryd.prog 3 TrydI3 := tiok Tryd.type3 rfl rfl rfl rfl (by intro h; first | rfl | cases h) Tryd.underlying3 (by decide) rfl (by decide)
theorem TrydI4_ok : TIok Tryd.prog 4 TrydI4 := tiok Tryd.type4 rfl rfl rfl rfl (by intro h; first | rfl | cases h) Tryd.underlying4 (by decide) rfl (by decide)
theorem TrydI5_ok : TIok Tryd.prog 5 TrydI5 := tiok Tryd.type5 rfl rfl rfl rfl (by intro h; first | rfl | cases h) Tryd.underlying5 (by decide) rfl (by decide)
theorem TrydI6_ok : TIok Tryd.prog 6 TrydI6 := tiok Tryd.type6 rfl rfl rfl rfl (by intro h; first | rfl | cases h) Tryd.underlying6 (by decide) rfl (by decide)
theorem TrydI7_ok : TIok Tryd.prog 7 TrydI7 := tiok Tryd.type7 rfl rfl rfl rfl (by intro h; first | rfl | cases h) (kind_struct Tryd.underlying7 (.cons ⟨rfl, ⟨_, Tryd.type2, rfl⟩, by decide, Tryd.isAgg2⟩ (.cons ⟨rfl, ⟨_, Tryd.type3, rfl⟩, by decide, Tryd.isAgg3⟩ (.cons ⟨rfl, ⟨_, Tryd.type4, rfl⟩, by decide, Tryd.isAgg4⟩ (.cons ⟨rfl, ⟨_, Tryd.type6, rfl⟩, by decide, Tryd.isAgg6⟩ .nil))))) (by decide) rfl (by decide)
theorem TrydI8_ok : TIok Tryd.prog 8 TrydI8 := tiok Tryd.type8 rfl rfl rfl rfl (by intro h; first | rfl | cases h) (kind_struct Tryd.underlying8 (.cons ⟨rfl, ⟨_, Tryd.type2, rfl⟩, by decide, Tryd.isAgg2⟩ (.cons ⟨rfl, ⟨_, Tryd.type3, rfl⟩, by decide, Tryd.isAgg3⟩ (.cons ⟨rfl, ⟨_, Tryd.type4, rfl⟩, by decide, Tryd.isAgg4⟩ (.cons ⟨rfl, ⟨_, Tryd.type6, rfl⟩, by decide, Tryd.isAgg6⟩ .nil))))) (by decide) rfl (by decide)
theorem TrydI9_ok : TIok Tryd.prog 9 TrydI9 := tiok Tryd.type9 rfl rfl rfl rfl (by intro h; first | rfl | cases h) Tryd.underlying9 (by decide) rfl (by decide)
theorem TrydI10_ok : TIok Tryd.prog 10 TrydI10 := tiok Tryd.type10 rfl rfl rfl rfl (by intro h; first | rfl | cases h) Tryd.underlying10 (by decide) rfl (by decide)
theorem TrydI11_ok : TIok Tryd.prog 11 TrydI11 := tiok Tryd.type11 rfl rfl rfl rfl (by intro h; first | rfl | cases h) Tryd.underlying11 (by decide) rfl (by decide)
theorem TrydI12_ok : TIok Tryd.prog 12 TrydI12 := tiok Tryd.type12 rfl rfl rfl rfl (by intro h; first | rfl | cases h) Tryd.underlying12 (by decide) rfl (by decide)
theorem TrydI13_ok : TIok Tryd.prog 13 TrydI13 := tiok Tryd.type13 rfl rfl rfl rfl (by intro h; first | rfl | cases h) (kind_struct Tryd.underlying13 (.cons ⟨rfl, ⟨_, Tryd.type9, rfl⟩, by decide, Tryd.isAgg9⟩ (.cons ⟨rfl, ⟨_, Tryd.type12, rfl⟩, by decide, Tryd.isAgg12⟩ .nil))) (by decide) rfl (by decide)
theorem TrydI14_ok : TIok Tryd.prog 14 TrydI14 := tiok Tryd.type14 rfl rfl rfl rfl (by intro h; first | rfl | cases h) (kind_struct Tryd.underlying14 (.cons ⟨rfl, ⟨_, Tryd.type9, rfl⟩, by decide, Tryd.isAgg9⟩ (.cons ⟨rfl, ⟨_, Tryd.type12, rfl⟩, by decide, Tryd.isAgg12⟩ .nil))) (by decide) rfl (by decide)
theorem TrydI15_ok : TIok Tryd.prog 15 TrydI15 := tiok Tryd.type15 rfl rfl rfl rfl (by intro h; first | rfl | cases h) Tryd.underlying15 (by decide) rfl (by decide)
theorem TrydI16_ok : TIok Tryd.prog 16 TrydI16 := tiok Tryd.type16 rfl rfl rfl rfl (by intro h; first | rfl | cases h) Tryd.underlying16 (by decide) rfl (by decide)
theorem TrydI17_ok : TIok Tryd.prog 17 TrydI17 := tiok Tryd.type17 rfl rfl rfl rfl (by intro h; first | rfl | cases h) Tryd.underlying17 (by decide) rfl (by decide)
theorem TrydI18_ok : TIok Tryd.prog 18 TrydI18 := tiok Tryd.type18 rfl rfl rfl rfl (by intro h; first | rfl | cases h) (kind_struct Tryd.underlying18 (.cons ⟨rfl, ⟨_, Tryd.type17, rfl⟩, by decide, Tryd.isAgg17⟩ .nil)) (by decide) rfl (by decide)
theorem TrydI19_ok : TIok Tryd.prog 19 TrydI19 := tiok Tryd.type19 rfl rfl rfl rfl (by intro h; first | rfl | cases h) (kind_struct Tryd.underlying19 (.cons ⟨rfl, ⟨_, Tryd.type17, rfl⟩, by decide, Tryd.isAgg17⟩ .nil)) (by decide) rfl (by decide)
theorem TrydI20_ok : TIok Tryd.prog 20 TrydI20 := tiok Tryd.type20 rfl rfl rfl rfl (by intro h; first | rfl | cases h) ⟨_, Tryd.underlying20, (by intro x h; cases h), (by intro x y h; cases h)⟩ (by decide) rfl (by decide)
theorem TrydI21_ok : TIok Tryd.prog 21 TrydI21 := tiok Tryd.type21 rfl rfl rfl rfl (by intro h; first | rfl | cases h) Tryd.underlying21 (by decide) rfl (by decide)
theorem TrydI22_ok : TIok Tryd.prog 22 TrydI22 := tiok Tryd.type22 rfl rfl rfl rfl (by intro h; first | rfl | cases h) Tryd.underlying22 (by decide) rfl (by decide)
theorem TrydI23_ok : TIok Tryd.prog 23 TrydI23 := tiok Tryd.type23 rfl rfl rfl rfl (by intro h; first | rfl | cases h) ⟨_, Tryd.underlying23, (by intro x h; cases h), (by intro x y h; cases h)⟩ (by decide) rfl (by decide)
theorem TrydI24_ok : TIok Tryd.prog 24 TrydI24 := tiok Tryd.type24 rfl rfl rfl rfl (by intro h; first | rfl | cases h) Tryd.underlying24 (by decide) rfl (by decide)
theorem TrydI25_ok : TIok Tryd.prog 25 TrydI25 := tiok Tryd.type25 rfl rfl rfl rfl (by intro h; first | rfl | cases h) Tryd.underlying25 (by decide) rfl (by decide)
theorem TrydI26_ok : TIok Tryd.prog 26 TrydI26 := tiok Tryd.type26 rfl rfl rfl rfl (by intro h; first | rfl | cases h) Tryd.underlying26 (by decide) rfl (by decide)
theorem TrydI27_ok : TIok Tryd.prog 27 TrydI27 := tiok Tryd.type27 rfl rfl rfl rfl (by intro h; first | rfl | cases h) (kind_struct Tryd.underlying27 (.cons ⟨rfl, ⟨_, Tryd.type24, rfl⟩, by decide, Tryd.isAgg24⟩ (.cons ⟨rfl, ⟨_, Tryd.type3, rfl⟩, by decide, Tryd.isAgg3⟩ (.cons ⟨rfl, ⟨_, Tryd.type3, rfl⟩, by decide, Tryd.isAgg3⟩ (.cons ⟨rfl, ⟨_, Tryd.type24, rfl⟩, by decide, Tryd.isAgg24⟩ (.cons ⟨rfl, ⟨_, Tryd.type25, rfl⟩, by decide, Tryd.isAgg25⟩ (.cons ⟨rfl, ⟨_, Tryd.type26, rfl⟩, by decide, Tryd.isAgg26⟩ .nil))))))) (by decide) rfl (by decide)
theorem TrydI28_ok : TIok Tryd.prog 28 TrydI28 := tiok Tryd.type28 rfl rfl rfl rfl (by intro h; first | rfl | cases h) (kind_struct Tryd.underlying28 (.cons ⟨rfl, ⟨_, Tryd.type24, rfl⟩, by decide, Tryd.isAgg24⟩ (.cons ⟨rfl, ⟨_, Tryd.type3, rfl⟩, by decide, Tryd.isAgg3⟩ (.cons ⟨rfl, ⟨_, Tryd.type3, rfl⟩, by decide, Tryd.isAgg3⟩ (.cons ⟨rfl, ⟨_, Tryd.type24, rfl⟩, by decide, Tryd.isAgg24⟩ (.cons ⟨rfl, ⟨_, Tryd.type25, rfl⟩, by decide, Tryd.isAgg25⟩ (.cons ⟨rfl, ⟨_, Tryd.type26, rfl⟩, by decide, Tryd.isAgg26⟩ .nil))))))) (by decide) rfl (by decide)
theorem TrydI29_ok : TIok Tryd.prog 29 TrydI29 := tiok Tryd.type29 rfl rfl rfl rfl (by intro h; first | rfl | cases h) ⟨_, Tryd.underlying29, (by intro x h; cases h), (by intro x y h; cases h)⟩ (by decide) rfl (by decide)
theorem TrydI30_ok : TIok Tryd.prog 30 TrydI30 := tiok Tryd.type30 rfl rfl rfl rfl (by intro h; first | rfl | cases h) (kind_struct Tryd.underlying30 (.cons ⟨rfl, ⟨_, Tryd.type9, rfl⟩, by decide, Tryd.isAgg9⟩ (.cons ⟨rfl, ⟨_, Tryd.type3, rfl⟩, by decide, Tryd.isAgg3⟩ (.cons ⟨rfl, ⟨_, Tryd.type3, rfl⟩, by decide, Tryd.isAgg3⟩ (.cons ⟨rfl, ⟨_, Tryd.type3, rfl⟩, by decide, Tryd.isAgg3⟩ .nil))))) (by decide) rfl (by decide)
theorem TrydI31_ok : TIok Tryd.prog 31 TrydI31 := tiok Tryd.type31 rfl rfl rfl rfl (by intro h; first | rfl | cases h) (kind_struct Tryd.underlying31 (.cons ⟨rfl, ⟨_, Tryd.type9, rfl⟩, by decide, Tryd.isAgg9⟩ (.cons ⟨rfl, ⟨_, Tryd.type3, rfl⟩, by decide, Tryd.isAgg3⟩ (.cons ⟨rfl, ⟨_, Tryd.type3, rfl⟩, by decide, Tryd.isAgg3⟩ (.cons ⟨rfl, ⟨_, Tryd.type3, rfl⟩, by decide, Tryd.isAgg3⟩ .nil))))) (by decide) rfl (by decide)
theorem TrydI32_ok : TIok Tryd.prog 32 TrydI32 := tiok Tryd.type32 rfl rfl rfl rfl (by intro h; first | rfl | cases h) Tryd.underlying32 (by decide) rfl (by decide)
theorem TrydI33_ok : TIok Tryd.prog 33 TrydI33 := tiok Tryd.type33 rfl rfl rfl rfl (by intro h; first | rfl | cases h) (kind_struct Tryd.underlying33 (.cons ⟨rfl, ⟨_, Tryd.type3, rfl⟩, by decide, Tryd.isAgg3⟩ (.cons ⟨rfl, ⟨_, Tryd.type3, rfl⟩, by decide, Tryd.isAgg3⟩ (.cons ⟨rfl, ⟨_, Tryd.type3, rfl⟩, by decide, Tryd.isAgg3⟩ (.cons ⟨rfl, ⟨_, Tryd.type32, rfl⟩, by decide, Tryd.isAgg32⟩ .nil))))) (by decide) rfl (by decide)
theorem TrydI34_ok : TIok Tryd.prog 34 TrydI34 := tiok Tryd.type34 rfl rfl rfl rfl (by intro h; first | rfl | cases h) (kind_struct Tryd.underlying34 (.cons ⟨rfl, ⟨_, Tryd.type3, rfl⟩, by decide, Tryd.isAgg3⟩ (.cons ⟨rfl, ⟨_, Tryd.type3, rfl⟩, by decide, Tryd.isAgg3⟩ (.cons ⟨rfl, ⟨_, Tryd.type3, rfl⟩, by decide, Tryd.isAgg3⟩ (.cons ⟨rfl, ⟨_, Tryd.type32, rfl⟩, by decide, Tryd.isAgg32⟩ .nil))))) (by decide) rfl (by decide)
theorem TrydI35_ok : TIok Tryd.prog 35 TrydI35 := tiok Tryd.type35 rfl rfl rfl rfl (by intro h; first | rfl | cases h) ⟨_, Tryd.underlying35, (by intro x h; cases h), (by intro x y h; cases h)⟩ (by decide) rfl (by decide)
theorem TrydI36_ok : TIok Tryd.prog 36 TrydI36 := tiok Tryd.type36 rfl rfl rfl rfl (by intro h; first | rfl | cases h) Tryd.underlying36 (by decide) rfl (by decide)
theorem TrydI37_ok : TIok Tryd.prog 37 TrydI37 := tiok Tryd.type37 rfl rfl rfl rfl (by intro h; first | rfl | cases h) (kind_struct Tryd.underlying37 (.cons ⟨rfl, ⟨_, Tryd.type3, rfl⟩, by decide, Tryd.isAgg3⟩ (.cons ⟨rfl, ⟨_, Tryd.type3, rfl⟩, by decide, Tryd.isAgg3⟩ (.cons ⟨rfl, ⟨_, Tryd.type3, rfl⟩, by decide, Tryd.isAgg3⟩ (.cons ⟨rfl, ⟨_, Tryd.type34, rfl⟩, by decide, Tryd.isAgg34⟩ (.cons ⟨rfl, ⟨_, Tryd.type36, rfl⟩, by decide, Tryd.isAgg36⟩ .nil)))))) (by decide) rfl (by decide)
theorem TrydI38_ok : TIok Tryd.prog 38 TrydI38 := tiok Tryd.type38 rfl rfl rfl rfl (by intro h; first | rfl | cases h) (kind_struct Tryd.underlying38 (.cons ⟨rfl, ⟨_, Tryd.type3, rfl⟩, by decide, Tryd.isAgg3⟩ (.cons ⟨rfl, ⟨_, Tryd.type3, rfl⟩, by decide, Tryd.isAgg3⟩ (.cons ⟨rfl, ⟨_, Tryd.type3, rfl⟩, by decide, Tryd.isAgg3⟩ (.cons ⟨rfl, ⟨_, Tryd.type34, rfl⟩, by decide, Tryd.isAgg34⟩ (.cons ⟨rfl, ⟨_, Tryd.type36, rfl⟩, by decide, Tryd.isAgg36⟩ .nil)))))) (by decide) rfl (by decide)
theorem TrydI39_ok : TIok Tryd.prog 39 TrydI39 := tiok Tryd.type39 rfl rfl rfl rfl (by intro h; first | rfl | cases h) Tryd.underlying39 (by decide) rfl (by decide)
theorem TrydI40_ok : TIok Tryd.prog 40 TrydI40 := tiok Tryd.type40 rfl rfl rfl rfl (by intro h; first | rfl | cases h) Tryd.underlying40 (by decide) rfl (by decide)
theorem TrydI42_ok : TIok Tryd.prog 42 TrydI42 := tiok Tryd.type42 rfl rfl rfl rfl (by intro h; first | rfl | cases h) ⟨_, Tryd.underlying42, (by intro x h; cases h), (by intro x y h; cases h)⟩ (by decide) rfl (by decide)
theorem TrydI44_ok : TIok Tryd.prog 44 TrydI44 := tiok Tryd.type44 rfl rfl rfl rfl (by intro h; first | rfl | cases h) ⟨_, Tryd.underlying44, (by intro x h; cases h), (by intro x y h; cases h)⟩ (by decide) rfl (by decide)
theorem TrydI45_ok : TIok Tryd.prog 45 TrydI45 := tiok Tryd.type45 rfl rfl rfl rfl (by intro h; first | rfl | cases h) ⟨_, Tryd.underlying45, (by intro x h; cases h), (by intro x y h; cases h)⟩ (by decide) rfl (by decide)
theorem TrydI46_ok : TIok Tryd.prog 46 TrydI46 := tiok Tryd.type46 rfl rfl rfl rfl (by intro h; first | rfl | cases h) Tryd.underlying46 (by decide) rfl (by decide)
theorem TrydI47_ok : TIok Tryd.prog 47 TrydI47 := tiok Tryd.type47 rfl rfl rfl rfl (by intro h; first | rfl | cases h) Tryd.underlying47 (by decide) rfl (by decide)
theorem TrydI48_ok : TIok Tryd.prog 48 TrydI48 := tiok Tryd.type48 rfl rfl rfl rfl (by intro h; first | rfl | cases h) (kind_struct Tryd.underlying48 (.cons ⟨rfl, ⟨_, Tryd.type5, rfl⟩, by decide, Tryd.isAgg5⟩ (.cons ⟨rfl, ⟨_, Tryd.type5, rfl⟩, by decide, Tryd.isAgg5⟩ (.cons ⟨rfl, ⟨_, Tryd.type46, rfl⟩, by decide, Tryd.isAgg46⟩ (.cons ⟨rfl, ⟨_, Tryd.type47, rfl⟩, by decide, Tryd.isAgg47⟩ .nil))))) (by decide) rfl (by decide)
theorem TrydI49_ok : TIok Tryd.prog 49 TrydI49 := tiok Tryd.type49 rfl rfl rfl rfl (by intro h; first | rfl | cases h) (kind_struct Tryd.underlying49 (.cons ⟨rfl, ⟨_, Tryd.type5, rfl⟩, by decide, Tryd.isAgg5⟩ (.cons ⟨rfl, ⟨_, Tryd.type5, rfl⟩, by decide, Tryd.isAgg5⟩ (.cons ⟨rfl, ⟨_, Tryd.type46, rfl⟩, by decide, Tryd.isAgg46⟩ (.cons ⟨rfl, ⟨_, Tryd.type47, rfl⟩, by decide, Tryd.isAgg47⟩ .nil))))) (by decide) rfl (by decide)
theorem TrydI50_ok : TIok Tryd.prog 50 TrydI50 := tiok Tryd.type50 rfl rfl rfl rfl (by intro h; first | rfl | cases h) ⟨_, Tryd.underlying50, (by intro x h; cases h), (by intro x y h; cases h)⟩ (by decide) rfl (by decide)
theorem TrydI51_ok : TIok Tryd.prog 51 TrydI51 := tiok Tryd.type51 rfl rfl rfl rfl (by intro h; first | rfl | cases h) Tryd.underlying51 (by decide) rfl (by decide)
theorem TrydI53_ok : TIok Tryd.prog 53 TrydI53 := tiok Tryd.type53 rfl rfl rfl rfl (by intro h; first | rfl | cases h) ⟨_, Tryd.underlying53, (by intro x h; cases h), (by intro x y h; cases h)⟩ (by decide) rfl (by decide)
theorem TrydI54_ok : TIok Tryd.prog 54 TrydI54 := tiok Tryd.type54 rfl rfl rfl rfl (by intro h; first | rfl | cases h) (kind_struct Tryd.underlying54 (.cons ⟨rfl, ⟨_, Tryd.type3, rfl⟩, by decide, Tryd.isAgg3⟩ (.cons ⟨rfl, ⟨_, Tryd.type24, rfl⟩, by decide, Tryd.isAgg24⟩ .nil))) (by decide) rfl (by decide)
theorem TrydI55_ok : TIok Tryd.prog 55 TrydI55 := tiok Tryd.type55 rfl rfl rfl rfl (by intro h; first | rfl | cases h) (kind_struct Tryd.underlying55 (.cons ⟨rfl, ⟨_, Tryd.type3, rfl⟩, by decide, Tryd.isAgg3⟩ (.cons ⟨rfl, ⟨_, Tryd.type24, rfl⟩, by decide, Tryd.isAgg24⟩ .nil))) (by decide) rfl (by decide)
theorem TrydI56_ok : TIok Tryd.prog 56 TrydI56 := tiok Tryd.type56 rfl rfl rfl rfl (by intro h; first | rfl | cases h) (kind_struct Tryd.underlying56 (.cons ⟨rfl, ⟨_, Tryd.type24, rfl⟩, by decide, Tryd.isAgg24⟩ (.cons ⟨rfl, ⟨_, Tryd.type55, rfl⟩, by decide, Tryd.isAgg55⟩ .nil))) (by decide) rfl (by decide)
theorem TrydI57_ok : TIok Tryd.prog 57 TrydI57 := tiok Tryd.type57 rfl rfl rfl rfl (by intro h; first | rfl | cases h) (kind_struct Tryd.underlying57 (.cons ⟨rfl, ⟨_, Tryd.type24, rfl⟩, by decide, Tryd.isAgg24⟩ (.cons ⟨rfl, ⟨_, Tryd.type55, rfl⟩, by decide, Tryd.isAgg55⟩ .nil))) (by decide) rfl (by decide)
theorem TrydI58_ok : TIok Tryd.prog 58 TrydI58 := tiok Tryd.type58 rfl rfl rfl rfl (by intro h; first | rfl | cases h) ⟨_, Tryd.underlying58, (by intro x h; cases h), (by intro x y h; cases h)⟩ (by decide) rfl (by decide)
theorem TrydI59_ok : TIok Tryd.prog 59 TrydI59 := tiok Tryd.type59 rfl rfl rfl rfl (by intro h; first | rfl | cases h) ⟨_, Tryd.underlying59, (by intro x h; cases h), (by intro x y h; cases h)⟩ (by decide) rfl (by decide)
theorem TrydI60_ok : TIok Tryd.prog 60 TrydI60 := tiok Tryd.type60 rfl rfl rfl rfl (by intro h; first | rfl | cases h) ⟨_, Tryd.underlying60, (by intro x h; cases h), (by intro x y h; cases h)⟩ (by decide) rfl (by decide)
theorem TrydI62_ok : TIok Tryd.prog 62 TrydI62 := tiok Tryd.type62 rfl rfl rfl rfl (by intro h; first | rfl | cases h) ⟨_, Tryd.underlying62, (by intro x h; cases h), (by intro x y h; cases h)⟩ (by decide) rfl (by decide)
theorem TrydI64_ok : TIok Tryd.prog 64 TrydI64 := tiok Tryd.type64 rfl rfl rfl rfl (by intro h; first | rfl | cases h) ⟨_, Tryd.underlying64, (by intro x h; cases h), (by intro x y h; cases h)⟩ (by decide) rfl (by decide)
theorem TrydI65_ok : TIok Tryd.prog 65 TrydI65 := tiok Tryd.type65 rfl rfl rfl rfl (by intro h; first | rfl | cases h) ⟨_, Tryd.underlying65, (by intro x h; cases h), (by intro x y h; cases h)⟩ (by decide) rfl (by decide)
theorem TrydI66_ok : TIok Tryd.prog 66 TrydI66 := tiok Tryd.type66 rfl rfl rfl rfl (by intro h; first | rfl | cases h) ⟨_, Tryd.underlying66, (by intro x h; cases h), (by intro x y h; cases h)⟩ (by decide) rfl (by decide)
theorem TrydI67_ok : TIok Tryd.prog 67 TrydI67 := tiok Tryd.type67 rfl rfl rfl rfl (by intro h; first | rfl | cases h) ⟨_, Tryd.underlying67, (by intro x h; cases h), (by intro x y h; cases h)⟩ (by decide) rfl (by decide)
theorem TrydI69_ok : TIok Tryd.prog 69 TrydI69 := tiok Tryd.type69 rfl rfl rfl rfl (by intro h; first | rfl | cases h) ⟨_, Tryd.underlying69, (by intro x h; cases h), (by intro x y h; cases h)⟩ (by decide) rfl (by decide)
theorem TrydI70_ok : TIok Tryd.prog 70 TrydI70 := tiok Tryd.type70 rfl rfl rfl rfl (by intro h; first | rfl | cases h) ⟨_, Tryd.underlying70, (by intro x h; cases h), (by intro x y h; cases h)⟩ (by decide) rfl (by decide)
theorem TrydI71_ok : TIok Tryd.prog 71 TrydI71 := tiok Tryd.type71 rfl rfl rfl rfl (by intro h; first | rfl | cases h) ⟨_, Tryd.underlying71, (by intro x h; cases h), (by intro x y h; cases h)⟩ (by decide) rfl (by decide)
theorem TrydI73_ok : TIok Tryd.prog 73 TrydI73 := tiok Tryd.type73 rfl rfl rfl rfl (by intro h; first | rfl | cases h) ⟨_, Tryd.underlying73, (by intro x h; cases h), (by intro x y h; cases h)⟩ (by decide) rfl (by decide)
theorem TrydI74_ok : TIok Tryd.prog 74 TrydI74 := tiok Tryd.type74 rfl rfl rfl rfl (by intro h; first | rfl | cases h) ⟨_, Tryd.underlying74, (by intro x h; cases h), (by intro x y h; cases h)⟩ (by decide) rfl (by decide)
theorem TrydI76_ok : TIok Tryd.prog 76 TrydI76 := tiok Tryd.type76 rfl rfl rfl rfl (by intro h; first | rfl | cases h) ⟨_, Tryd.underlying76, (by intro x h; cases h), (by intro x y h; cases h)⟩ (by decide) rfl (by decide)
theorem TrydI77_ok : TIok Tryd.prog 77 TrydI77 := tiok Tryd.type77 rfl rfl rfl rfl (by intro h; first | rfl | cases h) ⟨_, Tryd.underlying77, (by intro x h; cases h), (by intro x y h; cases h)⟩ (by decide) rfl (by decide)
theorem TrydI79_ok : TIok Tryd.prog 79 TrydI79 := tiok Tryd.type79 rfl rfl rfl rfl (by intro h; first | rfl | cases h) ⟨_, Tryd.underlying79, (by intro x h; cases h), (by intro x y h; cases h)⟩ (by decide) rfl (by decide)
theorem TrydI80_ok : TIok Tryd.prog 80 TrydI80 := tiok Tryd.type80 rfl rfl rfl rfl (by intro h; first | rfl | cases h) ⟨_, Tryd.underlying80, (by intro x h; cases h), (by intro x y h; cases h)⟩ (by decide) rfl (by decide)
theorem TrydI81_ok : TIok Tryd.prog 81 TrydI81 := tiok Tryd.type81 rfl rfl rfl rfl (by intro h; first | rfl | cases h) Tryd.underlying81 (by decide) rfl (by decide)
theorem TrydI83_ok : TIok Tryd.prog 83 TrydI83 := tiok Tryd.type83 rfl rfl rfl rfl (by intro h; first | rfl | cases h) ⟨_, Tryd.underlying83, (by intro x h; cases h), (by intro x y h; cases h)⟩ (by decide) rfl (by decide)
theorem TrydI84_ok : TIok Tryd.prog 84 TrydI84 := tiok Tryd.type84 rfl rfl rfl rfl (by intro h; first | rfl | cases h) ⟨_, Tryd.underlying84, (by intro x h; cases h), (by intro x y h; cases h)⟩ (by decide) rfl (by decide)
theorem TrydI85_ok : TIok Tryd.prog 85 TrydI85 := tiok Tryd.type85 rfl rfl rfl rfl (by intro h; first | rfl | cases h) ⟨_, Tryd.underlying85, (by intro x h; cases h), (by intro x y h; cases h)⟩ (by decide) rfl (by decide)
theorem TrydI86_ok : TIok Tryd.prog 86 TrydI86 := tiok Tryd.type86 rfl rfl rfl rfl (by intro h; first | rfl | cases h) ⟨_, Tryd.underlying86, (by intro x h; cases h), (by intro x y h; cases h)⟩ (by decide) rfl (by decide)
theorem TrydI87_ok : TIok Tryd.prog 87 TrydI87 := tiok Tryd.type87 rfl rfl rfl rfl (by intro h; first | rfl | cases h) ⟨_, Tryd.underlying87, (by intro x h; cases h), (by intro x y h; cases h)⟩ (by decide) rfl (by decide)
theorem TrydI88_ok : TIok Tryd.prog 88 TrydI88 := tiok Tryd.type88 rfl rfl rfl rfl (by intro h; first | rfl | cases h) ⟨_, Tryd.underlying88, (by intro x h; cases h), (by intro x y h; cases h)⟩ (by decide) rfl (by decide)
theorem TrydI89_ok : TIok Tryd.prog 89 TrydI89 := tiok Tryd.type89 rfl rfl rfl rfl (by intro h; first | rfl | cases h) ⟨_, Tryd.underlying89, (by intro x h; cases h), (by intro x y h; cases h)⟩ (by decide) rfl (by decide)
theorem TrydI90_ok : TIok Tryd.prog 90 TrydI90 := tiok Tryd.type90 rfl rfl rfl rfl (by intro h; first | rfl | cases h) ⟨_, Tryd.underlying90, (by intro x h; cases h), (by intro x y h; cases h)⟩ (by decide) rfl (by decide)
theorem TrydI91_ok : TIok Tryd.prog 91 TrydI91 := tiok Tryd.type91 rfl rfl rfl rfl (by intro h; first | rfl | cases h) (kind_struct Tryd.underlying91 (.cons ⟨rfl, ⟨_, Tryd.type3, rfl⟩, by decide, Tryd.isAgg3⟩ (.cons ⟨rfl, ⟨_, Tryd.type34, rfl⟩, by decide, Tryd.isAgg34⟩ .nil))) (by decide) rfl (by decide)
theorem TrydI92_ok : TIok Tryd.prog 92 TrydI92 := tiok Tryd.type92 rfl rfl rfl rfl (by intro h; first | rfl | cases h) (kind_struct Tryd.underlying92 (.cons ⟨rfl, ⟨_, Tryd.type3, rfl⟩, by decide, Tryd.isAgg3⟩ (.cons ⟨rfl, ⟨_, Tryd.type34, rfl⟩, by decide, Tryd.isAgg34⟩ .nil))) (by decide) rfl (by decide)
theorem TrydI93_ok : TIok Tryd.prog 93 TrydI93 := tiok Tryd.type93 rfl rfl rfl rfl (by intro h; first | rfl | cases h) Tryd.underlying93 (by decide) rfl (by decide)
theorem TrydI94_ok : TIok Tryd.prog 94 TrydI94 := tiok Tryd.type94 rfl rfl rfl rfl (by intro h; first | rfl | cases h) (kind_struct Tryd.underlying94 (.cons ⟨rfl, ⟨_, Tryd.type3, rfl⟩, by decide, Tryd.isAgg3⟩ (.cons ⟨rfl, ⟨_, Tryd.type3, rfl⟩, by decide, Tryd.isAgg3⟩ .nil))) (by decide) rfl (by decide)
theorem TrydI95_ok : TIok Tryd.prog 95 TrydI95 := tiok Tryd.type95 rfl rfl rfl rfl (by intro h; first | rfl | cases h) (kind_struct Tryd.underlying95 (.cons ⟨rfl, ⟨_, Tryd.type3, rfl⟩, by decide, Tryd.isAgg3⟩ (.cons ⟨rfl, ⟨_, Tryd.type3, rfl⟩, by decide, Tryd.isAgg3⟩ .nil))) (by decide) rfl (by decide)
theorem TrydI97_ok : TIok Tryd.prog 97 TrydI97 := tiok Tryd.type97 rfl rfl rfl rfl (by intro h; first | rfl | cases h) ⟨_, Tryd.underlying97, (by intro x h; cases h), (by intro x y h; cases h)⟩ (by decide) rfl (by decide)
theorem TrydI98_ok : TIok Tryd.prog 98 TrydI98 := tiok Tryd.type98 rfl rfl rfl rfl (by intro h; first | rfl | cases h) ⟨_, Tryd.underlying98, (by intro x h; cases h), (by intro x y h; cases h)⟩ (by decide) rfl (by decide)
theorem TrydI99_ok : TIok Tryd.prog 99 TrydI99 := tiok Tryd.type99 rfl rfl rfl rfl (by intro h; first | rfl | cases h) ⟨_, Tryd.underlying99, (by intro x h; cases h), (by intro x y h; cases h)⟩ (by decide) rfl (by decide)
theorem TrydI100_ok : TIok Tryd.prog 100 TrydI100 := tiok Tryd.type100 rfl rfl rfl rfl (by intro h; first | rfl | cases h) Tryd.underlying100 (by decide) rfl (by decide)
theorem TrydI101_ok : TIok Tryd.prog 101 TrydI101 := tiok Tryd.type101 rfl rfl rfl rfl (by intro h; first | rfl | cases h) Tryd.underlying101 (by decide) rfl (by decide)
theorem TrydI102_ok : TIok Tryd.prog 102 TrydI102 := tiok Tryd.type102 rfl rfl rfl rfl (by intro h; first | rfl | cases h) (kind_struct Tryd.underlying102 (.cons ⟨rfl, ⟨_, Tryd.type100, rfl⟩, by decide, Tryd.isAgg100⟩ (.cons ⟨rfl, ⟨_, Tryd.type101, rfl⟩, by decide, Tryd.isAgg101⟩ (.cons ⟨rfl, ⟨_, Tryd.type101, rfl⟩, by decide, Tryd.isAgg101⟩ .nil)))) (by decide) rfl (by decide)
theorem TrydI103_ok : TIok Tryd.prog 103 TrydI103 := tiok Tryd.type103 rfl rfl rfl rfl (by intro h; first | rfl | cases h) (kind_struct Tryd.underlying103 (.cons ⟨rfl, ⟨_, Tryd.type100, rfl⟩, by decide, Tryd.isAgg100⟩ (.cons ⟨rfl, ⟨_, Tryd.type101, rfl⟩, by decide, Tryd.isAgg101⟩ (.cons ⟨rfl, ⟨_, Tryd.type101, rfl⟩, by decide, Tryd.isAgg101⟩ .nil)))) (by decide) rfl (by decide)
theorem TrydI104_ok : TIok Tryd.prog 104 TrydI104 := tiok Tryd.type104 rfl rfl rfl rfl (by intro h; first | rfl | cases h) ⟨_, Tryd.underlying104, (by intro x h; cases h), (by intro x y h; cases h)⟩ (by decide) rfl (by decide)
theorem TrydI106_ok : TIok Tryd.prog 106 TrydI106 := tiok Tryd.type106 rfl rfl rfl rfl (by intro h; first | rfl | cases h) ⟨_, Tryd.underlying106, (by intro x h; cases h), (by intro x y h; cases h)⟩ (by decide) rfl (by decide)
theorem TrydI107_ok : TIok Tryd.prog 107 TrydI107 := tiok Tryd.type107 rfl rfl rfl rfl (by intro h; first | rfl | cases h) ⟨_, Tryd.underlying107, (by intro x h; cases h), (by intro x y h; cases h)⟩ (by decide) rfl (by decide)
theorem TrydI108_ok : TIok Tryd.prog 108 TrydI108 := tiok Tryd.type108 rfl rfl rfl rfl (by intro h; first | rfl | cases h) ⟨_, Tryd.underlying108, (by intro x h; cases h), (by intro x y h; cases h)⟩ (by decide) rfl (by decide)
theorem TrydI109_ok : TIok Tryd.prog 109 TrydI109 := tiok Tryd.type109 rfl rfl rfl rfl (by intro h; first | rfl | cases h) ⟨_, Tryd.underlying109, (by intro x h; cases h), (by intro x y h; cases h)⟩ (by decide) rfl (by decide)
theorem TrydI110_ok : TIok Tryd.prog 110 TrydI110 := tiok Tryd.type110 rfl rfl rfl rfl (by intro h; first | rfl | cases h) ⟨_, Tryd.underlying110, (by intro x h; cases h), (by intro x y h; cases h)⟩ (by decide) rfl (by decide)
theorem TrydI111_ok : TIok Tryd.prog 111 TrydI111 := tiok Tryd.type111 rfl rfl rfl rfl (by intro h; first | rfl | cases h) ⟨_, Tryd.underlying111, (by intro x h; cases h), (by intro x y h; cases h)⟩ (by decide) rfl (by decide)
theorem TrydI112_ok : TIok Tryd.prog 112 TrydI112 := tiok Tryd.type112 rfl rfl rfl rfl (by intro h; first | rfl | cases h) ⟨_, Tryd.underlying112, (by intro x h; cases h), (by intro x y h; cases h)⟩ (by decide) rfl (by decide)
theorem TrydI113_ok : TIok Tryd.prog 113 TrydI113 := tiok Tryd.type113 rfl rfl rfl rfl (by intro h; first | rfl | cases h) ⟨_, Tryd.underlying113, (by intro x h; cases h), (by intro x y h; cases h)⟩ (by decide) rfl (by decide)
theorem TrydI114_ok : TIok Tryd.prog 114 TrydI114 := tiok Tryd.type114 rfl rfl rfl rfl (by intro h; first | rfl | cases h) ⟨_, Tryd.underlying114, (by intro x h; cases h), (by intro x y h; cases h)⟩ (by decide) rfl (by decide)
theorem TrydI115_ok : TIok Tryd.prog 115 TrydI115 := tiok Tryd.type115 rfl rfl rfl rfl (by intro h; first | rfl | cases h) ⟨_, Tryd.underlying115, (by intro x h; cases h), (by intro x y h; cases h)⟩ (by decide) rfl (by decide)
theorem TrydI116_ok : TIok Tryd.prog 116 TrydI116 := tiok Tryd.type116 rfl rfl rfl rfl (by intro h; first | rfl | cases h) ⟨_, Tryd.underlying116, (by intro x h; cases h), (by intro x y h; cases h)⟩ (by decide) rfl (by decide)
theorem TrydI117_ok : TIok Tryd.prog 117 TrydI117 := tiok Tryd.type117 rfl rfl rfl rfl (by intro h; first | rfl | cases h) ⟨_, Tryd.underlying117, (by intro x h; cases h), (by intro x y h; cases h)⟩ (by decide) rfl (by decide)
theorem TrydI118_ok : TIok Tryd.prog 118 TrydI118 := tiok Tryd.type118 rfl rfl rfl rfl (by intro h; first | rfl | cases h) Tryd.underlying118 (by decide) rfl (by decide)
theorem TrydI119_ok : TIok Tryd.prog 119 TrydI119 := tiok Tryd.type119 rfl rfl rfl rfl (by intro h; first | rfl | cases h) Tryd.underlying119 (by decide) rfl (by decide)
theorem TrydI120_ok : TIok Tryd.prog 120 TrydI120 := tiok Tryd.type120 rfl rfl rfl rfl (by intro h; first | rfl | cases h) Tryd.underlying120 (by decide) rfl (by decide)
theorem TrydI121_ok : TIok Tryd.prog 121 TrydI121 := tiok Tryd.type121 rfl rfl rfl rfl (by intro h; first | rfl | cases h) Tryd.underlying121 (by decide) rfl (by decide)
theorem TrydI122_ok : TIok Tryd.prog 122 TrydI122 := tiok Tryd.type122 rfl rfl rfl rfl (by intro h; first | rfl | cases h) (kind_struct Tryd.underlying122 (.cons ⟨rfl, ⟨_, Tryd.type101, rfl⟩, by decide, Tryd.isAgg101⟩ (.cons ⟨rfl, ⟨_, Tryd.type3, rfl⟩, by decide, Tryd.isAgg3⟩ (.cons ⟨rfl, ⟨_, Tryd.type3, rfl⟩, by decide, Tryd.isAgg3⟩ .nil)))) (by decide) rfl (by decide)
theorem TrydI123_ok : TIok Tryd.prog 123 TrydI123 := tiok Tryd.type123 rfl rfl rfl rfl (by intro h; first | rfl | cases h) (kind_struct Tryd.underlying123 (.cons ⟨rfl, ⟨_, Tryd.type101, rfl⟩, by decide, Tryd.isAgg101⟩ (.cons ⟨rfl, ⟨_, Tryd.type3, rfl⟩, by decide, Tryd.isAgg3⟩ (.cons ⟨rfl, ⟨_, Tryd.type3, rfl⟩, by decide, Tryd.isAgg3⟩ .nil)))) (by decide) rfl (by decide)
theorem TrydI124_ok : TIok Tryd.prog 124 TrydI124 := tiok Tryd.type124 rfl rfl rfl rfl (by intro h; first | rfl | cases h) ⟨_, Tryd.underlying124, (by intro x h; cases h), (by intro x y h; cases h)⟩ (by decide) rfl (by decide)
theorem TrydI126_ok : TIok Tryd.prog 126 TrydI126 := tiok Tryd.type126 rfl rfl rfl rfl (by intro h; first | rfl | cases h) ⟨_, Tryd.underlying126, (by intro x h; cases h), (by intro x y h; cases h)⟩ (by decide) rfl (by decide)
theorem TrydI127_ok : TIok Tryd.prog 127 TrydI127 := tiok Tryd.type127 rfl rfl rfl rfl (by intro h; first | rfl | cases h) Tryd.underlying127 (by decide) rfl (by decide)
theorem TrydI129_ok : TIok Tryd.prog 129 TrydI129 := tiok Tryd.type129 rfl rfl rfl rfl (by intro h; first | rfl | cases h) ⟨_, Tryd.underlying129, (by intro x h; cases h), (by intro x y h; cases h)⟩ (by decide) rfl (by decide)
theorem TrydI130_ok : TIok Tryd.prog 130 TrydI130 := tiok Tryd.type130 rfl rfl rfl rfl (by intro h; first | rfl | cases h) ⟨_, Tryd.underlying130, (by intro x h; cases h), (by intro x y h; cases h)⟩ (by decide) rfl (by decide)
theorem TrydI131_ok : TIok Tryd.prog 131 TrydI131 := tiok Tryd.type131 rfl rfl rfl rfl (by intro h; first | rfl | cases h) ⟨_, Tryd.underlying131, (by intro x h; cases h), (by intro x y h; cases h)⟩ (by decide) rfl (by decide)
theorem TrydI132_ok : TIok Tryd.prog 132 TrydI132 := tiok Tryd.type132 rfl rfl rfl rfl (by intro h; first | rfl | cases h) ⟨_, Tryd.underlying132, (by intro x h; cases h), (by intro x y h; cases h)⟩ (by decide) rfl (by decide)
theorem TrydI133_ok : TIok Tryd.prog 133 TrydI133 := tiok Tryd.type133 rfl rfl rfl rfl (by intro h; first | rfl | cases h) ⟨_, Tryd.underlying133, (by intro x h; cases h), (by intro x y h; cases h)⟩ (by decide) rfl (by decide)
theorem TrydI134_ok : TIok Tryd.prog 134 TrydI134 := tiok Tryd.type134 rfl rfl rfl rfl (by intro h; first | rfl | cases h) ⟨_, Tryd.underlying134, (by intro x h; cases h), (by intro x y h; cases h)⟩ (by decide) rfl (by decide)
theorem TrydI135_ok : TIok Tryd.prog 135 TrydI135 := tiok Tryd.type135 rfl rfl rfl rfl (by intro h; first | rfl | cases h) ⟨_, Tryd.underlying135, (by intro x h; cases h), (by intro x y h; cases h)⟩ (by decide) rfl (by decide)
theorem TrydI136_ok : TIok Tryd.prog 136 TrydI136 := tiok Tryd.type136 rfl rfl rfl rfl (by intro h; first | rfl | cases h) ⟨_, Tryd.underlying136, (by intro x h; cases h), (by intro x y h; cases h)⟩ (by decide) rfl (by decide)
theorem TrydI137_ok : TIok Tryd.prog 137 TrydI137 := tiok Tryd.type137 rfl rfl rfl rfl (by intro h; first | rfl | cases h) ⟨_, Tryd.underlying137, (by intro x h; cases h), (by intro x y h; cases h)⟩ (by decide) rfl (by decide)
theorem TrydI138_ok : TIok Tryd.prog 138 TrydI138 := tiok Tryd.type138 rfl rfl rfl rfl (by intro h; first | rfl | cases h) ⟨_, Tryd.underlying138, (by intro x h; cases h), (by intro x y h; cases h)⟩ (by decide) rfl (by decide)
theorem TrydI139_ok : TIok Tryd.prog 139 TrydI139 := tiok Tryd.type139 rfl rfl rfl rfl (by intro h; first | rfl | cases h) ⟨_, Tryd.underlying139, (by intro x h; cases h), (by intro x y h; cases h)⟩ (by decide) rfl (by decide)
theorem TrydI140_ok : TIok Tryd.prog 140 TrydI140 := tiok Tryd.type140 rfl rfl rfl rfl (by intro h; first | rfl | cases h) ⟨_, Tryd.underlying140, (by intro x h; cases h), (by intro x y h; cases h)⟩ (by decide) rfl (by decide)
theorem TrydI141_ok : TIok Tryd.prog 141 TrydI141 := tiok Tryd.type141 rfl rfl rfl rfl (by intro h; first | rfl | cases h) ⟨_, Tryd.underlying141, (by intro x h; cases h), (by intro x y h; cases h)⟩ (by decide) rfl (by decide)
theorem TrydI142_ok : TIok Tryd.prog 142 TrydI142 := tiok Tryd.type142 rfl rfl rfl rfl (by intro h; first | rfl | cases h) ⟨_, Tryd.underlying142, (by intro x h; cases h), (by intro x y h; cases h)⟩ (by decide) rfl (by decide)
theorem TrydI143_ok : TIok Tryd.prog 143 TrydI143 := tiok Tryd.type143 rfl rfl rfl rfl (by intro h; first | rfl | cases h) Tryd.underlying143 (by decide) rfl (by decide)
theorem TrydI144_ok : TIok Tryd.prog 144 TrydI144 := tiok Tryd.type144 rfl rfl rfl rfl (by intro h; first | rfl | cases h) ⟨_, Tryd.underlying144, (by intro x h; cases h), (by intro x y h; cases h)⟩ (by decide) rfl (by decide)
theorem TrydI145_ok : TIok Tryd.prog 145 TrydI145 := tiok Tryd.type145 rfl rfl rfl rfl (by intro h; first | rfl | cases h) Tryd.underlying145 (by decide) rfl (by decide)
theorem TrydI146_ok : TIok Tryd.prog 146 TrydI146 := tiok Tryd.type146 rfl rfl rfl rfl (by intro h; first | rfl | cases h) ⟨_, Tryd.underlying146, (by intro x h; cases h), (by intro x y h; cases h)⟩ (by decide) rfl (by decide)
theorem TrydI147_ok : TIok Tryd.prog 147 TrydI147 := tiok Tryd.type147 rfl rfl rfl rfl (by intro h; first | rfl | cases h) ⟨_, Tryd.underlying147, (by intro x h; cases h), (by intro x y h; cases h)⟩ (by decide) rfl (by decide)
theorem TrydI148_ok : TIok Tryd.prog 148 TrydI148 := tiok Tryd.type148 rfl rfl rfl rfl (by intro h; first | rfl | cases h) ⟨_, Tryd.underlying148, (by intro x h; cases h), (by intro x y h; cases h)⟩ (by decide) rfl (by decide)
theorem TrydI149_ok : TIok Tryd.prog 149 TrydI149 := tiok Tryd.type149 rfl rfl rfl rfl (by intro h; first | rfl | cases h) ⟨_, Tryd.underlying149, (by intro x h; cases h), (by intro x y h; cases h)⟩ (by decide) rfl (by decide)
theorem TrydI150_ok : TIok Tryd.prog 150 TrydI150 := tiok Tryd.type150 rfl rfl rfl rfl (by intro h; first | rfl | cases h) ⟨_, Tryd.underlying150, (by intro x h; cases h), (by intro x y h; cases h)⟩ (by decide) rfl (by decide)
theorem TrydI151_ok : TIok Tryd.prog 151 TrydI151 := tiok Tryd.type151 rfl rfl rfl rfl (by intro h; first | rfl | cases h) ⟨_, Tryd.underlying151, (by intro x h; cases h), (by intro x y h; cases h)⟩ (by decide) rfl (by decide)
theorem TrydI152_ok : TIok Tryd.prog 152 TrydI152 := tiok Tryd.type152 rfl rfl rfl rfl (by intro h; first | rfl | cases h) ⟨_, Tryd.underlying152, (by intro x h; cases h), (by intro x y h; cases h)⟩ (by decide) rfl (by decide)
theorem TrydI153_ok : TIok Tryd.prog 153 TrydI153 := tiok Tryd.type153 rfl rfl rfl rfl (by intro h; first | rfl | cases h) ⟨_, Tryd.underlying153, (by intro x h; cases h), (by intro x y h; cases h)⟩ (by decide) rfl (by decide)
theorem TrydI154_ok : TIok Tryd.prog 154 TrydI154 := tiok Tryd.type154 rfl rfl rfl rfl (by intro h; first | rfl | cases h) Tryd.underlying154 (by decide) rfl (by decide)
theorem TrydI155_ok : TIok Tryd.prog 155 TrydI155 := tiok Tryd.type155 rfl rfl rfl rfl (by intro h; first | rfl | cases h) Tryd.underlying155 (by decide) rfl (by decide)
theorem TrydI156_ok : TIok Tryd.prog 156 TrydI156 := tiok Tryd.type156 rfl rfl rfl rfl (by intro h; first | rfl | cases h) ⟨_, Tryd.underlying156, (by intro x h; cases h), (by intro x y h; cases h)⟩ (by decide) rfl (by decide)
theorem TrydI157_ok : TIok Tryd.prog 157 TrydI157 := tiok Tryd.type157 rfl rfl rfl rfl (by intro h; first | rfl | cases h) ⟨_, Tryd.underlying157, (by intro x h; cases h), (by intro x y h; cases h)⟩ (by decide) rfl (by decide)
theorem TrydI159_ok : TIok Tryd.prog 159 TrydI159 := tiok Tryd.type159 rfl rfl rfl rfl (by intro h; first | rfl | cases h) ⟨_, Tryd.underlying159, (by intro x h; cases h), (by intro x y h; cases h)⟩ (by decide) rfl (by decide)
theorem TrydI160_ok : TIok Tryd.prog 160 TrydI160 := tiok Tryd.type160 rfl rfl rfl rfl (by intro h; first | rfl | cases h) ⟨_, Tryd.underlying160, (by intro x h; cases h), (by intro x y h; cases h)⟩ (by decide) rfl (by decide)
theorem TrydI161_ok : TIok Tryd.prog 161 TrydI161 := tiok Tryd.type161 rfl rfl rfl rfl (by intro h; first | rfl | cases h) Tryd.underlying161 (by decide) rfl (by decide)
theorem TrydI162_ok : TIok Tryd.prog 162 TrydI162 := tiok Tryd.type162 rfl rfl rfl rfl (by intro h; first | rfl | cases h) Tryd.underlying162 (by decide) rfl (by decide)
theorem TrydI164_ok : TIok Tryd.prog 164 TrydI164 := tiok Tryd.type164 rfl rfl rfl rfl (by intro h; first | rfl | cases h) ⟨_, Tryd.underlying164, (by intro x h; cases h), (by intro x y h; cases h)⟩ (by decide) rfl (by decide)
theorem TrydI165_ok : TIok Tryd.prog 165 TrydI165 := tiok Tryd.type165 rfl rfl rfl rfl (by intro h; first | rfl | cases h) ⟨_, Tryd.underlying165, (by intro x h; cases h), (by intro x y h; cases h)⟩ (by decide) rfl (by decide)
theorem TrydI166_ok : TIok Tryd.prog 166 TrydI166 := tiok Tryd.type166 rfl rfl rfl rfl (by intro h; first | rfl | cases h) Tryd.underlying166 (by decide) rfl (by decide)
theorem TrydI167_ok : TIok Tryd.prog 167 TrydI167 := tiok Tryd.type167 rfl rfl rfl rfl (by intro h; first | rfl | cases h) Tryd.underlying167 (by decide) rfl (by decide)
theorem TrydI168_ok : TIok Tryd.prog 168 TrydI168 := tiok Tryd.type168 rfl rfl rfl rfl (by intro h; first | rfl | cases h) ⟨_, Tryd.underlying168, (by intro x h; cases h), (by intro x y h; cases h)⟩ (by decide) rfl (by decide)
theorem TrydI169_ok : TIok Tryd.prog 169 TrydI169 := tiok Tryd.type169 rfl rfl rfl rfl (by intro h; first | rfl | cases h) (kind_struct Tryd.underlying169 (.cons ⟨rfl, ⟨_, Tryd.type17, rfl⟩, by decide, Tryd.isAgg17⟩ (.cons ⟨rfl, ⟨_, Tryd.type17, rfl⟩, by decide, Tryd.isAgg17⟩ (.cons ⟨rfl, ⟨_, Tryd.type17, rfl⟩, by decide, Tryd.isAgg17⟩ (.cons ⟨rfl, ⟨_, Tryd.type9, rfl⟩, by decide, Tryd.isAgg9⟩ .nil))))) (by decide) rfl (by decide)
theorem TrydI170_ok : TIok Tryd.prog 170 TrydI170 := tiok Tryd.type170 rfl rfl rfl rfl (by intro h; first | rfl | cases h) (kind_struct Tryd.underlying170 (.cons ⟨rfl, ⟨_, Tryd.type17, rfl⟩, by decide, Tryd.isAgg17⟩ (.cons ⟨rfl, ⟨_, Tryd.type17, rfl⟩, by decide, Tryd.isAgg17⟩ (.cons ⟨rfl, ⟨_, Tryd.type17, rfl⟩, by decide, Tryd.isAgg17⟩ (.cons ⟨rfl, ⟨_, Tryd.type9, rfl⟩, by decide, Tryd.isAgg9⟩ .nil))))) (by decide) rfl (by decide)
theorem TrydI174_ok : TIok Tryd.prog 174 TrydI174 := tiok Tryd.type174 rfl rfl rfl rfl (by intro h; first | rfl | cases h) Tryd.underlying174 (by decide) rfl (by decide)
theorem TrydI175_ok : TIok Tryd.prog 175 TrydI175 := tiok Tryd.type175 rfl rfl rfl rfl (by intro h; first | rfl | cases h) Tryd.underlying175 (by decide) rfl (by decide)
theorem TrydI176_ok : TIok Tryd.prog 176 TrydI176 := tiok Tryd.type176 rfl rfl rfl rfl (by intro h; first | rfl | cases h) ⟨_, Tryd.underlying176, (by intro x h; cases h), (by intro x y h; cases h)⟩ (by decide) rfl (by decide)
theorem TrydI177_ok : TIok Tryd.prog 177 TrydI177 := tiok Tryd.type177 rfl rfl rfl rfl (by intro h; first | rfl | cases h) Tryd.underlying177 (by decide) rfl (by decide)
theorem TrydI178_ok : TIok Tryd.prog 178 TrydI178 := tiok Tryd.type178 rfl rfl rfl rfl (by intro h; first | rfl | cases h) Tryd.underlying178 (by decide) rfl (by decide)
theorem TrydI179_ok : TIok Tryd.prog 179 TrydI179 := tiok Tryd.type179 rfl rfl rfl rfl (by intro h; first | rfl | cases h) Tryd.underlying179 (by decide) rfl (by decide)
theorem TrydI180_ok : TIok Tryd.prog 180 TrydI180 := tiok Tryd.type180 rfl rfl rfl rfl (by intro h; first | rfl | cases h) (kind_struct Tryd.underlying180 (.cons ⟨rfl, ⟨_, Tryd.type12, rfl⟩, by decide, Tryd.isAgg12⟩ (.cons ⟨rfl, ⟨_, Tryd.type12, rfl⟩, by decide, Tryd.isAgg12⟩ (.cons ⟨rfl, ⟨_, Tryd.type162, rfl⟩, by decide, Tryd.isAgg162⟩ (.cons ⟨rfl, ⟨_, Tryd.type174, rfl⟩, by decide, Tryd.isAgg174⟩ (.cons ⟨rfl, ⟨_, Tryd.type5, rfl⟩, by decide, Tryd.isAgg5⟩ (.cons ⟨rfl, ⟨_, Tryd.type5, rfl⟩, by decide, Tryd.isAgg5⟩ (.cons ⟨rfl, ⟨_, Tryd.type175, rfl⟩, by decide, Tryd.isAgg175⟩ (.cons ⟨rfl, ⟨_, Tryd.type176, rfl⟩, by decide, Tryd.isAgg176⟩ (.cons ⟨rfl, ⟨_, Tryd.type177, rfl⟩, by decide, Tryd.isAgg177⟩ (.cons ⟨rfl, ⟨_, Tryd.type178, rfl⟩, by decide, Tryd.isAgg178⟩ (.cons ⟨rfl, ⟨_, Tryd.type179, rfl⟩, by decide, Tryd.isAgg179⟩ .nil)))))))))))) (by decide) rfl (by decide)
theorem TrydI181_ok : TIok Tryd.prog 181 TrydI181 := tiok Tryd.type181 rfl rfl rfl rfl (by intro h; first | rfl | cases h) (kind_struct Tryd.underlying181 (.cons ⟨rfl, ⟨_, Tryd.type12, rfl⟩, by decide, Tryd.isAgg12⟩ (.cons ⟨rfl, ⟨_, Tryd.type12, rfl⟩, by decide, Tryd.isAgg12⟩ (.cons ⟨rfl, ⟨_, Tryd.type162, rfl⟩, by decide, Tryd.isAgg162⟩ (.cons ⟨rfl, ⟨_, Tryd.type174, rfl⟩, by decide, Tryd.isAgg174⟩ (.cons ⟨rfl, ⟨_, Tryd.type5, rfl⟩, by decide, Tryd.isAgg5⟩ (.cons ⟨rfl, ⟨_, Tryd.type5, rfl⟩, by decide, Tryd.isAgg5⟩ (.cons ⟨rfl, ⟨_, Tryd.type175, rfl⟩, by decide, Tryd.isAgg175⟩ (.cons ⟨rfl, ⟨_, Tryd.type176, rfl⟩, by decide, Tryd.isAgg176⟩ (.cons ⟨rfl, ⟨_, Tryd.type177, rfl⟩, by decide, Tryd.isAgg177⟩ (.cons ⟨rfl, ⟨_, Tryd.type178, rfl⟩, by decide, Tryd.isAgg178⟩ (.cons ⟨rfl, ⟨_, Tryd.type179, rfl⟩, by decide, Tryd.isAgg179⟩ .nil)))))))))))) (by decide) rfl (by decide)
def TrydT : TT := [
  (1, TrydI1),
  (2, TrydI2),
  (3, TrydI3),
  (4, TrydI4),
  (5, TrydI5),
  (6, TrydI6),
  (7, TrydI7),
  (8, TrydI8),
  (9, TrydI9),
  (10, TrydI10),
  (11, TrydI11),
  (12, TrydI12),
  (13, TrydI13),
  (14, TrydI14),
  (15, TrydI15),
  (16, TrydI16),
  (17, TrydI17),
  (18, TrydI18),
  (19, TrydI19),
  (20, TrydI20),
  (21, TrydI21),
  (22, TrydI22),
  (23, TrydI23),
  (24, TrydI24),
  (25, TrydI25),
  (26, TrydI26),
  (27, TrydI27),
  (28, TrydI28),
  (29, TrydI29),
  (30, TrydI30),
  (31, TrydI31),
  (32, TrydI32),
  (33, TrydI33),
  (34, TrydI34),
  (35, TrydI35),
  (36, TrydI36),
  (37, TrydI37),
  (38, TrydI38),
  (39, TrydI39),
  (40, TrydI40),
  (42, TrydI42),
  (44, TrydI44),
  (45, TrydI45),
  (46, TrydI46),
  (47, TrydI47),
  (48, TrydI48),
  (49, TrydI49),
  (50, TrydI50),
  (51, TrydI51),
  (53, TrydI53),
  (54, TrydI54),
  (55, TrydI55),
  (56, TrydI56),
  (57, TrydI57),
  (58, TrydI58),
  (59, TrydI59),
  (60, TrydI60),
  (62, TrydI62),
  (64, TrydI64),
  (65, TrydI65),
  (66, TrydI66),
  (67, TrydI67),
  (69, TrydI69),
  (70, TrydI70),
  (71, TrydI71),
  (73, TrydI73),
  (74, TrydI74),
  (76, TrydI76),
  (77, TrydI77),
  (79, TrydI79),
  (80, TrydI80),
  (81, TrydI81),
  (83, TrydI83),
  (84, TrydI84),
  (85, TrydI85),
  (86, TrydI86),
  (87, TrydI87),
  (88, TrydI88),
  (89, TrydI89),
  (90, TrydI90),
  (91, TrydI91),
  (92, TrydI92),
  (93, TrydI93),
  (94, TrydI94),
  (95, TrydI95),
  (97, TrydI97),
  (98, TrydI98),
  (99, TrydI99),
  (100, TrydI100),
  (101, TrydI101),
  (102, TrydI102),
  (103, TrydI103),
  (104, TrydI104),
  (106, TrydI106),
  (107, TrydI107),
  (108, TrydI108),
  (109, TrydI109),
  (110, TrydI110),
  (111, TrydI111),
  (112, TrydI112),
  (113, TrydI113),
  (114, TrydI114),
  (115, TrydI115),
  (116, TrydI116),
  (117, TrydI117),
  (118, TrydI118),
  (119, TrydI119),
  (120, TrydI120),
  (121, TrydI121),
  (122, TrydI122),
  (123, TrydI123),
  (124, TrydI124),
  (126, TrydI126),
  (127, TrydI127),
  (129, TrydI129),
  (130, TrydI130),
  (131, TrydI131),
  (132, TrydI132),
  (133, TrydI133),
  (134, TrydI134),
  (135, TrydI135),
  (136, TrydI136),
  (137, TrydI137),
  (138, TrydI138),
  (139, TrydI139),
  (140, TrydI140),
  (141, TrydI141),
  (142, TrydI142),
  (143, TrydI143),
  (144, TrydI144),
  (145, TrydI145),
  (146, TrydI146),
  (147, TrydI147),
  (148, TrydI148),
  (149, TrydI149),
  (150, TrydI150),
  (151, TrydI151),
  (152, TrydI152),
  (153, TrydI153),
  (154, TrydI154),
  (155, TrydI155),
  (156, TrydI156),
  (157, TrydI157),
  (159, TrydI159),
  (160, TrydI160),
  (161, TrydI161),
  (162, TrydI162),
  (164, TrydI164),
  (165, TrydI165),
  (166, TrydI166),
  (167, TrydI167),
  (168, TrydI168),
  (169, TrydI169),
  (170, TrydI170),
  (174, TrydI174),
  (175, TrydI175),
  (176, TrydI176),
  (177, TrydI177),
  (178, TrydI178),
  (179, TrydI179),
  (180, TrydI180),
  (181, TrydI181)]
theorem TrydT_ok : TOk Tryd.prog TrydT := tok_of ⟨TrydI1_ok, TrydI2_ok, TrydI3_ok, TrydI4_ok, TrydI5_ok, TrydI6_ok, TrydI7_ok, TrydI8_ok, TrydI9_ok, TrydI10_ok, TrydI11_ok, TrydI12_ok, TrydI13_ok, TrydI14_ok, TrydI15_ok, TrydI16_ok, TrydI17_ok, TrydI18_ok, TrydI19_ok, TrydI20_ok, TrydI21_ok, TrydI22_ok, TrydI23_ok, TrydI24_ok, TrydI25_ok, TrydI26_ok, TrydI27_ok, TrydI28_ok, TrydI29_ok, TrydI30_ok, TrydI31_ok, TrydI32_ok, TrydI33_ok, TrydI34_ok, TrydI35_ok, TrydI36_ok, TrydI37_ok, TrydI38_ok, TrydI39_ok, TrydI40_ok, TrydI42_ok, TrydI44_ok, TrydI45_ok, TrydI46_ok, TrydI47_ok, TrydI48_ok, TrydI49_ok, TrydI50_ok, TrydI51_ok, TrydI53_ok, TrydI54_ok, TrydI55_ok, TrydI56_ok, TrydI57_ok, TrydI58_ok, TrydI59_ok, TrydI60_ok, TrydI62_ok, TrydI64_ok, TrydI65_ok, TrydI66_ok, TrydI67_ok, TrydI69_ok, TrydI70_ok, TrydI71_ok, TrydI73_ok, TrydI74_ok, TrydI76_ok, TrydI77_ok, TrydI79_ok, TrydI80_ok, TrydI81_ok, TrydI83_ok, TrydI84_ok, TrydI85_ok, TrydI86_ok, TrydI87_ok, TrydI88_ok, TrydI89_ok, TrydI90_ok, TrydI91_ok, TrydI92_ok, TrydI93_ok, TrydI94_ok, TrydI95_ok, TrydI97_ok, TrydI98_ok, TrydI99_ok, TrydI100_ok, TrydI101_ok, TrydI102_ok, TrydI103_ok, TrydI104_ok, TrydI106_ok, TrydI107_ok, TrydI108_ok, TrydI109_ok, TrydI110_ok, TrydI111_ok, TrydI112_ok, TrydI113_ok, TrydI114_ok, TrydI115_ok, TrydI116_ok, TrydI117_ok, TrydI118_ok, TrydI119_ok, TrydI120_ok, TrydI121_ok, TrydI122_ok, TrydI123_ok, TrydI124_ok, TrydI126_ok, TrydI127_ok, TrydI129_ok, TrydI130_ok, TrydI131_ok, TrydI132_ok, TrydI133_ok, TrydI134_ok, TrydI135_ok, TrydI136_ok, TrydI137_ok, TrydI138_ok, TrydI139_ok, TrydI140_ok, TrydI141_ok, TrydI142_ok, TrydI143_ok, TrydI144_ok, TrydI145_ok, TrydI146_ok, TrydI147_ok, TrydI148_ok, TrydI149_ok, TrydI150_ok, TrydI151_ok, TrydI152_ok, TrydI153_ok, TrydI154_ok, TrydI155_ok, TrydI156_ok, TrydI157_ok, TrydI159_ok, TrydI160_ok, TrydI161_ok, TrydI162_ok, TrydI164_ok, TrydI165_ok, TrydI166_ok, TrydI167_ok, TrydI168_ok, TrydI169_ok, TrydI170_ok, TrydI174_ok, TrydI175_ok, TrydI176_ok, TrydI177_ok, TrydI178_ok, TrydI179_ok, TrydI180_ok, TrydI181_ok, trivial⟩
end Go.AI

namespace Go.AI
open Go.Proofs
set_option maxRecDepth 20000
theorem mixedT : Tryd.prog.follows .mixedOrders = true := rfl
theorem isNaN91 (O : List Heap) (a : Int) : ASpec Tryd.prog 91 [ii a] O (bb false) [] O := by
  refine aspec_intro TrydT_ok Tryd.func91 rfl Tryd.call91 Tryd.ntmps91 (Nat.le_of_ble_eq_true rfl) fun E => ?_
  refine rch_run TrydT_ok Tryd.func91 ?_
  refine m_ret' (hT := TrydT_ok) (r := bb _) rfl rfl rfl trivial rfl rfl ?_
  simp
theorem isNaN83 (O : List Heap) (a : Int) : ASpec Tryd.prog 83 [ii a] O (bb false) [] O := by
  refine aspec_intro TrydT_ok Tryd.func83 rfl Tryd.call83 Tryd.ntmps83 (Nat.le_of_ble_eq_true rfl) fun E => ?_
  refine rch_run TrydT_ok Tryd.func83 ?_
  refine m_ret' (hT := TrydT_ok) (r := bb _) rfl rfl rfl trivial rfl rfl ?_
  simp
theorem less82 (O : List Heap) (a b : Int) : ASpec Tryd.prog 82 [ii a, ii b] O (bb (decide (a < b))) [] O := by
  refine aspec_intro TrydT_ok Tryd.func82 rfl Tryd.call82 Tryd.ntmps82 (Nat.le_of_ble_eq_true rfl) fun E => ?_
  refine rch_run TrydT_ok Tryd.func82 ?_
  refine m_call TrydT_ok Tryd.func82 (isNaN91 _ a) rfl rfl rfl rfl rfl ?_
  refine m_know TrydT_ok Tryd.func82 rfl (fun h1 => by cases h1) (fun _ => ?_)
  refine m_know TrydT_ok Tryd.func82 rfl (fun h1 => by cases h1) (fun _ => ?_)
  refine m_ret' (hT := TrydT_ok) (r := bb _) rfl rfl rfl trivial rfl rfl ?_
  rfl
end Go.AI

namespace Go.AI
open Go.Proofs
set_option maxRecDepth 20000
theorem mid64 {a b : Nat} (ha : a ≤ max63) (hb : b ≤ max63) : IntKind.i64.wrap (IntKind.u64.wrap (IntKind.i64.wrap ((a : Int) + b)) / 2 ^ (1 : Int).toNat) = ((a + b) / 2 : Nat) := by
  simp only [max63] at ha hb
  have h1 : IntKind.u64.wrap (IntKind.i64.wrap ((a : Int) + b)) = (a : Int) + b := by
    simp only [IntKind.wrap, IntKind.bits, IntKind.signed]
    simp
    omega
  rw [h1, w64]
  · simp
  · simp; omega
  · simp; omega
/-- How many are less. -/
def lows (l : List Int) (x : Int) : Nat := (l.filter (· < x)).length
theorem lows_eq {l : List Int} {x : Int} {i : Nat} (hi : i ≤ l.length) (h1 : ∀ k (h : k < l.length), k < i → l[k] < x) (h2 : ∀ k (h : k < l.length), i ≤ k → x ≤ l[k]) : lows l x = i := by
  have e : l = l.take i ++ l.drop i := (List.take_append_drop i l).symm
  unfold lows
  rw [e, List.filter_append]
  have a1 : (l.take i).filter (fun y => decide (y < x)) = l.take i := by
    rw [List.filter_eq_self]
    intro y hy
    obtain ⟨k, hk, rfl⟩ := List.getElem_of_mem hy
    simp only [List.length_take] at hk
    have := h1 k (by omega) (by omega)
    simpa using this
  have a2 : (l.drop i).filter (fun y => decide (y < x)) = [] := by
    rw [List.filter_eq_nil_iff]
    intro y hy
    obtain ⟨k, hk, rfl⟩ := List.getElem_of_mem hy
    simp only [List.length_drop] at hk
    have := h2 (i + k) (by omega) (by omega)
    simpa using this
  rw [a1, a2]
  simp
  omega
theorem bsearch65 (O : List Heap) (l : List Int) (x : Int) (hl : l.length ≤ max63) (hs : l.Pairwise (· < ·)) : ASpec Tryd.prog 65 [ints l, ii x] O (.tup [ii (lows l x), bb (decide (x ∈ l))]) [] O := by
  have hsort : ∀ i j (hi : i < l.length) (hj : j < l.length), i < j → l[i] < l[j] := fun i j hi hj h => List.pairwise_iff_getElem.1 hs i j hi hj h
  refine aspec_intro TrydT_ok Tryd.func65 rfl Tryd.call65 Tryd.ntmps65 (Nat.le_of_ble_eq_true rfl) fun E => ?_
  refine rch_run TrydT_ok Tryd.func65 ?_
  refine rch_loop2 (fun p : Nat × Nat => [(0, ints l), (1, ii x), (6, ii l.length), (7, ii p.1), (8, ii p.2)]) (fun _ => []) (fun _ => O) 54
    (fun p => p.1 ≤ p.2 ∧ p.2 ≤ l.length ∧ (∀ k (h : k < l.length), k < p.1 → l[k] < x) ∧ ∀ k (h : k < l.length), p.2 ≤ k → x ≤ l[k]) (fun p => p.2 - p.1) (0, l.length)
    ⟨Nat.zero_le _, Nat.le_refl _, fun k h h' => by simp at h', fun k h h' => by simp at h'; omega⟩ ⟨rfl, rfl, rfl, rfl, rfl, trivial⟩ rfl trivial rfl rfl ?_
  rintro ⟨i, j⟩ ⟨hij, hj, hlo, hhi⟩ ih
  simp only at hij hj hlo hhi
  have hlj : j ≤ max63 := Nat.le_trans hj hl
  refine rch_run TrydT_ok Tryd.func65 ?_
  refine m_cnd TrydT_ok Tryd.func65 rfl (fun h1 => ?_) (fun h1 => ?_)
  · have h1 : i < j := by simpa using h1
    refine m_need TrydT_ok Tryd.func65 (by simp [IntKind.bits]) ?_
    have hm := mid64 (Nat.le_trans hij hlj) hlj
    have hmj : (i + j) / 2 < j := by omega
    refine m_need TrydT_ok Tryd.func65 (by rw [hm]; omega) ?_
    refine m_elem TrydT_ok Tryd.func65 (d := [vi (l[(i + j) / 2]'(by omega))]) (by rw [hm]; exact get_mapZ (f := fun x => [vi x]) (by omega)) ?_
    refine m_call TrydT_ok Tryd.func65 (less82 _ _ _) rfl rfl rfl rfl rfl ?_
    refine m_cnd TrydT_ok Tryd.func65 rfl (fun h2 => ?_) (fun h2 => ?_)
    · have h2 : l[(i + j) / 2] < x := by simpa using h2
      refine ih ((i + j) / 2 + 1, j) _ _ ⟨by show (i + j) / 2 + 1 ≤ j; omega, hj, fun k h h' => ?_, hhi⟩ (by simp only; omega) ⟨rfl, rfl, rfl, ?_, rfl, trivial⟩ rfl trivial rfl rfl
      · by_cases e : k = (i + j) / 2
        · subst e; exact h2
        · have h' : k < (i + j) / 2 + 1 := h'
          have := hsort k ((i + j) / 2) h (by omega) (by omega)
          omega
      · show D.i (.v (.int .i64 _)) = _
        rw [hm]
        exact congrArg ii (wsucc (n := j) (by omega) hlj)
    · have h2 : x ≤ l[(i + j) / 2] := by simpa using h2
      refine ih (i, (i + j) / 2) _ _ ⟨by show i ≤ (i + j) / 2; omega, by show (i + j) / 2 ≤ l.length; omega, hlo, fun k h h' => ?_⟩ (by simp only; omega) ⟨rfl, rfl, rfl, rfl, ?_, trivial⟩ rfl trivial rfl rfl
      · have h' : (i + j) / 2 ≤ k := h'
        by_cases e : k = (i + j) / 2
        · subst e; exact h2
        · have := hsort ((i + j) / 2) k (by omega) h (by omega)
          omega
      · show D.i (.v (.int .i64 _)) = _
        rw [hm]
  · have h1 : j ≤ i := by simpa using h1
    have hij : i = j := by omega
    subst hij
    have hlow : lows l x = i := lows_eq hj hlo hhi
    rw [hlow]
    have hnot : ∀ (hi : i < l.length), l[i] ≠ x → x ∉ l := by
      intro hi hne hm
      obtain ⟨k, hk, e⟩ := List.getElem_of_mem hm
      by_cases h3 : k < i
      · have := hlo k hk h3; omega
      · by_cases h4 : k = i
        · subst h4; exact hne e
        · have := hsort i k hi hk (by omega)
          have := hhi i hi (Nat.le_refl _)
          omega
    refine m_know TrydT_ok Tryd.func65 rfl (fun h1 => ?_) (fun h1 => ?_)
    · have h1 : i < l.length := by simpa using h1
      refine m_need TrydT_ok Tryd.func65 (by omega) ?_
      refine m_elem TrydT_ok Tryd.func65 (get_mapZ h1) ?_
      refine m_know TrydT_ok Tryd.func65 rfl (fun h2 => ?_) (fun h2 => ?_)
      · have h2 : l[i] = x := by simpa using h2
        refine m_ret' (hT := TrydT_ok) (r := .tup [ii _, bb _]) rfl rfl rfl trivial rfl rfl ?_
        have : x ∈ l := by rw [← h2]; simp
        simp [this]
      · have h2 : l[i] ≠ x := by simpa using h2
        refine m_need TrydT_ok Tryd.func65 (by omega) ?_
        refine m_elem TrydT_ok Tryd.func65 (get_mapZ h1) ?_
        refine m_call TrydT_ok Tryd.func65 (isNaN83 _ _) rfl rfl rfl rfl rfl ?_
        refine m_know TrydT_ok Tryd.func65 rfl (fun h1 => by cases h1) (fun _ => ?_)
        refine m_ret' (hT := TrydT_ok) (r := .tup [ii _, bb _]) rfl rfl rfl trivial rfl rfl ?_
        simp [hnot h1 h2]
    · have h1 : l.length ≤ i := by simpa using h1
      refine m_ret' (hT := TrydT_ok) (r := .tup [ii _, bb _]) rfl rfl rfl trivial rfl rfl ?_
      have : x ∉ l := by
        intro hm
        obtain ⟨k, hk, e⟩ := List.getElem_of_mem hm
        have := hlo k hk (by omega)
        omega
      simp [this]
theorem contains49 (O : List Heap) (l : List Int) (x : Int) (hl : l.length ≤ max63) (hs : l.Pairwise (· < ·)) : ASpec Tryd.prog 49 [ints l, ii x] O (bb (decide (x ∈ l))) [] O := by
  refine aspec_intro TrydT_ok Tryd.func49 rfl Tryd.call49 Tryd.ntmps49 (Nat.le_of_ble_eq_true rfl) fun E => ?_
  refine rch_run TrydT_ok Tryd.func49 ?_
  refine m_call TrydT_ok Tryd.func49 (bsearch65 _ l x hl hs) rfl rfl rfl rfl rfl ?_
  refine m_ret' (hT := TrydT_ok) (r := bb _) rfl rfl rfl trivial rfl rfl ?_
  rfl
end Go.AI

namespace Go.AI
open Go.Proofs
set_option maxRecDepth 20000
abbrev big : Nat := 140737488355328
abbrev oints (l : List Int) : Ob := .arr 3 1 l.length (l.map fun x => [vi x]) true
theorem ret_osl (H : Heap) (nm : Nat) (ob : Ob) : D.ret H [(nm, ob)] (.osl 0 nm) = .osl 0 nm := by
  simp [D.ret, D.ret2, D.ret1, memH, look_cons]
theorem takes_one (nm : Nat) (ob ob' : Ob) (Hr : Heap) (h : ob' = ob.ret [(nm, ob)] Hr) : takesB [(nm, ob)] Hr [(nm, ob')] := ⟨⟨ob, by simp [look], h⟩, trivial⟩
theorem clone57 (nm : Nat) (O : List Heap) (l : List Int) (hl : l.length * 8 ≤ big) : ASpec Tryd.prog 57 [ints l] O (.osl 0 nm) [(nm, oints l)] O := by
  refine aspec_intro TrydT_ok Tryd.func57 rfl Tryd.call57 Tryd.ntmps57 (Nat.le_of_ble_eq_true rfl) fun E => ?_
  refine rch_run TrydT_ok Tryd.func57 ?_
  refine m_anyb TrydT_ok Tryd.func57 rfl rfl fun b hb => ?_
  refine m_cnd TrydT_ok Tryd.func57 rfl (fun h1 => ?_) (fun h1 => ?_)
  · have hl0 : l = [] := List.eq_nil_of_length_eq_zero (hb h1)
    subst hl0
    refine ret_wk (wk_nil 2 nm 3 1 rfl rfl rfl) ?_
    exact m_ret' (hT := TrydT_ok) (r := .osl 0 nm) rfl rfl rfl (takes_one _ _ _ _ rfl) (ret_osl _ _ _) rfl rfl
  · refine m_need TrydT_ok Tryd.func57 ⟨?_, ?_⟩ ?_
    · show (0 + l.length) * 8 ≤ 140737488355328
      simp only [big] at hl; omega
    · simp only [big] at hl; omega
    refine ret_wk (wk_cut (l := [(2, .osl 0 7)]) (Hv := [(7, .arr 3 1 (0 + l.length) ([] ++ l.map fun x => [vi x]) true)]) ⟨rfl, trivial⟩ rfl ⟨rfl, trivial⟩ rfl rfl) ?_
    refine ret_wk (wk_rename 7 nm rfl rfl) ?_
    refine m_ret' (hT := TrydT_ok) (r := .osl 0 nm) rfl rfl rfl (takes_one _ _ _ _ ?_) (ret_osl _ _ _) rfl rfl
    rw [Nat.zero_add]
    rfl
theorem equal47 (O : List Heap) (l r : List Int) (hl : l.length ≤ max63) : ASpec Tryd.prog 47 [ints l, ints r] O (bb (decide (l = r))) [] O := by
  refine aspec_intro TrydT_ok Tryd.func47 rfl Tryd.call47 Tryd.ntmps47 (Nat.le_of_ble_eq_true rfl) fun E => ?_
  refine rch_run TrydT_ok Tryd.func47 ?_
  refine m_cnd TrydT_ok Tryd.func47 rfl (fun h1 => ?_) (fun h1 => ?_)
  · refine m_ret' (hT := TrydT_ok) (r := bb _) rfl rfl rfl trivial rfl rfl ?_
    have h1 : (l.length : Int) ≠ r.length := by simpa using h1
    have : l ≠ r := fun e => h1 (by rw [e])
    simp [this]
  have hlen : l.length = r.length := by
    have : (l.length : Int) = r.length := by simpa using h1
    omega
  refine rch_loop_ind (fun i : Nat => [(0, ints l), (1, ints r), (4, bb false), (12, ii l.length), (13, ii i)]) (fun _ => [] :: O) 26 (fun i => i ≤ l.length ∧ ∀ j (h : j < l.length), j < i → l[j] = r[j]) (fun i => l.length - i) 0 ⟨Nat.zero_le _, fun j h h' => by omega⟩ ⟨rfl, rfl, rfl, rfl, rfl, trivial⟩ rfl rfl ?_
  intro i ⟨hi, hno⟩ ih
  refine rch_run TrydT_ok Tryd.func47 ?_
  refine m_cnd TrydT_ok Tryd.func47 rfl (fun h1 => ?_) (fun h1 => ?_)
  · have h1 : i < l.length := by simpa using h1
    have h1' : i < r.length := by omega
    refine m_drawn TrydT_ok Tryd.func47 mixedT rfl ?_
    refine d_need TrydT_ok (by omega) ?_
    refine d_elem TrydT_ok (get_mapZ h1) ?_
    refine d_need TrydT_ok (by omega) ?_
    refine d_elem TrydT_ok (get_mapZ h1') ?_
    refine d_done TrydT_ok Tryd.func47 (by kernel_rfl) ?_
    refine m_cnd TrydT_ok Tryd.func47 rfl (fun h2 => ?_) (fun h2 => ?_)
    · refine m_ret' (hT := TrydT_ok) (r := bb _) rfl rfl rfl trivial rfl rfl ?_
      have h2 : l[i] ≠ r[i] := by simpa using h2
      have : l ≠ r := fun e => h2 (by subst e; rfl)
      simp [this]
    · have h2 : l[i] = r[i] := by simpa using h2
      refine ih (i + 1) _ ?_ ?_ ⟨rfl, rfl, rfl, rfl, congrArg ii (wsucc h1 hl), trivial⟩ rfl rfl
      · refine ⟨h1, fun j h h' => ?_⟩
        by_cases e : j = i
        · subst e; exact h2
        · exact hno j h (by omega)
      · omega
  · have h1 : l.length ≤ i := by simpa using h1
    refine m_ret' (hT := TrydT_ok) (r := bb _) rfl rfl rfl trivial rfl rfl ?_
    have : l = r := List.ext_getElem hlen fun j h h' => hno j h (by omega)
    simp [this]
theorem wordEqual19 (O : List Heap) (l r : List Int) (hl : l.length ≤ max63) : ASpec Tryd.prog 19 [ints l, ints r] O (bb (decide (l = r))) [] O := by
  refine aspec_intro TrydT_ok Tryd.func19 rfl Tryd.call19 Tryd.ntmps19 (Nat.le_of_ble_eq_true rfl) fun E => ?_
  refine rch_run TrydT_ok Tryd.func19 ?_
  refine m_call TrydT_ok Tryd.func19 (equal47 _ l r hl) rfl rfl rfl rfl rfl ?_
  refine m_ret' (hT := TrydT_ok) (r := bb _) rfl rfl rfl trivial rfl rfl ?_
  rfl
/-- CheckSet: 0 ok, 2 a number out of range, 5 not in order. -/
def checkSet (n : Int) : List Int → Option Int → Int
  | [], _ => 0
  | x :: r, prev => if x < 0 ∨ x ≥ n then 2 else if prev.any (x ≤ ·) then 5 else checkSet n r (some x)
theorem checkSet59 (O : List Heap) (l : List Int) (n : Int) (hl : l.length ≤ max63) : ASpec Tryd.prog 59 [ints l, ii n] O (ii (checkSet n l none)) [] O := by
  refine aspec_intro TrydT_ok Tryd.func59 rfl Tryd.call59 Tryd.ntmps59 (Nat.le_of_ble_eq_true rfl) fun E => ?_
  refine rch_run TrydT_ok Tryd.func59 ?_
  let prev : Nat → Option Int := fun i => if i = 0 then none else l[i - 1]?
  refine rch_loop_ind (fun i : Nat => [(0, ints l), (1, ii n), (7, ints l), (8, ii l.length), (9, ii i)]) (fun _ => [] :: O) 33 (fun i => i ≤ l.length ∧ checkSet n l none = checkSet n (l.drop i) (prev i)) (fun i => l.length - i) 0 ⟨Nat.zero_le _, rfl⟩ ⟨rfl, rfl, rfl, rfl, rfl, trivial⟩ rfl rfl ?_
  intro i ⟨hi, hno⟩ ih
  rw [hno]
  refine rch_run TrydT_ok Tryd.func59 ?_
  refine m_cnd TrydT_ok Tryd.func59 rfl (fun h1 => ?_) (fun h1 => ?_)
  · have h1 : i < l.length := by simpa using h1
    rw [hno] at ih
    have hd : l.drop i = l[i] :: l.drop (i + 1) := (List.drop_eq_getElem_cons h1)
    have hnext : prev (i + 1) = some l[i] := by simp [prev, h1]
    refine m_need TrydT_ok Tryd.func59 (by omega) ?_
    refine m_elem TrydT_ok Tryd.func59 (get_mapZ h1) ?_
    refine m_know TrydT_ok Tryd.func59 rfl (fun h2 => ?_) (fun h2 => ?_)
    · have h2 : l[i] < 0 := by simpa using h2
      refine m_cnd TrydT_ok Tryd.func59 rfl (fun _ => ?_) (fun h => by cases h)
      refine m_ret' (hT := TrydT_ok) (r := ii _) rfl rfl rfl trivial rfl rfl ?_
      rw [hd]
      simp only [checkSet]
      rw [if_pos (.inl h2)]
    have h2 : ¬ l[i] < 0 := by simpa using h2
    refine m_cnd TrydT_ok Tryd.func59 rfl (fun h3 => ?_) (fun h3 => ?_)
    · have h3 : l[i] ≥ n := by simpa using h3
      refine m_ret' (hT := TrydT_ok) (r := ii _) rfl rfl rfl trivial rfl rfl ?_
      rw [hd]
      simp only [checkSet]
      rw [if_pos (.inr h3)]
    have h3 : ¬ l[i] ≥ n := by simpa using h3
    refine m_know TrydT_ok Tryd.func59 rfl (fun h4 => ?_) (fun h4 => ?_)
    · have h4 : 0 < i := by simpa using h4
      have hw : IntKind.i64.wrap ((i : Int) - 1) = ((i - 1 : Nat) : Int) := by
        simp only [max63] at hl
        rw [w64 (by omega) (by omega)]
        omega
      have hp : prev i = some (l[i - 1]'(by omega)) := by
        simp only [prev, if_neg (show ¬ i = 0 by omega)]
        exact List.getElem?_eq_getElem (by omega)
      refine m_need TrydT_ok Tryd.func59 (by rw [hw]; omega) ?_
      refine m_elem TrydT_ok Tryd.func59 (by rw [hw]; exact get_mapZ (f := fun x => [vi x]) (show i - 1 < l.length by omega)) ?_
      refine m_cnd TrydT_ok Tryd.func59 rfl (fun h5 => ?_) (fun h5 => ?_)
      · have h5 : l[i] ≤ l[i - 1] := by simpa using h5
        refine m_ret' (hT := TrydT_ok) (r := ii _) rfl rfl rfl trivial rfl rfl ?_
        rw [hd, hp]
        simp only [checkSet]
        rw [if_neg (by omega), if_pos (by simpa using h5)]
      · have h5 : ¬ l[i] ≤ l[i - 1] := by simpa using h5
        refine ih (i + 1) _ ⟨h1, ?_⟩ (by omega) ⟨rfl, rfl, rfl, rfl, congrArg ii (wsucc h1 hl), trivial⟩ rfl rfl
        rw [hnext, hd, hp]
        simp only [checkSet]
        rw [if_neg (by omega), if_neg (by simpa using h5)]
    · have h4 : i = 0 := by
        have : ¬ 0 < i := by simpa using h4
        omega
      refine m_cnd TrydT_ok Tryd.func59 rfl (fun h => by cases h) (fun _ => ?_)
      refine ih (i + 1) _ ⟨h1, ?_⟩ (by omega) ⟨rfl, rfl, rfl, rfl, congrArg ii (wsucc h1 hl), trivial⟩ rfl rfl
      rw [hnext, hd]
      have hp : prev i = none := by simp [prev, h4]
      rw [hp]
      simp only [checkSet]
      rw [if_neg (by omega)]
      simp
  · have h1 : l.length ≤ i := by simpa using h1
    refine m_ret' (hT := TrydT_ok) (r := ii _) rfl rfl rfl trivial rfl rfl ?_
    rw [List.drop_eq_nil_of_le h1]
    rfl
end Go.AI

namespace Go.AI
open Go.Proofs
set_option maxRecDepth 20000
/-- The first index with the property, or -1. -/
def findIx {α : Type} (p : α → Bool) : List α → Nat → Int
  | [], _ => -1
  | x :: r, i => if p x then (i : Int) else findIx p r (i + 1)
theorem indexFunc86 (O : List Heap) (l : List Int) (f d nm : Nat) (p : Int → Bool) (hl : l.length ≤ max63) (hp : ∀ x ∈ l, ASpec Tryd.prog f [ii x, .own (d + 1) nm 0 0] ([] :: O) (bb (p x)) [] ([] :: O)) :
    ASpec Tryd.prog 86 [ints l, .fn (.func f) [] [.own d nm 0 0]] O (ii (findIx p l 0)) [] O := by
  refine aspec_intro TrydT_ok Tryd.func86 rfl Tryd.call86 Tryd.ntmps86 (Nat.le_of_ble_eq_true rfl) fun E => ?_
  refine rch_run TrydT_ok Tryd.func86 ?_
  refine rch_loop_ind (fun i : Nat => [(0, ints l), (1, .fn (.func f) [] [.own (d + 1) nm 0 0]), (6, ints l), (7, ii l.length), (8, ii i)]) (fun _ => [] :: O) 19 (fun i => i ≤ l.length ∧ findIx p l 0 = findIx p (l.drop i) i) (fun i => l.length - i) 0 ⟨Nat.zero_le _, rfl⟩ ⟨rfl, rfl, rfl, rfl, rfl, trivial⟩ rfl rfl ?_
  intro i ⟨hi, hno⟩ ih
  rw [hno]
  rw [hno] at ih
  refine rch_run TrydT_ok Tryd.func86 ?_
  refine m_cnd TrydT_ok Tryd.func86 rfl (fun h1 => ?_) (fun h1 => ?_)
  · have h1 : i < l.length := by simpa using h1
    have hd : l.drop i = l[i] :: l.drop (i + 1) := (List.drop_eq_getElem_cons h1)
    refine m_need TrydT_ok Tryd.func86 (by omega) ?_
    refine m_elem TrydT_ok Tryd.func86 (get_mapZ h1) ?_
    refine m_call TrydT_ok Tryd.func86 (hp l[i] (List.getElem_mem h1)) rfl rfl rfl rfl rfl ?_
    refine m_cnd TrydT_ok Tryd.func86 rfl (fun h2 => ?_) (fun h2 => ?_)
    · refine m_ret' (hT := TrydT_ok) (r := ii _) rfl rfl rfl trivial rfl rfl ?_
      rw [hd]
      simp only [findIx]
      rw [if_pos h2]
    · refine ih (i + 1) _ ⟨h1, ?_⟩ (by omega) ⟨rfl, rfl, rfl, rfl, congrArg ii (wsucc h1 hl), trivial⟩ rfl rfl
      rw [hd]
      simp only [findIx]
      rw [if_neg (by rw [h2]; simp)]
  · have h1 : l.length ≤ i := by simpa using h1
    refine m_ret' (hT := TrydT_ok) (r := ii _) rfl rfl rfl trivial rfl rfl ?_
    rw [List.drop_eq_nil_of_le h1]
    rfl
theorem findIx_any {α : Type} (p : α → Bool) : ∀ (l : List α) (i : Nat), decide (findIx p l i ≥ 0) = l.any p
  | [], i => by simp [findIx]
  | x :: r, i => by
    by_cases h : p x = true
    · have e : findIx p (x :: r) i = (i : Int) := if_pos h
      rw [List.any_cons, h, Bool.true_or, decide_eq_true_iff, e]
      omega
    · have e : findIx p (x :: r) i = findIx p r (i + 1) := if_neg h
      have h' : p x = false := by simpa using h
      rw [List.any_cons, h', Bool.false_or, ← findIx_any p r (i + 1)]
      exact decide_eq_decide.2 (by rw [e])
theorem containsFunc68 (O : List Heap) (l : List Int) (f d nm : Nat) (p : Int → Bool) (hl : l.length ≤ max63) (hp : ∀ x ∈ l, ASpec Tryd.prog f [ii x, .own (d + 2) nm 0 0] ([] :: [] :: O) (bb (p x)) [] ([] :: [] :: O)) :
    ASpec Tryd.prog 68 [ints l, .fn (.func f) [] [.own d nm 0 0]] O (bb (l.any p)) [] O := by
  refine aspec_intro TrydT_ok Tryd.func68 rfl Tryd.call68 Tryd.ntmps68 (Nat.le_of_ble_eq_true rfl) fun E => ?_
  refine rch_run TrydT_ok Tryd.func68 ?_
  refine m_call TrydT_ok Tryd.func68 (indexFunc86 _ l f (d + 1) nm p hl hp) rfl rfl rfl rfl rfl ?_
  refine m_ret' (hT := TrydT_ok) (r := bb _) rfl rfl rfl trivial rfl rfl ?_
  exact congrArg bb (findIx_any p l 0)
theorem kindc94 (O : List Heap) (x k : Int) (d nm : Nat) (ho : objAt O d nm = some (.box [ii k])) : ASpec Tryd.prog 94 [ii x, .own d nm 0 0] O (bb (decide (x ≠ k))) [] O := by
  refine aspec_intro TrydT_ok Tryd.func94 rfl Tryd.call94 Tryd.ntmps94 (Nat.le_of_ble_eq_true rfl) fun E => ?_
  refine rch_run TrydT_ok Tryd.func94 ?_
  refine m_obj TrydT_ok Tryd.func94 (ob := .box [ii k]) ho ?_
  refine m_ret' (hT := TrydT_ok) (r := bb _) rfl rfl rfl trivial rfl rfl ?_
  by_cases h : x = k <;> simp [h]
theorem kindb93 (O : List Heap) (k : Int) (l : List Int) (d nm : Nat) (hl : l.length ≤ max63) (ho : objAt O d nm = some (.box [ints l])) : ASpec Tryd.prog 93 [ii k, .own d nm 0 0] O (bb (l.all (· = k))) [] O := by
  refine aspec_intro TrydT_ok Tryd.func93 rfl Tryd.call93 Tryd.ntmps93 (Nat.le_of_ble_eq_true rfl) fun E => ?_
  refine rch_run TrydT_ok Tryd.func93 ?_
  refine m_obj TrydT_ok Tryd.func93 (ob := .box [ints l]) ho ?_
  refine m_call TrydT_ok Tryd.func93 (containsFunc68 _ l 94 0 2 (fun x => decide (x ≠ k)) hl fun x _ => kindc94 _ x k _ _ rfl) rfl rfl rfl rfl rfl ?_
  refine m_ret' (hT := TrydT_ok) (r := bb _) rfl rfl rfl trivial rfl rfl ?_
  refine congrArg bb ?_
  clear hl ho
  induction l with
  | nil => rfl
  | cons y r ih =>
    rw [List.all_cons, ← ih, List.any_cons]
    by_cases h : y = k <;> simp [h]
end Go.AI
