/- The layer of abstract runs, part 21. -/
import Derived.Test.YtlcekmemdnjjbaaGreatDoorOakT
import Derived.Test.YtlcekmemdnjjbaaGreatDoorProg
import Derived.KernelRfl
set_option linter.unusedSimpArgs false
set_option linter.unusedVariables false
set_option linter.all false

set_option maxRecDepth 20000
namespace Go.AI
open Go.Proofs
def TryzI1 : TI := { size := 1, bytes := 8, k := .sc, zero := [.nilFunc] }
def TryzI2 : TI := { size := 1, bytes := 8, k := .int .i64, zero := [.int .i64 0] }
def TryzI3 : TI := { size := 1, bytes := 8, k := .int .i64, zero := [.int .i64 0] }
def TryzI4 : TI := { size := 1, bytes := 1, k := .bool, zero := [.bool false] }
def TryzI5 : TI := { size := 1, bytes := 1, k := .int .u8, zero := [.int .u8 0] }
def TryzI6 : TI := { size := 1, bytes := 1, k := .int .u8, zero := [.int .u8 0] }
def TryzI7 : TI := { size := 4, bytes := 24, k := .struct [(0, 1, false), (1, 1, false), (2, 1, false), (3, 1, false)], zero := [.int .i64 0, .int .i64 0, .bool false, .int .u8 0] }
def TryzI8 : TI := { size := 4, bytes := 24, k := .struct [(0, 1, false), (1, 1, false), (2, 1, false), (3, 1, false)], zero := [.int .i64 0, .int .i64 0, .bool false, .int .u8 0] }
def TryzI9 : TI := { size := 1, bytes := 16, k := .str, zero := [.string ⟨#[]⟩] }
def TryzI10 : TI := { size := 1, bytes := 16, k := .str, zero := [.string ⟨#[]⟩] }
def TryzI11 : TI := { size := 1, bytes := 16, k := .str, zero := [.string ⟨#[]⟩] }
def TryzI12 : TI := { size := 1, bytes := 8, k := .int .u64, zero := [.int .u64 0] }
def TryzI13 : TI := { size := 2, bytes := 24, k := .struct [(0, 1, false), (1, 1, false)], zero := [.string ⟨#[]⟩, .int .u64 0] }
def TryzI14 : TI := { size := 2, bytes := 24, k := .struct [(0, 1, false), (1, 1, false)], zero := [.string ⟨#[]⟩, .int .u64 0] }
def TryzI15 : TI := { size := 1, bytes := 8, k := .ptr 317, zero := [.pointer none] }
def TryzI16 : TI := { size := 1, bytes := 8, k := .ptr 320, zero := [.pointer none] }
def TryzI17 : TI := { size := 1, bytes := 8, k := .ptr 328, zero := [.pointer none] }
def TryzI18 : TI := { size := 1, bytes := 8, k := .struct [(0, 1, false)], zero := [.pointer none] }
def TryzI19 : TI := { size := 1, bytes := 8, k := .struct [(0, 1, false)], zero := [.pointer none] }
def TryzI20 : TI := { size := 1, bytes := 16, k := .sc, zero := [.nilIface] }
def TryzI21 : TI := { size := 1, bytes := 4, k := .int .i32, zero := [.int .i32 0] }
def TryzI22 : TI := { size := 1, bytes := 1, k := .int .u8, zero := [.int .u8 0] }
def TryzI23 : TI := { size := 5, bytes := 5, k := .arr 5 5, zero := [.int .u8 0, .int .u8 0, .int .u8 0, .int .u8 0, .int .u8 0] }
def TryzI24 : TI := { size := 25, bytes := 25, k := .arr 5 23, zero := [.int .u8 0, .int .u8 0, .int .u8 0, .int .u8 0, .int .u8 0, .int .u8 0, .int .u8 0, .int .u8 0, .int .u8 0, .int .u8 0, .int .u8 0, .int .u8 0, .int .u8 0, .int .u8 0, .int .u8 0, .int .u8 0, .int .u8 0, .int .u8 0, .int .u8 0, .int .u8 0, .int .u8 0, .int .u8 0, .int .u8 0, .int .u8 0, .int .u8 0] }
def TryzI25 : TI := { size := 27, bytes := 27, k := .struct [(0, 1, false), (1, 1, false), (2, 25, true)], zero := [.int .u8 0, .int .u8 0, .int .u8 0, .int .u8 0, .int .u8 0, .int .u8 0, .int .u8 0, .int .u8 0, .int .u8 0, .int .u8 0, .int .u8 0, .int .u8 0, .int .u8 0, .int .u8 0, .int .u8 0, .int .u8 0, .int .u8 0, .int .u8 0, .int .u8 0, .int .u8 0, .int .u8 0, .int .u8 0, .int .u8 0, .int .u8 0, .int .u8 0, .int .u8 0, .int .u8 0] }
def TryzI26 : TI := { size := 27, bytes := 27, k := .struct [(0, 1, false), (1, 1, false), (2, 25, true)], zero := [.int .u8 0, .int .u8 0, .int .u8 0, .int .u8 0, .int .u8 0, .int .u8 0, .int .u8 0, .int .u8 0, .int .u8 0, .int .u8 0, .int .u8 0, .int .u8 0, .int .u8 0, .int .u8 0, .int .u8 0, .int .u8 0, .int .u8 0, .int .u8 0, .int .u8 0, .int .u8 0, .int .u8 0, .int .u8 0, .int .u8 0, .int .u8 0, .int .u8 0, .int .u8 0, .int .u8 0] }
def TryzI27 : TI := { size := 57, bytes := 57, k := .struct [(0, 1, false), (1, 27, true), (28, 27, true), (55, 1, false), (56, 1, false)], zero := [.int .u8 0, .int .u8 0, .int .u8 0, .int .u8 0, .int .u8 0, .int .u8 0, .int .u8 0, .int .u8 0, .int .u8 0, .int .u8 0, .int .u8 0, .int .u8 0, .int .u8 0, .int .u8 0, .int .u8 0, .int .u8 0, .int .u8 0, .int .u8 0, .int .u8 0, .int .u8 0, .int .u8 0, .int .u8 0, .int .u8 0, .int .u8 0, .int .u8 0, .int .u8 0, .int .u8 0, .int .u8 0, .int .u8 0, .int .u8 0, .int .u8 0, .int .u8 0, .int .u8 0, .int .u8 0, .int .u8 0, .int .u8 0, .int .u8 0, .int .u8 0, .int .u8 0, .int .u8 0, .int .u8 0, .int .u8 0, .int .u8 0, .int .u8 0, .int .u8 0, .int .u8 0, .int .u8 0, .int .u8 0, .int .u8 0, .int .u8 0, .int .u8 0, .int .u8 0, .int .u8 0, .int .u8 0, .int .u8 0, .int .u8 0, .int .u8 0] }
def TryzI28 : TI := { size := 57, bytes := 57, k := .struct [(0, 1, false), (1, 27, true), (28, 27, true), (55, 1, false), (56, 1, false)], zero := [.int .u8 0, .int .u8 0, .int .u8 0, .int .u8 0, .int .u8 0, .int .u8 0, .int .u8 0, .int .u8 0, .int .u8 0, .int .u8 0, .int .u8 0, .int .u8 0, .int .u8 0, .int .u8 0, .int .u8 0, .int .u8 0, .int .u8 0, .int .u8 0, .int .u8 0, .int .u8 0, .int .u8 0, .int .u8 0, .int .u8 0, .int .u8 0, .int .u8 0, .int .u8 0, .int .u8 0, .int .u8 0, .int .u8 0, .int .u8 0, .int .u8 0, .int .u8 0, .int .u8 0, .int .u8 0, .int .u8 0, .int .u8 0, .int .u8 0, .int .u8 0, .int .u8 0, .int .u8 0, .int .u8 0, .int .u8 0, .int .u8 0, .int .u8 0, .int .u8 0, .int .u8 0, .int .u8 0, .int .u8 0, .int .u8 0, .int .u8 0, .int .u8 0, .int .u8 0, .int .u8 0, .int .u8 0, .int .u8 0, .int .u8 0, .int .u8 0] }
def TryzI29 : TI := { size := 1, bytes := 8, k := .sc, zero := [.nilFunc] }
def TryzI30 : TI := { size := 1, bytes := 8, k := .sc, zero := [.nilFunc] }
def TryzI31 : TI := { size := 1, bytes := 24, k := .slice 3, zero := [.slice none 0 0] }
def TryzI32 : TI := { size := 3, bytes := 56, k := .struct [(0, 1, false), (1, 1, false), (2, 1, false)], zero := [.slice none 0 0, .slice none 0 0, .int .i64 0] }
def TryzI33 : TI := { size := 3, bytes := 56, k := .struct [(0, 1, false), (1, 1, false), (2, 1, false)], zero := [.slice none 0 0, .slice none 0 0, .int .i64 0] }
def TryzI34 : TI := { size := 1, bytes := 8, k := .int .i64, zero := [.int .i64 0] }
def TryzI36 : TI := { size := 1, bytes := 8, k := .sc, zero := [.nilFunc] }
def TryzI37 : TI := { size := 1, bytes := 24, k := .slice 117, zero := [.slice none 0 0] }
def TryzI38 : TI := { size := 4, bytes := 80, k := .struct [(0, 1, false), (1, 1, false), (2, 1, false), (3, 1, false)], zero := [.slice none 0 0, .int .i64 0, .slice none 0 0, .slice none 0 0] }
def TryzI39 : TI := { size := 4, bytes := 80, k := .struct [(0, 1, false), (1, 1, false), (2, 1, false), (3, 1, false)], zero := [.slice none 0 0, .int .i64 0, .slice none 0 0, .slice none 0 0] }
def TryzI40 : TI := { size := 10, bytes := 208, k := .struct [(0, 4, true), (4, 4, true), (8, 1, false), (9, 1, false)], zero := [.slice none 0 0, .int .i64 0, .slice none 0 0, .slice none 0 0, .slice none 0 0, .int .i64 0, .slice none 0 0, .slice none 0 0, .slice none 0 0, .slice none 0 0] }
def TryzI41 : TI := { size := 10, bytes := 208, k := .struct [(0, 4, true), (4, 4, true), (8, 1, false), (9, 1, false)], zero := [.slice none 0 0, .int .i64 0, .slice none 0 0, .slice none 0 0, .slice none 0 0, .int .i64 0, .slice none 0 0, .slice none 0 0, .slice none 0 0, .slice none 0 0] }
def TryzI42 : TI := { size := 1, bytes := 8, k := .sc, zero := [.nilFunc] }
def TryzI43 : TI := { size := 1, bytes := 8, k := .sc, zero := [.nilFunc] }
def TryzI44 : TI := { size := 1, bytes := 24, k := .slice 5, zero := [.slice none 0 0] }
def TryzI45 : TI := { size := 1, bytes := 24, k := .slice 48, zero := [.slice none 0 0] }
def TryzI47 : TI := { size := 1, bytes := 8, k := .sc, zero := [.nilFunc] }
def TryzI48 : TI := { size := 2, bytes := 16, k := .arr 2 3, zero := [.int .i64 0, .int .i64 0], cmp := [.int .i64, .int .i64] }
def TryzI49 : TI := { size := 1, bytes := 8, k := .sc, zero := [.nilFunc] }
def TryzI50 : TI := { size := 1, bytes := 8, k := .sc, zero := [.nilFunc] }
def TryzI51 : TI := { size := 1, bytes := 24, k := .slice 31, zero := [.slice none 0 0] }
def TryzI52 : TI := { size := 5, bytes := 104, k := .struct [(0, 4, true), (4, 1, false)], zero := [.slice none 0 0, .int .i64 0, .slice none 0 0, .slice none 0 0, .slice none 0 0] }
def TryzI53 : TI := { size := 5, bytes := 104, k := .struct [(0, 4, true), (4, 1, false)], zero := [.slice none 0 0, .int .i64 0, .slice none 0 0, .slice none 0 0, .slice none 0 0] }
def TryzI55 : TI := { size := 1, bytes := 8, k := .sc, zero := [.nilFunc] }
def TryzI57 : TI := { size := 1, bytes := 8, k := .sc, zero := [.nilFunc] }
def TryzI58 : TI := { size := 1, bytes := 8, k := .sc, zero := [.nilFunc] }
def TryzI59 : TI := { size := 1, bytes := 8, k := .sc, zero := [.nilFunc] }
def TryzI60 : TI := { size := 1, bytes := 8, k := .sc, zero := [.nilFunc] }
def TryzI61 : TI := { size := 1, bytes := 8, k := .sc, zero := [.nilFunc] }
def TryzI62 : TI := { size := 1, bytes := 8, k := .sc, zero := [.nilFunc] }
def TryzI63 : TI := { size := 1, bytes := 8, k := .sc, zero := [.nilFunc] }
def TryzI64 : TI := { size := 1, bytes := 8, k := .sc, zero := [.nilFunc] }
def TryzI66 : TI := { size := 1, bytes := 8, k := .sc, zero := [.nilFunc] }
def TryzI67 : TI := { size := 1, bytes := 8, k := .sc, zero := [.nilFunc] }
def TryzI68 : TI := { size := 3, bytes := 3, k := .arr 3 22, zero := [.int .u8 0, .int .u8 0, .int .u8 0] }
def TryzI70 : TI := { size := 1, bytes := 24, k := .slice 39, zero := [.slice none 0 0] }
def TryzI71 : TI := { size := 1, bytes := 24, k := .slice 77, zero := [.slice none 0 0] }
def TryzI72 : TI := { size := 1, bytes := 8, k := .sc, zero := [.nilFunc] }
def TryzI73 : TI := { size := 1, bytes := 8, k := .sc, zero := [.nilFunc] }
def TryzI74 : TI := { size := 1, bytes := 24, k := .slice 164, zero := [.slice none 0 0] }
def TryzI75 : TI := { size := 1, bytes := 24, k := .slice 150, zero := [.slice none 0 0] }
def TryzI76 : TI := { size := 6, bytes := 112, k := .struct [(0, 1, false), (1, 1, false), (2, 1, false), (3, 1, false), (4, 1, false), (5, 1, false)], zero := [.slice none 0 0, .int .i64 0, .int .i64 0, .slice none 0 0, .slice none 0 0, .slice none 0 0] }
def TryzI77 : TI := { size := 6, bytes := 112, k := .struct [(0, 1, false), (1, 1, false), (2, 1, false), (3, 1, false), (4, 1, false), (5, 1, false)], zero := [.slice none 0 0, .int .i64 0, .int .i64 0, .slice none 0 0, .slice none 0 0, .slice none 0 0] }
def TryzI79 : TI := { size := 1, bytes := 8, k := .sc, zero := [.nilFunc] }
def TryzI80 : TI := { size := 1, bytes := 8, k := .sc, zero := [.nilFunc] }
def TryzI81 : TI := { size := 1, bytes := 24, k := .slice 87, zero := [.slice none 0 0] }
def TryzI83 : TI := { size := 1, bytes := 8, k := .sc, zero := [.nilFunc] }
def TryzI84 : TI := { size := 1, bytes := 8, k := .sc, zero := [.nilFunc] }
def TryzI85 : TI := { size := 1, bytes := 8, k := .sc, zero := [.nilFunc] }
def TryzI86 : TI := { size := 2, bytes := 48, k := .struct [(0, 1, false), (1, 1, false)], zero := [.slice none 0 0, .slice none 0 0] }
def TryzI87 : TI := { size := 2, bytes := 48, k := .struct [(0, 1, false), (1, 1, false)], zero := [.slice none 0 0, .slice none 0 0] }
def TryzI88 : TI := { size := 1, bytes := 8, k := .sc, zero := [.nilFunc] }
def TryzI90 : TI := { size := 1, bytes := 8, k := .sc, zero := [.nilFunc] }
def TryzI91 : TI := { size := 1, bytes := 8, k := .sc, zero := [.nilFunc] }
def TryzI92 : TI := { size := 1, bytes := 8, k := .sc, zero := [.nilFunc] }
def TryzI94 : TI := { size := 1, bytes := 8, k := .sc, zero := [.nilFunc] }
def TryzI95 : TI := { size := 1, bytes := 24, k := .slice 102, zero := [.slice none 0 0] }
def TryzI97 : TI := { size := 1, bytes := 8, k := .sc, zero := [.nilFunc] }
def TryzI98 : TI := { size := 1, bytes := 8, k := .sc, zero := [.nilFunc] }
def TryzI99 : TI := { size := 1, bytes := 8, k := .sc, zero := [.nilFunc] }
def TryzI100 : TI := { size := 1, bytes := 24, k := .slice 178, zero := [.slice none 0 0] }
def TryzI101 : TI := { size := 2, bytes := 48, k := .struct [(0, 1, false), (1, 1, false)], zero := [.slice none 0 0, .slice none 0 0] }
def TryzI102 : TI := { size := 2, bytes := 48, k := .struct [(0, 1, false), (1, 1, false)], zero := [.slice none 0 0, .slice none 0 0] }
def TryzI103 : TI := { size := 1, bytes := 8, k := .sc, zero := [.nilFunc] }
def TryzI104 : TI := { size := 1, bytes := 8, k := .sc, zero := [.nilFunc] }
def TryzI105 : TI := { size := 1, bytes := 8, k := .sc, zero := [.nilFunc] }
def TryzI106 : TI := { size := 1, bytes := 8, k := .sc, zero := [.nilFunc] }
def TryzI107 : TI := { size := 1, bytes := 8, k := .sc, zero := [.nilFunc] }
def TryzI108 : TI := { size := 1, bytes := 8, k := .sc, zero := [.nilFunc] }
def TryzI109 : TI := { size := 1, bytes := 8, k := .ptr 119, zero := [.pointer none] }
def TryzI111 : TI := { size := 1, bytes := 8, k := .sc, zero := [.nilFunc] }
def TryzI112 : TI := { size := 1, bytes := 8, k := .sc, zero := [.nilFunc] }
def TryzI113 : TI := { size := 1, bytes := 8, k := .sc, zero := [.nilFunc] }
def TryzI114 : TI := { size := 1, bytes := 8, k := .sc, zero := [.nilFunc] }
def TryzI115 : TI := { size := 1, bytes := 8, k := .sc, zero := [.nilFunc] }
def TryzI116 : TI := { size := 3, bytes := 24, k := .struct [(0, 1, false), (1, 1, false), (2, 1, false)], zero := [.int .i64 0, .int .i64 0, .int .i64 0] }
def TryzI117 : TI := { size := 3, bytes := 24, k := .struct [(0, 1, false), (1, 1, false), (2, 1, false)], zero := [.int .i64 0, .int .i64 0, .int .i64 0], cmp := [.int .i64, .int .i64, .int .i64] }
def TryzI118 : TI := { size := 20, bytes := 416, k := .struct [(0, 10, true), (10, 4, true), (14, 1, false), (15, 4, true), (19, 1, false)], zero := [.slice none 0 0, .int .i64 0, .slice none 0 0, .slice none 0 0, .slice none 0 0, .int .i64 0, .slice none 0 0, .slice none 0 0, .slice none 0 0, .slice none 0 0, .slice none 0 0, .int .i64 0, .slice none 0 0, .slice none 0 0, .slice none 0 0, .slice none 0 0, .int .i64 0, .slice none 0 0, .slice none 0 0, .slice none 0 0] }
def TryzI119 : TI := { size := 20, bytes := 416, k := .struct [(0, 10, true), (10, 4, true), (14, 1, false), (15, 4, true), (19, 1, false)], zero := [.slice none 0 0, .int .i64 0, .slice none 0 0, .slice none 0 0, .slice none 0 0, .int .i64 0, .slice none 0 0, .slice none 0 0, .slice none 0 0, .slice none 0 0, .slice none 0 0, .int .i64 0, .slice none 0 0, .slice none 0 0, .slice none 0 0, .slice none 0 0, .int .i64 0, .slice none 0 0, .slice none 0 0, .slice none 0 0] }
def TryzI121 : TI := { size := 1, bytes := 8, k := .sc, zero := [.nilFunc] }
def TryzI123 : TI := { size := 1, bytes := 8, k := .sc, zero := [.nilFunc] }
def TryzI124 : TI := { size := 1, bytes := 8, k := .sc, zero := [.nilFunc] }
def TryzI126 : TI := { size := 1, bytes := 8, k := .sc, zero := [.nilFunc] }
def TryzI127 : TI := { size := 2, bytes := 48, k := .arr 2 31, zero := [.slice none 0 0, .slice none 0 0] }
def TryzI129 : TI := { size := 1, bytes := 8, k := .sc, zero := [.nilFunc] }
def TryzI130 : TI := { size := 1, bytes := 8, k := .sc, zero := [.nilFunc] }
def TryzI131 : TI := { size := 1, bytes := 8, k := .sc, zero := [.nilFunc] }
def TryzI132 : TI := { size := 1, bytes := 8, k := .sc, zero := [.nilFunc] }
def TryzI133 : TI := { size := 8, bytes := 160, k := .arr 2 39, zero := [.slice none 0 0, .int .i64 0, .slice none 0 0, .slice none 0 0, .slice none 0 0, .int .i64 0, .slice none 0 0, .slice none 0 0] }
def TryzI134 : TI := { size := 1, bytes := 24, k := .slice 196, zero := [.slice none 0 0] }
def TryzI136 : TI := { size := 1, bytes := 8, k := .sc, zero := [.nilFunc] }
def TryzI137 : TI := { size := 1, bytes := 8, k := .sc, zero := [.nilFunc] }
def TryzI138 : TI := { size := 1, bytes := 24, k := .slice 140, zero := [.slice none 0 0] }
def TryzI139 : TI := { size := 4, bytes := 48, k := .struct [(0, 1, false), (1, 1, false), (2, 1, false), (3, 1, false)], zero := [.int .i64 0, .int .i64 0, .int .i64 0, .slice none 0 0] }
def TryzI140 : TI := { size := 4, bytes := 48, k := .struct [(0, 1, false), (1, 1, false), (2, 1, false), (3, 1, false)], zero := [.int .i64 0, .int .i64 0, .int .i64 0, .slice none 0 0] }
def TryzI141 : TI := { size := 1, bytes := 8, k := .sc, zero := [.nilFunc] }
def TryzI142 : TI := { size := 1, bytes := 8, k := .sc, zero := [.nilFunc] }
def TryzI144 : TI := { size := 1, bytes := 8, k := .sc, zero := [.nilFunc] }
def TryzI145 : TI := { size := 1, bytes := 8, k := .sc, zero := [.nilFunc] }
def TryzI146 : TI := { size := 1, bytes := 8, k := .sc, zero := [.nilFunc] }
def TryzI147 : TI := { size := 1, bytes := 8, k := .sc, zero := [.nilFunc] }
def TryzI148 : TI := { size := 1, bytes := 24, k := .slice 206, zero := [.slice none 0 0] }
def TryzI149 : TI := { size := 8, bytes := 96, k := .struct [(0, 1, false), (1, 1, false), (2, 1, false), (3, 4, true), (7, 1, false)], zero := [.int .i64 0, .int .i64 0, .int .i64 0, .int .i64 0, .int .i64 0, .int .i64 0, .slice none 0 0, .slice none 0 0] }
def TryzI150 : TI := { size := 8, bytes := 96, k := .struct [(0, 1, false), (1, 1, false), (2, 1, false), (3, 4, true), (7, 1, false)], zero := [.int .i64 0, .int .i64 0, .int .i64 0, .int .i64 0, .int .i64 0, .int .i64 0, .slice none 0 0, .slice none 0 0] }
def TryzI151 : TI := { size := 1, bytes := 8, k := .sc, zero := [.nilFunc] }
def TryzI152 : TI := { size := 1, bytes := 24, k := .slice 214, zero := [.slice none 0 0] }
def TryzI153 : TI := { size := 3, bytes := 72, k := .struct [(0, 1, false), (1, 1, false), (2, 1, false)], zero := [.slice none 0 0, .slice none 0 0, .slice none 0 0] }
def TryzI154 : TI := { size := 3, bytes := 72, k := .struct [(0, 1, false), (1, 1, false), (2, 1, false)], zero := [.slice none 0 0, .slice none 0 0, .slice none 0 0] }
def TryzI155 : TI := { size := 1, bytes := 8, k := .sc, zero := [.nilFunc] }
def TryzI157 : TI := { size := 1, bytes := 8, k := .sc, zero := [.nilFunc] }
def TryzI158 : TI := { size := 1, bytes := 8, k := .sc, zero := [.nilFunc] }
def TryzI159 : TI := { size := 1, bytes := 8, k := .map 9 3, zero := [.map none] }
def TryzI160 : TI := { size := 1, bytes := 8, k := .sc, zero := [.nilFunc] }
def TryzI161 : TI := { size := 1, bytes := 8, k := .sc, zero := [.nilFunc] }
def TryzI162 : TI := { size := 1, bytes := 8, k := .sc, zero := [.nilFunc] }
def TryzI163 : TI := { size := 4, bytes := 40, k := .struct [(0, 1, false), (1, 1, false), (2, 1, false), (3, 1, false)], zero := [.string ⟨#[]⟩, .int .i64 0, .int .i64 0, .int .i64 0] }
def TryzI164 : TI := { size := 4, bytes := 40, k := .struct [(0, 1, false), (1, 1, false), (2, 1, false), (3, 1, false)], zero := [.string ⟨#[]⟩, .int .i64 0, .int .i64 0, .int .i64 0], cmp := [.str, .int .i64, .int .i64, .int .i64] }
def TryzI165 : TI := { size := 1, bytes := 8, k := .sc, zero := [.nilFunc] }
def TryzI166 : TI := { size := 1, bytes := 8, k := .sc, zero := [.nilFunc] }
def TryzI168 : TI := { size := 1, bytes := 8, k := .sc, zero := [.nilFunc] }
def TryzI169 : TI := { size := 1, bytes := 8, k := .sc, zero := [.nilFunc] }
def TryzI170 : TI := { size := 1, bytes := 8, k := .sc, zero := [.nilFunc] }
def TryzI171 : TI := { size := 1, bytes := 8, k := .sc, zero := [.nilFunc] }
def TryzI172 : TI := { size := 1, bytes := 8, k := .sc, zero := [.nilFunc] }
def TryzI173 : TI := { size := 1, bytes := 8, k := .sc, zero := [.nilFunc] }
def TryzI174 : TI := { size := 1, bytes := 8, k := .sc, zero := [.nilFunc] }
def TryzI175 : TI := { size := 1, bytes := 8, k := .sc, zero := [.nilFunc] }
def TryzI176 : TI := { size := 1, bytes := 8, k := .sc, zero := [.nilFunc] }
def TryzI177 : TI := { size := 2, bytes := 32, k := .struct [(0, 1, false), (1, 1, false)], zero := [.int .i64 0, .slice none 0 0] }
def TryzI178 : TI := { size := 2, bytes := 32, k := .struct [(0, 1, false), (1, 1, false)], zero := [.int .i64 0, .slice none 0 0] }
def TryzI179 : TI := { size := 1, bytes := 8, k := .sc, zero := [.nilFunc] }
def TryzI180 : TI := { size := 1, bytes := 8, k := .sc, zero := [.nilFunc] }
def TryzI181 : TI := { size := 1, bytes := 8, k := .sc, zero := [.nilFunc] }
def TryzI182 : TI := { size := 1, bytes := 8, k := .sc, zero := [.nilFunc] }
def TryzI183 : TI := { size := 1, bytes := 8, k := .sc, zero := [.nilFunc] }
def TryzI184 : TI := { size := 1, bytes := 8, k := .sc, zero := [.nilFunc] }
def TryzI185 : TI := { size := 1, bytes := 8, k := .sc, zero := [.nilFunc] }
def TryzI186 : TI := { size := 1, bytes := 8, k := .sc, zero := [.nilFunc] }
def TryzI187 : TI := { size := 1, bytes := 8, k := .sc, zero := [.nilFunc] }
def TryzI188 : TI := { size := 1, bytes := 8, k := .sc, zero := [.nilFunc] }
def TryzI189 : TI := { size := 1, bytes := 8, k := .sc, zero := [.nilFunc] }
def TryzI190 : TI := { size := 1, bytes := 8, k := .sc, zero := [.nilFunc] }
def TryzI191 : TI := { size := 1, bytes := 8, k := .sc, zero := [.nilFunc] }
def TryzI192 : TI := { size := 1, bytes := 8, k := .sc, zero := [.nilFunc] }
def TryzI194 : TI := { size := 1, bytes := 8, k := .sc, zero := [.nilFunc] }
def TryzI195 : TI := { size := 2, bytes := 32, k := .struct [(0, 1, false), (1, 1, false)], zero := [.int .i64 0, .slice none 0 0] }
def TryzI196 : TI := { size := 2, bytes := 32, k := .struct [(0, 1, false), (1, 1, false)], zero := [.int .i64 0, .slice none 0 0] }
def TryzI198 : TI := { size := 1, bytes := 8, k := .sc, zero := [.nilFunc] }
def TryzI199 : TI := { size := 1, bytes := 8, k := .sc, zero := [.nilFunc] }
def TryzI201 : TI := { size := 1, bytes := 8, k := .sc, zero := [.nilFunc] }
def TryzI202 : TI := { size := 1, bytes := 8, k := .sc, zero := [.nilFunc] }
def TryzI203 : TI := { size := 1, bytes := 8, k := .sc, zero := [.nilFunc] }
def TryzI204 : TI := { size := 1, bytes := 8, k := .sc, zero := [.nilFunc] }
def TryzI205 : TI := { size := 5, bytes := 56, k := .struct [(0, 1, false), (1, 4, true)], zero := [.int .i64 0, .int .i64 0, .int .i64 0, .int .i64 0, .slice none 0 0] }
def TryzI206 : TI := { size := 5, bytes := 56, k := .struct [(0, 1, false), (1, 4, true)], zero := [.int .i64 0, .int .i64 0, .int .i64 0, .int .i64 0, .slice none 0 0] }
def TryzI207 : TI := { size := 1, bytes := 8, k := .sc, zero := [.nilFunc] }
def TryzI208 : TI := { size := 1, bytes := 8, k := .sc, zero := [.nilFunc] }
def TryzI210 : TI := { size := 1, bytes := 8, k := .sc, zero := [.nilFunc] }
def TryzI211 : TI := { size := 1, bytes := 8, k := .sc, zero := [.nilFunc] }
def TryzI212 : TI := { size := 1, bytes := 8, k := .sc, zero := [.nilFunc] }
def TryzI213 : TI := { size := 1, bytes := 8, k := .sc, zero := [.nilFunc] }
def TryzI214 : TI := { size := 1, bytes := 8, k := .map 48 3, zero := [.map none] }
def TryzI215 : TI := { size := 1, bytes := 8, k := .ptr 217, zero := [.pointer none] }
def TryzI216 : TI := { size := 2, bytes := 32, k := .struct [(0, 1, false), (1, 1, false)], zero := [.pointer none, .slice none 0 0] }
def TryzI217 : TI := { size := 2, bytes := 32, k := .struct [(0, 1, false), (1, 1, false)], zero := [.pointer none, .slice none 0 0] }
def TryzI218 : TI := { size := 1, bytes := 16, k := .sc, zero := [.nilIface] }
def TryzI219 : TI := { size := 1, bytes := 16, k := .sc, zero := [.nilIface] }
def TryzI221 : TI := { size := 1, bytes := 8, k := .sc, zero := [.nilFunc] }
def TryzI222 : TI := { size := 1, bytes := 8, k := .sc, zero := [.nilFunc] }
def TryzI223 : TI := { size := 1, bytes := 8, k := .sc, zero := [.nilFunc] }
def TryzI224 : TI := { size := 1, bytes := 8, k := .sc, zero := [.nilFunc] }
def TryzI225 : TI := { size := 1, bytes := 8, k := .sc, zero := [.nilFunc] }
def TryzI227 : TI := { size := 1, bytes := 8, k := .sc, zero := [.nilFunc] }
def TryzI228 : TI := { size := 1, bytes := 8, k := .sc, zero := [.nilFunc] }
def TryzI229 : TI := { size := 1, bytes := 8, k := .sc, zero := [.nilFunc] }
def TryzI230 : TI := { size := 1, bytes := 8, k := .sc, zero := [.nilFunc] }
def TryzI231 : TI := { size := 1, bytes := 8, k := .sc, zero := [.nilFunc] }
def TryzI232 : TI := { size := 1, bytes := 8, k := .sc, zero := [.nilFunc] }
def TryzI233 : TI := { size := 1, bytes := 8, k := .sc, zero := [.nilFunc] }
def TryzI234 : TI := { size := 1, bytes := 8, k := .int .u64, zero := [.int .u64 0] }
def TryzI235 : TI := { size := 1, bytes := 8, k := .sc, zero := [.nilFunc] }
def TryzI236 : TI := { size := 1, bytes := 8, k := .sc, zero := [.nilFunc] }
def TryzI237 : TI := { size := 1, bytes := 8, k := .sc, zero := [.nilFunc] }
def TryzI238 : TI := { size := 1, bytes := 24, k := .slice 37, zero := [.slice none 0 0] }
def TryzI239 : TI := { size := 4, bytes := 96, k := .struct [(0, 1, false), (1, 1, false), (2, 1, false), (3, 1, false)], zero := [.slice none 0 0, .slice none 0 0, .slice none 0 0, .slice none 0 0] }
def TryzI240 : TI := { size := 4, bytes := 96, k := .struct [(0, 1, false), (1, 1, false), (2, 1, false), (3, 1, false)], zero := [.slice none 0 0, .slice none 0 0, .slice none 0 0, .slice none 0 0] }
def TryzI241 : TI := { size := 1, bytes := 8, k := .sc, zero := [.nilFunc] }
def TryzI242 : TI := { size := 1, bytes := 8, k := .sc, zero := [.nilFunc] }
def TryzI243 : TI := { size := 4, bytes := 32, k := .struct [(0, 1, false), (1, 1, false), (2, 1, false), (3, 1, false)], zero := [.int .i64 0, .int .i64 0, .int .i64 0, .int .i64 0] }
def TryzI244 : TI := { size := 4, bytes := 32, k := .struct [(0, 1, false), (1, 1, false), (2, 1, false), (3, 1, false)], zero := [.int .i64 0, .int .i64 0, .int .i64 0, .int .i64 0] }
def TryzI245 : TI := { size := 1, bytes := 24, k := .slice 244, zero := [.slice none 0 0] }
def TryzI246 : TI := { size := 1, bytes := 8, k := .map 3 4, zero := [.map none] }
def TryzI247 : TI := { size := 1, bytes := 8, k := .sc, zero := [.nilFunc] }
def TryzI248 : TI := { size := 2, bytes := 16, k := .struct [(0, 1, false), (1, 1, false)], zero := [.int .i64 0, .int .i64 0] }
def TryzI249 : TI := { size := 2, bytes := 16, k := .struct [(0, 1, false), (1, 1, false)], zero := [.int .i64 0, .int .i64 0], cmp := [.int .i64, .int .i64] }
def TryzI250 : TI := { size := 1, bytes := 8, k := .map 249 4, zero := [.map none] }
def TryzI251 : TI := { size := 1, bytes := 8, k := .sc, zero := [.nilFunc] }
def TryzI252 : TI := { size := 1, bytes := 8, k := .sc, zero := [.nilFunc] }
def TryzI253 : TI := { size := 1, bytes := 8, k := .sc, zero := [.nilFunc] }
def TryzI254 : TI := { size := 1, bytes := 8, k := .sc, zero := [.nilFunc] }
def TryzI255 : TI := { size := 1, bytes := 8, k := .sc, zero := [.nilFunc] }
def TryzI256 : TI := { size := 1, bytes := 8, k := .sc, zero := [.nilFunc] }
def TryzI257 : TI := { size := 1, bytes := 8, k := .sc, zero := [.nilFunc] }
def TryzI258 : TI := { size := 1, bytes := 8, k := .sc, zero := [.nilFunc] }
def TryzI259 : TI := { size := 1, bytes := 8, k := .sc, zero := [.nilFunc] }
def TryzI260 : TI := { size := 1, bytes := 8, k := .sc, zero := [.nilFunc] }
def TryzI261 : TI := { size := 1, bytes := 8, k := .sc, zero := [.nilFunc] }
def TryzI262 : TI := { size := 1, bytes := 8, k := .ptr 3, zero := [.pointer none] }
def TryzI263 : TI := { size := 1, bytes := 8, k := .sc, zero := [.nilFunc] }
def TryzI264 : TI := { size := 1, bytes := 8, k := .sc, zero := [.nilFunc] }
def TryzI265 : TI := { size := 1, bytes := 8, k := .ptr 5, zero := [.pointer none] }
def TryzI266 : TI := { size := 1, bytes := 8, k := .sc, zero := [.nilFunc] }
def TryzI267 : TI := { size := 1, bytes := 8, k := .sc, zero := [.nilFunc] }
def TryzI268 : TI := { size := 1, bytes := 8, k := .int .i64, zero := [.int .i64 0] }
def TryzI270 : TI := { size := 1, bytes := 8, k := .sc, zero := [.nilFunc] }
def TryzI271 : TI := { size := 1, bytes := 8, k := .sc, zero := [.nilFunc] }
def TryzI272 : TI := { size := 1, bytes := 8, k := .sc, zero := [.nilFunc] }
def TryzI273 : TI := { size := 1, bytes := 8, k := .sc, zero := [.nilFunc] }
def TryzI274 : TI := { size := 1, bytes := 8, k := .sc, zero := [.nilFunc] }
def TryzI275 : TI := { size := 1, bytes := 4, k := .int .u32, zero := [.int .u32 0] }
def TryzI276 : TI := { size := 1, bytes := 8, k := .sc, zero := [.nilFunc] }
def TryzI277 : TI := { size := 1, bytes := 8, k := .int .u64, zero := [.int .u64 0] }
def TryzI278 : TI := { size := 1, bytes := 8, k := .sc, zero := [.nilFunc] }
def TryzI279 : TI := { size := 1, bytes := 8, k := .sc, zero := [.nilFunc] }
def TryzI280 : TI := { size := 1, bytes := 8, k := .sc, zero := [.nilFunc] }
def TryzI281 : TI := { size := 1, bytes := 8, k := .ptr 150, zero := [.pointer none] }
def TryzI283 : TI := { size := 1, bytes := 8, k := .sc, zero := [.nilFunc] }
def TryzI284 : TI := { size := 1, bytes := 8, k := .sc, zero := [.nilFunc] }
def TryzI285 : TI := { size := 1, bytes := 8, k := .sc, zero := [.nilFunc] }
def TryzI286 : TI := { size := 1, bytes := 8, k := .sc, zero := [.nilFunc] }
def TryzI287 : TI := { size := 1, bytes := 8, k := .sc, zero := [.nilFunc] }
def TryzI288 : TI := { size := 1, bytes := 8, k := .sc, zero := [.nilFunc] }
def TryzI289 : TI := { size := 1, bytes := 8, k := .sc, zero := [.nilFunc] }
def TryzI291 : TI := { size := 1, bytes := 8, k := .sc, zero := [.nilFunc] }
def TryzI292 : TI := { size := 1, bytes := 8, k := .sc, zero := [.nilFunc] }
def TryzI293 : TI := { size := 1, bytes := 8, k := .sc, zero := [.nilFunc] }
def TryzI294 : TI := { size := 1, bytes := 8, k := .sc, zero := [.nilFunc] }
def TryzI295 : TI := { size := 1, bytes := 8, k := .int .u64, zero := [.int .u64 0] }
def TryzI296 : TI := { size := 1, bytes := 8, k := .sc, zero := [.nilFunc] }
def TryzI297 : TI := { size := 1, bytes := 8, k := .sc, zero := [.nilFunc] }
def TryzI298 : TI := { size := 1, bytes := 8, k := .sc, zero := [.nilFunc] }
def TryzI299 : TI := { size := 1, bytes := 8, k := .sc, zero := [.nilFunc] }
def TryzI300 : TI := { size := 1, bytes := 24, k := .slice 4, zero := [.slice none 0 0] }
def TryzI301 : TI := { size := 1, bytes := 8, k := .sc, zero := [.nilFunc] }
def TryzI302 : TI := { size := 1, bytes := 8, k := .sc, zero := [.nilFunc] }
def TryzI303 : TI := { size := 1, bytes := 8, k := .sc, zero := [.nilFunc] }
def TryzI304 : TI := { size := 1, bytes := 8, k := .sc, zero := [.nilFunc] }
def TryzI305 : TI := { size := 24, bytes := 24, k := .arr 24 5, zero := [.int .u8 0, .int .u8 0, .int .u8 0, .int .u8 0, .int .u8 0, .int .u8 0, .int .u8 0, .int .u8 0, .int .u8 0, .int .u8 0, .int .u8 0, .int .u8 0, .int .u8 0, .int .u8 0, .int .u8 0, .int .u8 0, .int .u8 0, .int .u8 0, .int .u8 0, .int .u8 0, .int .u8 0, .int .u8 0, .int .u8 0, .int .u8 0] }
def TryzI306 : TI := { size := 1, bytes := 8, k := .sc, zero := [.nilFunc] }
def TryzI308 : TI := { size := 1, bytes := 8, k := .sc, zero := [.nilFunc] }
def TryzI309 : TI := { size := 1, bytes := 8, k := .ptr 295, zero := [.pointer none] }
def TryzI310 : TI := { size := 1, bytes := 8, k := .sc, zero := [.nilFunc] }
def TryzI311 : TI := { size := 1, bytes := 8, k := .sc, zero := [.nilFunc] }
def TryzI312 : TI := { size := 20, bytes := 160, k := .arr 20 277, zero := [.int .u64 0, .int .u64 0, .int .u64 0, .int .u64 0, .int .u64 0, .int .u64 0, .int .u64 0, .int .u64 0, .int .u64 0, .int .u64 0, .int .u64 0, .int .u64 0, .int .u64 0, .int .u64 0, .int .u64 0, .int .u64 0, .int .u64 0, .int .u64 0, .int .u64 0, .int .u64 0] }
def TryzI314 : TI := { size := 32, bytes := 32, k := .arr 32 5, zero := [.int .u8 0, .int .u8 0, .int .u8 0, .int .u8 0, .int .u8 0, .int .u8 0, .int .u8 0, .int .u8 0, .int .u8 0, .int .u8 0, .int .u8 0, .int .u8 0, .int .u8 0, .int .u8 0, .int .u8 0, .int .u8 0, .int .u8 0, .int .u8 0, .int .u8 0, .int .u8 0, .int .u8 0, .int .u8 0, .int .u8 0, .int .u8 0, .int .u8 0, .int .u8 0, .int .u8 0, .int .u8 0, .int .u8 0, .int .u8 0, .int .u8 0, .int .u8 0] }
def TryzI315 : TI := { size := 64, bytes := 64, k := .arr 64 5, zero := [.int .u8 0, .int .u8 0, .int .u8 0, .int .u8 0, .int .u8 0, .int .u8 0, .int .u8 0, .int .u8 0, .int .u8 0, .int .u8 0, .int .u8 0, .int .u8 0, .int .u8 0, .int .u8 0, .int .u8 0, .int .u8 0, .int .u8 0, .int .u8 0, .int .u8 0, .int .u8 0, .int .u8 0, .int .u8 0, .int .u8 0, .int .u8 0, .int .u8 0, .int .u8 0, .int .u8 0, .int .u8 0, .int .u8 0, .int .u8 0, .int .u8 0, .int .u8 0, .int .u8 0, .int .u8 0, .int .u8 0, .int .u8 0, .int .u8 0, .int .u8 0, .int .u8 0, .int .u8 0, .int .u8 0, .int .u8 0, .int .u8 0, .int .u8 0, .int .u8 0, .int .u8 0, .int .u8 0, .int .u8 0, .int .u8 0, .int .u8 0, .int .u8 0, .int .u8 0, .int .u8 0, .int .u8 0, .int .u8 0, .int .u8 0, .int .u8 0, .int .u8 0, .int .u8 0, .int .u8 0, .int .u8 0, .int .u8 0, .int .u8 0, .int .u8 0] }
def TryzI316 : TI := { size := 4, bytes := 40, k := .struct [(0, 1, false), (1, 1, false), (2, 1, false), (3, 1, false)], zero := [.pointer none, .pointer none, .pointer none, .string ⟨#[]⟩] }
def TryzI317 : TI := { size := 4, bytes := 40, k := .struct [(0, 1, false), (1, 1, false), (2, 1, false), (3, 1, false)], zero := [.pointer none, .pointer none, .pointer none, .string ⟨#[]⟩] }
def TryzI321 : TI := { size := 1, bytes := 8, k := .sc, zero := [.nilFunc] }
def TryzI322 : TI := { size := 1, bytes := 1, k := .int .u8, zero := [.int .u8 0] }
def TryzI323 : TI := { size := 1, bytes := 1, k := .int .u8, zero := [.int .u8 0] }
def TryzI324 : TI := { size := 1, bytes := 8, k := .sc, zero := [.nilFunc] }
def TryzI325 : TI := { size := 1, bytes := 4, k := .int .i32, zero := [.int .i32 0] }
def TryzI326 : TI := { size := 1, bytes := 4, k := .int .i32, zero := [.int .i32 0] }
def TryzI327 : TI := { size := 11, bytes := 48, k := .struct [(0, 1, false), (1, 1, false), (2, 1, false), (3, 1, false), (4, 1, false), (5, 1, false), (6, 1, false), (7, 1, false), (8, 1, false), (9, 1, false), (10, 1, false)], zero := [.int .u64 0, .int .u64 0, .int .u32 0, .int .u8 0, .int .u8 0, .int .u8 0, .int .u8 0, .nilFunc, .pointer none, .int .i32 0, .int .i32 0] }
def TryzI328 : TI := { size := 11, bytes := 48, k := .struct [(0, 1, false), (1, 1, false), (2, 1, false), (3, 1, false), (4, 1, false), (5, 1, false), (6, 1, false), (7, 1, false), (8, 1, false), (9, 1, false), (10, 1, false)], zero := [.int .u64 0, .int .u64 0, .int .u32 0, .int .u8 0, .int .u8 0, .int .u8 0, .int .u8 0, .nilFunc, .pointer none, .int .i32 0, .int .i32 0] }
theorem TryzI1_ok : TIok Tryz.prog 1 TryzI1 := tiok Tryz.type1 rfl rfl rfl rfl (by intro h; first | rfl | cases h) ⟨_, Tryz.underlying1, (by intro x h; cases h), (by intro x y h; cases h)⟩ (by decide) rfl (by decide) (.inl rfl)
theorem TryzI2_ok : TIok Tryz.prog 2 TryzI2 := tiok Tryz.type2 rfl rfl rfl rfl (by intro h; first | rfl | cases h) Tryz.underlying2 (by decide) rfl (by decide) (.inl rfl)
theorem TryzI3_ok : TIok Tryz.prog 3 TryzI3 := tiok Tryz.type3 rfl rfl rfl rfl (by intro h; first | rfl | cases h) Tryz.underlying3 (by decide) rfl (by decide) (.inl rfl)
theorem TryzI4_ok : TIok Tryz.prog 4 TryzI4 := tiok Tryz.type4 rfl rfl rfl rfl (by intro h; first | rfl | cases h) Tryz.underlying4 (by decide) rfl (by decide) (.inl rfl)
theorem TryzI5_ok : TIok Tryz.prog 5 TryzI5 := tiok Tryz.type5 rfl rfl rfl rfl (by intro h; first | rfl | cases h) Tryz.underlying5 (by decide) rfl (by decide) (.inl rfl)
theorem TryzI6_ok : TIok Tryz.prog 6 TryzI6 := tiok Tryz.type6 rfl rfl rfl rfl (by intro h; first | rfl | cases h) Tryz.underlying6 (by decide) rfl (by decide) (.inl rfl)
theorem TryzI7_ok : TIok Tryz.prog 7 TryzI7 := tiok Tryz.type7 rfl rfl rfl rfl (by intro h; first | rfl | cases h) (kind_struct Tryz.underlying7 (.cons ⟨rfl, ⟨_, Tryz.type2, rfl⟩, by decide, Tryz.isAgg2⟩ (.cons ⟨rfl, ⟨_, Tryz.type3, rfl⟩, by decide, Tryz.isAgg3⟩ (.cons ⟨rfl, ⟨_, Tryz.type4, rfl⟩, by decide, Tryz.isAgg4⟩ (.cons ⟨rfl, ⟨_, Tryz.type6, rfl⟩, by decide, Tryz.isAgg6⟩ .nil))))) (by decide) rfl (by decide) (.inl rfl)
theorem TryzI8_ok : TIok Tryz.prog 8 TryzI8 := tiok Tryz.type8 rfl rfl rfl rfl (by intro h; first | rfl | cases h) (kind_struct Tryz.underlying8 (.cons ⟨rfl, ⟨_, Tryz.type2, rfl⟩, by decide, Tryz.isAgg2⟩ (.cons ⟨rfl, ⟨_, Tryz.type3, rfl⟩, by decide, Tryz.isAgg3⟩ (.cons ⟨rfl, ⟨_, Tryz.type4, rfl⟩, by decide, Tryz.isAgg4⟩ (.cons ⟨rfl, ⟨_, Tryz.type6, rfl⟩, by decide, Tryz.isAgg6⟩ .nil))))) (by decide) rfl (by decide) (.inl rfl)
theorem TryzI9_ok : TIok Tryz.prog 9 TryzI9 := tiok Tryz.type9 rfl rfl rfl rfl (by intro h; first | rfl | cases h) Tryz.underlying9 (by decide) rfl (by decide) (.inl rfl)
theorem TryzI10_ok : TIok Tryz.prog 10 TryzI10 := tiok Tryz.type10 rfl rfl rfl rfl (by intro h; first | rfl | cases h) Tryz.underlying10 (by decide) rfl (by decide) (.inl rfl)
theorem TryzI11_ok : TIok Tryz.prog 11 TryzI11 := tiok Tryz.type11 rfl rfl rfl rfl (by intro h; first | rfl | cases h) Tryz.underlying11 (by decide) rfl (by decide) (.inl rfl)
theorem TryzI12_ok : TIok Tryz.prog 12 TryzI12 := tiok Tryz.type12 rfl rfl rfl rfl (by intro h; first | rfl | cases h) Tryz.underlying12 (by decide) rfl (by decide) (.inl rfl)
theorem TryzI13_ok : TIok Tryz.prog 13 TryzI13 := tiok Tryz.type13 rfl rfl rfl rfl (by intro h; first | rfl | cases h) (kind_struct Tryz.underlying13 (.cons ⟨rfl, ⟨_, Tryz.type9, rfl⟩, by decide, Tryz.isAgg9⟩ (.cons ⟨rfl, ⟨_, Tryz.type12, rfl⟩, by decide, Tryz.isAgg12⟩ .nil))) (by decide) rfl (by decide) (.inl rfl)
theorem TryzI14_ok : TIok Tryz.prog 14 TryzI14 := tiok Tryz.type14 rfl rfl rfl rfl (by intro h; first | rfl | cases h) (kind_struct Tryz.underlying14 (.cons ⟨rfl, ⟨_, Tryz.type9, rfl⟩, by decide, Tryz.isAgg9⟩ (.cons ⟨rfl, ⟨_, Tryz.type12, rfl⟩, by decide, Tryz.isAgg12⟩ .nil))) (by decide) rfl (by decide) (.inl rfl)
theorem TryzI15_ok : TIok Tryz.prog 15 TryzI15 := tiok Tryz.type15 rfl rfl rfl rfl (by intro h; first | rfl | cases h) Tryz.underlying15 (by decide) rfl (by decide) (.inl rfl)
theorem TryzI16_ok : TIok Tryz.prog 16 TryzI16 := tiok Tryz.type16 rfl rfl rfl rfl (by intro h; first | rfl | cases h) Tryz.underlying16 (by decide) rfl (by decide) (.inl rfl)
theorem TryzI17_ok : TIok Tryz.prog 17 TryzI17 := tiok Tryz.type17 rfl rfl rfl rfl (by intro h; first | rfl | cases h) Tryz.underlying17 (by decide) rfl (by decide) (.inl rfl)
theorem TryzI18_ok : TIok Tryz.prog 18 TryzI18 := tiok Tryz.type18 rfl rfl rfl rfl (by intro h; first | rfl | cases h) (kind_struct Tryz.underlying18 (.cons ⟨rfl, ⟨_, Tryz.type17, rfl⟩, by decide, Tryz.isAgg17⟩ .nil)) (by decide) rfl (by decide) (.inl rfl)
theorem TryzI19_ok : TIok Tryz.prog 19 TryzI19 := tiok Tryz.type19 rfl rfl rfl rfl (by intro h; first | rfl | cases h) (kind_struct Tryz.underlying19 (.cons ⟨rfl, ⟨_, Tryz.type17, rfl⟩, by decide, Tryz.isAgg17⟩ .nil)) (by decide) rfl (by decide) (.inl rfl)
theorem TryzI20_ok : TIok Tryz.prog 20 TryzI20 := tiok Tryz.type20 rfl rfl rfl rfl (by intro h; first | rfl | cases h) ⟨_, Tryz.underlying20, (by intro x h; cases h), (by intro x y h; cases h)⟩ (by decide) rfl (by decide) (.inl rfl)
theorem TryzI21_ok : TIok Tryz.prog 21 TryzI21 := tiok Tryz.type21 rfl rfl rfl rfl (by intro h; first | rfl | cases h) Tryz.underlying21 (by decide) rfl (by decide) (.inl rfl)
theorem TryzI22_ok : TIok Tryz.prog 22 TryzI22 := tiok Tryz.type22 rfl rfl rfl rfl (by intro h; first | rfl | cases h) Tryz.underlying22 (by decide) rfl (by decide) (.inl rfl)
theorem TryzI23_ok : TIok Tryz.prog 23 TryzI23 := tiok Tryz.type23 rfl rfl rfl rfl (by intro h; first | rfl | cases h) Tryz.underlying23 (by decide) rfl (by decide) (.inl rfl)
theorem TryzI24_ok : TIok Tryz.prog 24 TryzI24 := tiok Tryz.type24 rfl rfl rfl rfl (by intro h; first | rfl | cases h) Tryz.underlying24 (by decide) rfl (by decide) (.inl rfl)
theorem TryzI25_ok : TIok Tryz.prog 25 TryzI25 := tiok Tryz.type25 rfl rfl rfl rfl (by intro h; first | rfl | cases h) (kind_struct Tryz.underlying25 (.cons ⟨rfl, ⟨_, Tryz.type5, rfl⟩, by decide, Tryz.isAgg5⟩ (.cons ⟨rfl, ⟨_, Tryz.type5, rfl⟩, by decide, Tryz.isAgg5⟩ (.cons ⟨rfl, ⟨_, Tryz.type24, rfl⟩, by decide, Tryz.isAgg24⟩ .nil)))) (by decide) rfl (by decide) (.inl rfl)
theorem TryzI26_ok : TIok Tryz.prog 26 TryzI26 := tiok Tryz.type26 rfl rfl rfl rfl (by intro h; first | rfl | cases h) (kind_struct Tryz.underlying26 (.cons ⟨rfl, ⟨_, Tryz.type5, rfl⟩, by decide, Tryz.isAgg5⟩ (.cons ⟨rfl, ⟨_, Tryz.type5, rfl⟩, by decide, Tryz.isAgg5⟩ (.cons ⟨rfl, ⟨_, Tryz.type24, rfl⟩, by decide, Tryz.isAgg24⟩ .nil)))) (by decide) rfl (by decide) (.inl rfl)
theorem TryzI27_ok : TIok Tryz.prog 27 TryzI27 := tiok Tryz.type27 rfl rfl rfl rfl (by intro h; first | rfl | cases h) (kind_struct Tryz.underlying27 (.cons ⟨rfl, ⟨_, Tryz.type22, rfl⟩, by decide, Tryz.isAgg22⟩ (.cons ⟨rfl, ⟨_, Tryz.type26, rfl⟩, by decide, Tryz.isAgg26⟩ (.cons ⟨rfl, ⟨_, Tryz.type26, rfl⟩, by decide, Tryz.isAgg26⟩ (.cons ⟨rfl, ⟨_, Tryz.type22, rfl⟩, by decide, Tryz.isAgg22⟩ (.cons ⟨rfl, ⟨_, Tryz.type22, rfl⟩, by decide, Tryz.isAgg22⟩ .nil)))))) (by decide) rfl (by decide) (.inl rfl)
theorem TryzI28_ok : TIok Tryz.prog 28 TryzI28 := tiok Tryz.type28 rfl rfl rfl rfl (by intro h; first | rfl | cases h) (kind_struct Tryz.underlying28 (.cons ⟨rfl, ⟨_, Tryz.type22, rfl⟩, by decide, Tryz.isAgg22⟩ (.cons ⟨rfl, ⟨_, Tryz.type26, rfl⟩, by decide, Tryz.isAgg26⟩ (.cons ⟨rfl, ⟨_, Tryz.type26, rfl⟩, by decide, Tryz.isAgg26⟩ (.cons ⟨rfl, ⟨_, Tryz.type22, rfl⟩, by decide, Tryz.isAgg22⟩ (.cons ⟨rfl, ⟨_, Tryz.type22, rfl⟩, by decide, Tryz.isAgg22⟩ .nil)))))) (by decide) rfl (by decide) (.inl rfl)
theorem TryzI29_ok : TIok Tryz.prog 29 TryzI29 := tiok Tryz.type29 rfl rfl rfl rfl (by intro h; first | rfl | cases h) ⟨_, Tryz.underlying29, (by intro x h; cases h), (by intro x y h; cases h)⟩ (by decide) rfl (by decide) (.inl rfl)
theorem TryzI30_ok : TIok Tryz.prog 30 TryzI30 := tiok Tryz.type30 rfl rfl rfl rfl (by intro h; first | rfl | cases h) ⟨_, Tryz.underlying30, (by intro x h; cases h), (by intro x y h; cases h)⟩ (by decide) rfl (by decide) (.inl rfl)
theorem TryzI31_ok : TIok Tryz.prog 31 TryzI31 := tiok Tryz.type31 rfl rfl rfl rfl (by intro h; first | rfl | cases h) Tryz.underlying31 (by decide) rfl (by decide) (.inl rfl)
theorem TryzI32_ok : TIok Tryz.prog 32 TryzI32 := tiok Tryz.type32 rfl rfl rfl rfl (by intro h; first | rfl | cases h) (kind_struct Tryz.underlying32 (.cons ⟨rfl, ⟨_, Tryz.type31, rfl⟩, by decide, Tryz.isAgg31⟩ (.cons ⟨rfl, ⟨_, Tryz.type31, rfl⟩, by decide, Tryz.isAgg31⟩ (.cons ⟨rfl, ⟨_, Tryz.type3, rfl⟩, by decide, Tryz.isAgg3⟩ .nil)))) (by decide) rfl (by decide) (.inl rfl)
theorem TryzI33_ok : TIok Tryz.prog 33 TryzI33 := tiok Tryz.type33 rfl rfl rfl rfl (by intro h; first | rfl | cases h) (kind_struct Tryz.underlying33 (.cons ⟨rfl, ⟨_, Tryz.type31, rfl⟩, by decide, Tryz.isAgg31⟩ (.cons ⟨rfl, ⟨_, Tryz.type31, rfl⟩, by decide, Tryz.isAgg31⟩ (.cons ⟨rfl, ⟨_, Tryz.type3, rfl⟩, by decide, Tryz.isAgg3⟩ .nil)))) (by decide) rfl (by decide) (.inl rfl)
theorem TryzI34_ok : TIok Tryz.prog 34 TryzI34 := tiok Tryz.type34 rfl rfl rfl rfl (by intro h; first | rfl | cases h) Tryz.underlying34 (by decide) rfl (by decide) (.inl rfl)
theorem TryzI36_ok : TIok Tryz.prog 36 TryzI36 := tiok Tryz.type36 rfl rfl rfl rfl (by intro h; first | rfl | cases h) ⟨_, Tryz.underlying36, (by intro x h; cases h), (by intro x y h; cases h)⟩ (by decide) rfl (by decide) (.inl rfl)
theorem TryzI37_ok : TIok Tryz.prog 37 TryzI37 := tiok Tryz.type37 rfl rfl rfl rfl (by intro h; first | rfl | cases h) Tryz.underlying37 (by decide) rfl (by decide) (.inl rfl)
theorem TryzI38_ok : TIok Tryz.prog 38 TryzI38 := tiok Tryz.type38 rfl rfl rfl rfl (by intro h; first | rfl | cases h) (kind_struct Tryz.underlying38 (.cons ⟨rfl, ⟨_, Tryz.type31, rfl⟩, by decide, Tryz.isAgg31⟩ (.cons ⟨rfl, ⟨_, Tryz.type3, rfl⟩, by decide, Tryz.isAgg3⟩ (.cons ⟨rfl, ⟨_, Tryz.type31, rfl⟩, by decide, Tryz.isAgg31⟩ (.cons ⟨rfl, ⟨_, Tryz.type37, rfl⟩, by decide, Tryz.isAgg37⟩ .nil))))) (by decide) rfl (by decide) (.inl rfl)
theorem TryzI39_ok : TIok Tryz.prog 39 TryzI39 := tiok Tryz.type39 rfl rfl rfl rfl (by intro h; first | rfl | cases h) (kind_struct Tryz.underlying39 (.cons ⟨rfl, ⟨_, Tryz.type31, rfl⟩, by decide, Tryz.isAgg31⟩ (.cons ⟨rfl, ⟨_, Tryz.type3, rfl⟩, by decide, Tryz.isAgg3⟩ (.cons ⟨rfl, ⟨_, Tryz.type31, rfl⟩, by decide, Tryz.isAgg31⟩ (.cons ⟨rfl, ⟨_, Tryz.type37, rfl⟩, by decide, Tryz.isAgg37⟩ .nil))))) (by decide) rfl (by decide) (.inl rfl)
theorem TryzI40_ok : TIok Tryz.prog 40 TryzI40 := tiok Tryz.type40 rfl rfl rfl rfl (by intro h; first | rfl | cases h) (kind_struct Tryz.underlying40 (.cons ⟨rfl, ⟨_, Tryz.type39, rfl⟩, by decide, Tryz.isAgg39⟩ (.cons ⟨rfl, ⟨_, Tryz.type39, rfl⟩, by decide, Tryz.isAgg39⟩ (.cons ⟨rfl, ⟨_, Tryz.type31, rfl⟩, by decide, Tryz.isAgg31⟩ (.cons ⟨rfl, ⟨_, Tryz.type31, rfl⟩, by decide, Tryz.isAgg31⟩ .nil))))) (by decide) rfl (by decide) (.inl rfl)
theorem TryzI41_ok : TIok Tryz.prog 41 TryzI41 := tiok Tryz.type41 rfl rfl rfl rfl (by intro h; first | rfl | cases h) (kind_struct Tryz.underlying41 (.cons ⟨rfl, ⟨_, Tryz.type39, rfl⟩, by decide, Tryz.isAgg39⟩ (.cons ⟨rfl, ⟨_, Tryz.type39, rfl⟩, by decide, Tryz.isAgg39⟩ (.cons ⟨rfl, ⟨_, Tryz.type31, rfl⟩, by decide, Tryz.isAgg31⟩ (.cons ⟨rfl, ⟨_, Tryz.type31, rfl⟩, by decide, Tryz.isAgg31⟩ .nil))))) (by decide) rfl (by decide) (.inl rfl)
theorem TryzI42_ok : TIok Tryz.prog 42 TryzI42 := tiok Tryz.type42 rfl rfl rfl rfl (by intro h; first | rfl | cases h) ⟨_, Tryz.underlying42, (by intro x h; cases h), (by intro x y h; cases h)⟩ (by decide) rfl (by decide) (.inl rfl)
theorem TryzI43_ok : TIok Tryz.prog 43 TryzI43 := tiok Tryz.type43 rfl rfl rfl rfl (by intro h; first | rfl | cases h) ⟨_, Tryz.underlying43, (by intro x h; cases h), (by intro x y h; cases h)⟩ (by decide) rfl (by decide) (.inl rfl)
theorem TryzI44_ok : TIok Tryz.prog 44 TryzI44 := tiok Tryz.type44 rfl rfl rfl rfl (by intro h; first | rfl | cases h) Tryz.underlying44 (by decide) rfl (by decide) (.inl rfl)
theorem TryzI45_ok : TIok Tryz.prog 45 TryzI45 := tiok Tryz.type45 rfl rfl rfl rfl (by intro h; first | rfl | cases h) Tryz.underlying45 (by decide) rfl (by decide) (.inl rfl)
theorem TryzI47_ok : TIok Tryz.prog 47 TryzI47 := tiok Tryz.type47 rfl rfl rfl rfl (by intro h; first | rfl | cases h) ⟨_, Tryz.underlying47, (by intro x h; cases h), (by intro x y h; cases h)⟩ (by decide) rfl (by decide) (.inl rfl)
theorem TryzI48_ok : TIok Tryz.prog 48 TryzI48 := tiok Tryz.type48 rfl rfl rfl rfl (by intro h; first | rfl | cases h) Tryz.underlying48 (by decide) rfl (by decide) (.inr (.inr ⟨3, .i64, rfl, Tryz.underlying48, Tryz.underlying3, ⟨_, Tryz.type3, rfl⟩, Tryz.eqGuardType48⟩))
theorem TryzI49_ok : TIok Tryz.prog 49 TryzI49 := tiok Tryz.type49 rfl rfl rfl rfl (by intro h; first | rfl | cases h) ⟨_, Tryz.underlying49, (by intro x h; cases h), (by intro x y h; cases h)⟩ (by decide) rfl (by decide) (.inl rfl)
theorem TryzI50_ok : TIok Tryz.prog 50 TryzI50 := tiok Tryz.type50 rfl rfl rfl rfl (by intro h; first | rfl | cases h) ⟨_, Tryz.underlying50, (by intro x h; cases h), (by intro x y h; cases h)⟩ (by decide) rfl (by decide) (.inl rfl)
theorem TryzI51_ok : TIok Tryz.prog 51 TryzI51 := tiok Tryz.type51 rfl rfl rfl rfl (by intro h; first | rfl | cases h) Tryz.underlying51 (by decide) rfl (by decide) (.inl rfl)
theorem TryzI52_ok : TIok Tryz.prog 52 TryzI52 := tiok Tryz.type52 rfl rfl rfl rfl (by intro h; first | rfl | cases h) (kind_struct Tryz.underlying52 (.cons ⟨rfl, ⟨_, Tryz.type39, rfl⟩, by decide, Tryz.isAgg39⟩ (.cons ⟨rfl, ⟨_, Tryz.type51, rfl⟩, by decide, Tryz.isAgg51⟩ .nil))) (by decide) rfl (by decide) (.inl rfl)
theorem TryzI53_ok : TIok Tryz.prog 53 TryzI53 := tiok Tryz.type53 rfl rfl rfl rfl (by intro h; first | rfl | cases h) (kind_struct Tryz.underlying53 (.cons ⟨rfl, ⟨_, Tryz.type39, rfl⟩, by decide, Tryz.isAgg39⟩ (.cons ⟨rfl, ⟨_, Tryz.type51, rfl⟩, by decide, Tryz.isAgg51⟩ .nil))) (by decide) rfl (by decide) (.inl rfl)
theorem TryzI55_ok : TIok Tryz.prog 55 TryzI55 := tiok Tryz.type55 rfl rfl rfl rfl (by intro h; first | rfl | cases h) ⟨_, Tryz.underlying55, (by intro x h; cases h), (by intro x y h; cases h)⟩ (by decide) rfl (by decide) (.inl rfl)
theorem TryzI57_ok : TIok Tryz.prog 57 TryzI57 := tiok Tryz.type57 rfl rfl rfl rfl (by intro h; first | rfl | cases h) ⟨_, Tryz.underlying57, (by intro x h; cases h), (by intro x y h; cases h)⟩ (by decide) rfl (by decide) (.inl rfl)
theorem TryzI58_ok : TIok Tryz.prog 58 TryzI58 := tiok Tryz.type58 rfl rfl rfl rfl (by intro h; first | rfl | cases h) ⟨_, Tryz.underlying58, (by intro x h; cases h), (by intro x y h; cases h)⟩ (by decide) rfl (by decide) (.inl rfl)
theorem TryzI59_ok : TIok Tryz.prog 59 TryzI59 := tiok Tryz.type59 rfl rfl rfl rfl (by intro h; first | rfl | cases h) ⟨_, Tryz.underlying59, (by intro x h; cases h), (by intro x y h; cases h)⟩ (by decide) rfl (by decide) (.inl rfl)
theorem TryzI60_ok : TIok Tryz.prog 60 TryzI60 := tiok Tryz.type60 rfl rfl rfl rfl (by intro h; first | rfl | cases h) ⟨_, Tryz.underlying60, (by intro x h; cases h), (by intro x y h; cases h)⟩ (by decide) rfl (by decide) (.inl rfl)
theorem TryzI61_ok : TIok Tryz.prog 61 TryzI61 := tiok Tryz.type61 rfl rfl rfl rfl (by intro h; first | rfl | cases h) ⟨_, Tryz.underlying61, (by intro x h; cases h), (by intro x y h; cases h)⟩ (by decide) rfl (by decide) (.inl rfl)
theorem TryzI62_ok : TIok Tryz.prog 62 TryzI62 := tiok Tryz.type62 rfl rfl rfl rfl (by intro h; first | rfl | cases h) ⟨_, Tryz.underlying62, (by intro x h; cases h), (by intro x y h; cases h)⟩ (by decide) rfl (by decide) (.inl rfl)
theorem TryzI63_ok : TIok Tryz.prog 63 TryzI63 := tiok Tryz.type63 rfl rfl rfl rfl (by intro h; first | rfl | cases h) ⟨_, Tryz.underlying63, (by intro x h; cases h), (by intro x y h; cases h)⟩ (by decide) rfl (by decide) (.inl rfl)
theorem TryzI64_ok : TIok Tryz.prog 64 TryzI64 := tiok Tryz.type64 rfl rfl rfl rfl (by intro h; first | rfl | cases h) ⟨_, Tryz.underlying64, (by intro x h; cases h), (by intro x y h; cases h)⟩ (by decide) rfl (by decide) (.inl rfl)
theorem TryzI66_ok : TIok Tryz.prog 66 TryzI66 := tiok Tryz.type66 rfl rfl rfl rfl (by intro h; first | rfl | cases h) ⟨_, Tryz.underlying66, (by intro x h; cases h), (by intro x y h; cases h)⟩ (by decide) rfl (by decide) (.inl rfl)
theorem TryzI67_ok : TIok Tryz.prog 67 TryzI67 := tiok Tryz.type67 rfl rfl rfl rfl (by intro h; first | rfl | cases h) ⟨_, Tryz.underlying67, (by intro x h; cases h), (by intro x y h; cases h)⟩ (by decide) rfl (by decide) (.inl rfl)
theorem TryzI68_ok : TIok Tryz.prog 68 TryzI68 := tiok Tryz.type68 rfl rfl rfl rfl (by intro h; first | rfl | cases h) Tryz.underlying68 (by decide) rfl (by decide) (.inl rfl)
theorem TryzI70_ok : TIok Tryz.prog 70 TryzI70 := tiok Tryz.type70 rfl rfl rfl rfl (by intro h; first | rfl | cases h) Tryz.underlying70 (by decide) rfl (by decide) (.inl rfl)
theorem TryzI71_ok : TIok Tryz.prog 71 TryzI71 := tiok Tryz.type71 rfl rfl rfl rfl (by intro h; first | rfl | cases h) Tryz.underlying71 (by decide) rfl (by decide) (.inl rfl)
theorem TryzI72_ok : TIok Tryz.prog 72 TryzI72 := tiok Tryz.type72 rfl rfl rfl rfl (by intro h; first | rfl | cases h) ⟨_, Tryz.underlying72, (by intro x h; cases h), (by intro x y h; cases h)⟩ (by decide) rfl (by decide) (.inl rfl)
theorem TryzI73_ok : TIok Tryz.prog 73 TryzI73 := tiok Tryz.type73 rfl rfl rfl rfl (by intro h; first | rfl | cases h) ⟨_, Tryz.underlying73, (by intro x h; cases h), (by intro x y h; cases h)⟩ (by decide) rfl (by decide) (.inl rfl)
theorem TryzI74_ok : TIok Tryz.prog 74 TryzI74 := tiok Tryz.type74 rfl rfl rfl rfl (by intro h; first | rfl | cases h) Tryz.underlying74 (by decide) rfl (by decide) (.inl rfl)
theorem TryzI75_ok : TIok Tryz.prog 75 TryzI75 := tiok Tryz.type75 rfl rfl rfl rfl (by intro h; first | rfl | cases h) Tryz.underlying75 (by decide) rfl (by decide) (.inl rfl)
theorem TryzI76_ok : TIok Tryz.prog 76 TryzI76 := tiok Tryz.type76 rfl rfl rfl rfl (by intro h; first | rfl | cases h) (kind_struct Tryz.underlying76 (.cons ⟨rfl, ⟨_, Tryz.type31, rfl⟩, by decide, Tryz.isAgg31⟩ (.cons ⟨rfl, ⟨_, Tryz.type3, rfl⟩, by decide, Tryz.isAgg3⟩ (.cons ⟨rfl, ⟨_, Tryz.type3, rfl⟩, by decide, Tryz.isAgg3⟩ (.cons ⟨rfl, ⟨_, Tryz.type31, rfl⟩, by decide, Tryz.isAgg31⟩ (.cons ⟨rfl, ⟨_, Tryz.type74, rfl⟩, by decide, Tryz.isAgg74⟩ (.cons ⟨rfl, ⟨_, Tryz.type75, rfl⟩, by decide, Tryz.isAgg75⟩ .nil))))))) (by decide) rfl (by decide) (.inl rfl)
theorem TryzI77_ok : TIok Tryz.prog 77 TryzI77 := tiok Tryz.type77 rfl rfl rfl rfl (by intro h; first | rfl | cases h) (kind_struct Tryz.underlying77 (.cons ⟨rfl, ⟨_, Tryz.type31, rfl⟩, by decide, Tryz.isAgg31⟩ (.cons ⟨rfl, ⟨_, Tryz.type3, rfl⟩, by decide, Tryz.isAgg3⟩ (.cons ⟨rfl, ⟨_, Tryz.type3, rfl⟩, by decide, Tryz.isAgg3⟩ (.cons ⟨rfl, ⟨_, Tryz.type31, rfl⟩, by decide, Tryz.isAgg31⟩ (.cons ⟨rfl, ⟨_, Tryz.type74, rfl⟩, by decide, Tryz.isAgg74⟩ (.cons ⟨rfl, ⟨_, Tryz.type75, rfl⟩, by decide, Tryz.isAgg75⟩ .nil))))))) (by decide) rfl (by decide) (.inl rfl)
theorem TryzI79_ok : TIok Tryz.prog 79 TryzI79 := tiok Tryz.type79 rfl rfl rfl rfl (by intro h; first | rfl | cases h) ⟨_, Tryz.underlying79, (by intro x h; cases h), (by intro x y h; cases h)⟩ (by decide) rfl (by decide) (.inl rfl)
theorem TryzI80_ok : TIok Tryz.prog 80 TryzI80 := tiok Tryz.type80 rfl rfl rfl rfl (by intro h; first | rfl | cases h) ⟨_, Tryz.underlying80, (by intro x h; cases h), (by intro x y h; cases h)⟩ (by decide) rfl (by decide) (.inl rfl)
theorem TryzI81_ok : TIok Tryz.prog 81 TryzI81 := tiok Tryz.type81 rfl rfl rfl rfl (by intro h; first | rfl | cases h) Tryz.underlying81 (by decide) rfl (by decide) (.inl rfl)
theorem TryzI83_ok : TIok Tryz.prog 83 TryzI83 := tiok Tryz.type83 rfl rfl rfl rfl (by intro h; first | rfl | cases h) ⟨_, Tryz.underlying83, (by intro x h; cases h), (by intro x y h; cases h)⟩ (by decide) rfl (by decide) (.inl rfl)
theorem TryzI84_ok : TIok Tryz.prog 84 TryzI84 := tiok Tryz.type84 rfl rfl rfl rfl (by intro h; first | rfl | cases h) ⟨_, Tryz.underlying84, (by intro x h; cases h), (by intro x y h; cases h)⟩ (by decide) rfl (by decide) (.inl rfl)
theorem TryzI85_ok : TIok Tryz.prog 85 TryzI85 := tiok Tryz.type85 rfl rfl rfl rfl (by intro h; first | rfl | cases h) ⟨_, Tryz.underlying85, (by intro x h; cases h), (by intro x y h; cases h)⟩ (by decide) rfl (by decide) (.inl rfl)
theorem TryzI86_ok : TIok Tryz.prog 86 TryzI86 := tiok Tryz.type86 rfl rfl rfl rfl (by intro h; first | rfl | cases h) (kind_struct Tryz.underlying86 (.cons ⟨rfl, ⟨_, Tryz.type31, rfl⟩, by decide, Tryz.isAgg31⟩ (.cons ⟨rfl, ⟨_, Tryz.type31, rfl⟩, by decide, Tryz.isAgg31⟩ .nil))) (by decide) rfl (by decide) (.inl rfl)
theorem TryzI87_ok : TIok Tryz.prog 87 TryzI87 := tiok Tryz.type87 rfl rfl rfl rfl (by intro h; first | rfl | cases h) (kind_struct Tryz.underlying87 (.cons ⟨rfl, ⟨_, Tryz.type31, rfl⟩, by decide, Tryz.isAgg31⟩ (.cons ⟨rfl, ⟨_, Tryz.type31, rfl⟩, by decide, Tryz.isAgg31⟩ .nil))) (by decide) rfl (by decide) (.inl rfl)
theorem TryzI88_ok : TIok Tryz.prog 88 TryzI88 := tiok Tryz.type88 rfl rfl rfl rfl (by intro h; first | rfl | cases h) ⟨_, Tryz.underlying88, (by intro x h; cases h), (by intro x y h; cases h)⟩ (by decide) rfl (by decide) (.inl rfl)
theorem TryzI90_ok : TIok Tryz.prog 90 TryzI90 := tiok Tryz.type90 rfl rfl rfl rfl (by intro h; first | rfl | cases h) ⟨_, Tryz.underlying90, (by intro x h; cases h), (by intro x y h; cases h)⟩ (by decide) rfl (by decide) (.inl rfl)
theorem TryzI91_ok : TIok Tryz.prog 91 TryzI91 := tiok Tryz.type91 rfl rfl rfl rfl (by intro h; first | rfl | cases h) ⟨_, Tryz.underlying91, (by intro x h; cases h), (by intro x y h; cases h)⟩ (by decide) rfl (by decide) (.inl rfl)
theorem TryzI92_ok : TIok Tryz.prog 92 TryzI92 := tiok Tryz.type92 rfl rfl rfl rfl (by intro h; first | rfl | cases h) ⟨_, Tryz.underlying92, (by intro x h; cases h), (by intro x y h; cases h)⟩ (by decide) rfl (by decide) (.inl rfl)
theorem TryzI94_ok : TIok Tryz.prog 94 TryzI94 := tiok Tryz.type94 rfl rfl rfl rfl (by intro h; first | rfl | cases h) ⟨_, Tryz.underlying94, (by intro x h; cases h), (by intro x y h; cases h)⟩ (by decide) rfl (by decide) (.inl rfl)
theorem TryzI95_ok : TIok Tryz.prog 95 TryzI95 := tiok Tryz.type95 rfl rfl rfl rfl (by intro h; first | rfl | cases h) Tryz.underlying95 (by decide) rfl (by decide) (.inl rfl)
theorem TryzI97_ok : TIok Tryz.prog 97 TryzI97 := tiok Tryz.type97 rfl rfl rfl rfl (by intro h; first | rfl | cases h) ⟨_, Tryz.underlying97, (by intro x h; cases h), (by intro x y h; cases h)⟩ (by decide) rfl (by decide) (.inl rfl)
theorem TryzI98_ok : TIok Tryz.prog 98 TryzI98 := tiok Tryz.type98 rfl rfl rfl rfl (by intro h; first | rfl | cases h) ⟨_, Tryz.underlying98, (by intro x h; cases h), (by intro x y h; cases h)⟩ (by decide) rfl (by decide) (.inl rfl)
theorem TryzI99_ok : TIok Tryz.prog 99 TryzI99 := tiok Tryz.type99 rfl rfl rfl rfl (by intro h; first | rfl | cases h) ⟨_, Tryz.underlying99, (by intro x h; cases h), (by intro x y h; cases h)⟩ (by decide) rfl (by decide) (.inl rfl)
theorem TryzI100_ok : TIok Tryz.prog 100 TryzI100 := tiok Tryz.type100 rfl rfl rfl rfl (by intro h; first | rfl | cases h) Tryz.underlying100 (by decide) rfl (by decide) (.inl rfl)
theorem TryzI101_ok : TIok Tryz.prog 101 TryzI101 := tiok Tryz.type101 rfl rfl rfl rfl (by intro h; first | rfl | cases h) (kind_struct Tryz.underlying101 (.cons ⟨rfl, ⟨_, Tryz.type31, rfl⟩, by decide, Tryz.isAgg31⟩ (.cons ⟨rfl, ⟨_, Tryz.type100, rfl⟩, by decide, Tryz.isAgg100⟩ .nil))) (by decide) rfl (by decide) (.inl rfl)
theorem TryzI102_ok : TIok Tryz.prog 102 TryzI102 := tiok Tryz.type102 rfl rfl rfl rfl (by intro h; first | rfl | cases h) (kind_struct Tryz.underlying102 (.cons ⟨rfl, ⟨_, Tryz.type31, rfl⟩, by decide, Tryz.isAgg31⟩ (.cons ⟨rfl, ⟨_, Tryz.type100, rfl⟩, by decide, Tryz.isAgg100⟩ .nil))) (by decide) rfl (by decide) (.inl rfl)
theorem TryzI103_ok : TIok Tryz.prog 103 TryzI103 := tiok Tryz.type103 rfl rfl rfl rfl (by intro h; first | rfl | cases h) ⟨_, Tryz.underlying103, (by intro x h; cases h), (by intro x y h; cases h)⟩ (by decide) rfl (by decide) (.inl rfl)
theorem TryzI104_ok : TIok Tryz.prog 104 TryzI104 := tiok Tryz.type104 rfl rfl rfl rfl (by intro h; first | rfl | cases h) ⟨_, Tryz.underlying104, (by intro x h; cases h), (by intro x y h; cases h)⟩ (by decide) rfl (by decide) (.inl rfl)
theorem TryzI105_ok : TIok Tryz.prog 105 TryzI105 := tiok Tryz.type105 rfl rfl rfl rfl (by intro h; first | rfl | cases h) ⟨_, Tryz.underlying105, (by intro x h; cases h), (by intro x y h; cases h)⟩ (by decide) rfl (by decide) (.inl rfl)
theorem TryzI106_ok : TIok Tryz.prog 106 TryzI106 := tiok Tryz.type106 rfl rfl rfl rfl (by intro h; first | rfl | cases h) ⟨_, Tryz.underlying106, (by intro x h; cases h), (by intro x y h; cases h)⟩ (by decide) rfl (by decide) (.inl rfl)
theorem TryzI107_ok : TIok Tryz.prog 107 TryzI107 := tiok Tryz.type107 rfl rfl rfl rfl (by intro h; first | rfl | cases h) ⟨_, Tryz.underlying107, (by intro x h; cases h), (by intro x y h; cases h)⟩ (by decide) rfl (by decide) (.inl rfl)
theorem TryzI108_ok : TIok Tryz.prog 108 TryzI108 := tiok Tryz.type108 rfl rfl rfl rfl (by intro h; first | rfl | cases h) ⟨_, Tryz.underlying108, (by intro x h; cases h), (by intro x y h; cases h)⟩ (by decide) rfl (by decide) (.inl rfl)
theorem TryzI109_ok : TIok Tryz.prog 109 TryzI109 := tiok Tryz.type109 rfl rfl rfl rfl (by intro h; first | rfl | cases h) Tryz.underlying109 (by decide) rfl (by decide) (.inl rfl)
theorem TryzI111_ok : TIok Tryz.prog 111 TryzI111 := tiok Tryz.type111 rfl rfl rfl rfl (by intro h; first | rfl | cases h) ⟨_, Tryz.underlying111, (by intro x h; cases h), (by intro x y h; cases h)⟩ (by decide) rfl (by decide) (.inl rfl)
theorem TryzI112_ok : TIok Tryz.prog 112 TryzI112 := tiok Tryz.type112 rfl rfl rfl rfl (by intro h; first | rfl | cases h) ⟨_, Tryz.underlying112, (by intro x h; cases h), (by intro x y h; cases h)⟩ (by decide) rfl (by decide) (.inl rfl)
theorem TryzI113_ok : TIok Tryz.prog 113 TryzI113 := tiok Tryz.type113 rfl rfl rfl rfl (by intro h; first | rfl | cases h) ⟨_, Tryz.underlying113, (by intro x h; cases h), (by intro x y h; cases h)⟩ (by decide) rfl (by decide) (.inl rfl)
theorem TryzI114_ok : TIok Tryz.prog 114 TryzI114 := tiok Tryz.type114 rfl rfl rfl rfl (by intro h; first | rfl | cases h) ⟨_, Tryz.underlying114, (by intro x h; cases h), (by intro x y h; cases h)⟩ (by decide) rfl (by decide) (.inl rfl)
theorem TryzI115_ok : TIok Tryz.prog 115 TryzI115 := tiok Tryz.type115 rfl rfl rfl rfl (by intro h; first | rfl | cases h) ⟨_, Tryz.underlying115, (by intro x h; cases h), (by intro x y h; cases h)⟩ (by decide) rfl (by decide) (.inl rfl)
theorem TryzI116_ok : TIok Tryz.prog 116 TryzI116 := tiok Tryz.type116 rfl rfl rfl rfl (by intro h; first | rfl | cases h) (kind_struct Tryz.underlying116 (.cons ⟨rfl, ⟨_, Tryz.type3, rfl⟩, by decide, Tryz.isAgg3⟩ (.cons ⟨rfl, ⟨_, Tryz.type3, rfl⟩, by decide, Tryz.isAgg3⟩ (.cons ⟨rfl, ⟨_, Tryz.type3, rfl⟩, by decide, Tryz.isAgg3⟩ .nil)))) (by decide) rfl (by decide) (.inl rfl)
theorem TryzI117_ok : TIok Tryz.prog 117 TryzI117 := tiok Tryz.type117 rfl rfl rfl rfl (by intro h; first | rfl | cases h) (kind_struct Tryz.underlying117 (.cons ⟨rfl, ⟨_, Tryz.type3, rfl⟩, by decide, Tryz.isAgg3⟩ (.cons ⟨rfl, ⟨_, Tryz.type3, rfl⟩, by decide, Tryz.isAgg3⟩ (.cons ⟨rfl, ⟨_, Tryz.type3, rfl⟩, by decide, Tryz.isAgg3⟩ .nil)))) (by decide) rfl (by decide) (.inr (.inl ⟨Tryz.underlying117, by kernel_rfl, Tryz.eqGuardType117, ⟨by decide, rfl, Tryz.underlying3, ⟨by decide, rfl, Tryz.underlying3, ⟨by decide, rfl, Tryz.underlying3, trivial⟩⟩⟩⟩))
theorem TryzI118_ok : TIok Tryz.prog 118 TryzI118 := tiok Tryz.type118 rfl rfl rfl rfl (by intro h; first | rfl | cases h) (kind_struct Tryz.underlying118 (.cons ⟨rfl, ⟨_, Tryz.type41, rfl⟩, by decide, Tryz.isAgg41⟩ (.cons ⟨rfl, ⟨_, Tryz.type39, rfl⟩, by decide, Tryz.isAgg39⟩ (.cons ⟨rfl, ⟨_, Tryz.type45, rfl⟩, by decide, Tryz.isAgg45⟩ (.cons ⟨rfl, ⟨_, Tryz.type39, rfl⟩, by decide, Tryz.isAgg39⟩ (.cons ⟨rfl, ⟨_, Tryz.type51, rfl⟩, by decide, Tryz.isAgg51⟩ .nil)))))) (by decide) rfl (by decide) (.inl rfl)
theorem TryzI119_ok : TIok Tryz.prog 119 TryzI119 := tiok Tryz.type119 rfl rfl rfl rfl (by intro h; first | rfl | cases h) (kind_struct Tryz.underlying119 (.cons ⟨rfl, ⟨_, Tryz.type41, rfl⟩, by decide, Tryz.isAgg41⟩ (.cons ⟨rfl, ⟨_, Tryz.type39, rfl⟩, by decide, Tryz.isAgg39⟩ (.cons ⟨rfl, ⟨_, Tryz.type45, rfl⟩, by decide, Tryz.isAgg45⟩ (.cons ⟨rfl, ⟨_, Tryz.type39, rfl⟩, by decide, Tryz.isAgg39⟩ (.cons ⟨rfl, ⟨_, Tryz.type51, rfl⟩, by decide, Tryz.isAgg51⟩ .nil)))))) (by decide) rfl (by decide) (.inl rfl)
theorem TryzI121_ok : TIok Tryz.prog 121 TryzI121 := tiok Tryz.type121 rfl rfl rfl rfl (by intro h; first | rfl | cases h) ⟨_, Tryz.underlying121, (by intro x h; cases h), (by intro x y h; cases h)⟩ (by decide) rfl (by decide) (.inl rfl)
theorem TryzI123_ok : TIok Tryz.prog 123 TryzI123 := tiok Tryz.type123 rfl rfl rfl rfl (by intro h; first | rfl | cases h) ⟨_, Tryz.underlying123, (by intro x h; cases h), (by intro x y h; cases h)⟩ (by decide) rfl (by decide) (.inl rfl)
theorem TryzI124_ok : TIok Tryz.prog 124 TryzI124 := tiok Tryz.type124 rfl rfl rfl rfl (by intro h; first | rfl | cases h) ⟨_, Tryz.underlying124, (by intro x h; cases h), (by intro x y h; cases h)⟩ (by decide) rfl (by decide) (.inl rfl)
theorem TryzI126_ok : TIok Tryz.prog 126 TryzI126 := tiok Tryz.type126 rfl rfl rfl rfl (by intro h; first | rfl | cases h) ⟨_, Tryz.underlying126, (by intro x h; cases h), (by intro x y h; cases h)⟩ (by decide) rfl (by decide) (.inl rfl)
theorem TryzI127_ok : TIok Tryz.prog 127 TryzI127 := tiok Tryz.type127 rfl rfl rfl rfl (by intro h; first | rfl | cases h) Tryz.underlying127 (by decide) rfl (by decide) (.inl rfl)
theorem TryzI129_ok : TIok Tryz.prog 129 TryzI129 := tiok Tryz.type129 rfl rfl rfl rfl (by intro h; first | rfl | cases h) ⟨_, Tryz.underlying129, (by intro x h; cases h), (by intro x y h; cases h)⟩ (by decide) rfl (by decide) (.inl rfl)
theorem TryzI130_ok : TIok Tryz.prog 130 TryzI130 := tiok Tryz.type130 rfl rfl rfl rfl (by intro h; first | rfl | cases h) ⟨_, Tryz.underlying130, (by intro x h; cases h), (by intro x y h; cases h)⟩ (by decide) rfl (by decide) (.inl rfl)
theorem TryzI131_ok : TIok Tryz.prog 131 TryzI131 := tiok Tryz.type131 rfl rfl rfl rfl (by intro h; first | rfl | cases h) ⟨_, Tryz.underlying131, (by intro x h; cases h), (by intro x y h; cases h)⟩ (by decide) rfl (by decide) (.inl rfl)
theorem TryzI132_ok : TIok Tryz.prog 132 TryzI132 := tiok Tryz.type132 rfl rfl rfl rfl (by intro h; first | rfl | cases h) ⟨_, Tryz.underlying132, (by intro x h; cases h), (by intro x y h; cases h)⟩ (by decide) rfl (by decide) (.inl rfl)
theorem TryzI133_ok : TIok Tryz.prog 133 TryzI133 := tiok Tryz.type133 rfl rfl rfl rfl (by intro h; first | rfl | cases h) Tryz.underlying133 (by decide) rfl (by decide) (.inl rfl)
theorem TryzI134_ok : TIok Tryz.prog 134 TryzI134 := tiok Tryz.type134 rfl rfl rfl rfl (by intro h; first | rfl | cases h) Tryz.underlying134 (by decide) rfl (by decide) (.inl rfl)
theorem TryzI136_ok : TIok Tryz.prog 136 TryzI136 := tiok Tryz.type136 rfl rfl rfl rfl (by intro h; first | rfl | cases h) ⟨_, Tryz.underlying136, (by intro x h; cases h), (by intro x y h; cases h)⟩ (by decide) rfl (by decide) (.inl rfl)
theorem TryzI137_ok : TIok Tryz.prog 137 TryzI137 := tiok Tryz.type137 rfl rfl rfl rfl (by intro h; first | rfl | cases h) ⟨_, Tryz.underlying137, (by intro x h; cases h), (by intro x y h; cases h)⟩ (by decide) rfl (by decide) (.inl rfl)
theorem TryzI138_ok : TIok Tryz.prog 138 TryzI138 := tiok Tryz.type138 rfl rfl rfl rfl (by intro h; first | rfl | cases h) Tryz.underlying138 (by decide) rfl (by decide) (.inl rfl)
theorem TryzI139_ok : TIok Tryz.prog 139 TryzI139 := tiok Tryz.type139 rfl rfl rfl rfl (by intro h; first | rfl | cases h) (kind_struct Tryz.underlying139 (.cons ⟨rfl, ⟨_, Tryz.type3, rfl⟩, by decide, Tryz.isAgg3⟩ (.cons ⟨rfl, ⟨_, Tryz.type3, rfl⟩, by decide, Tryz.isAgg3⟩ (.cons ⟨rfl, ⟨_, Tryz.type3, rfl⟩, by decide, Tryz.isAgg3⟩ (.cons ⟨rfl, ⟨_, Tryz.type138, rfl⟩, by decide, Tryz.isAgg138⟩ .nil))))) (by decide) rfl (by decide) (.inl rfl)
theorem TryzI140_ok : TIok Tryz.prog 140 TryzI140 := tiok Tryz.type140 rfl rfl rfl rfl (by intro h; first | rfl | cases h) (kind_struct Tryz.underlying140 (.cons ⟨rfl, ⟨_, Tryz.type3, rfl⟩, by decide, Tryz.isAgg3⟩ (.cons ⟨rfl, ⟨_, Tryz.type3, rfl⟩, by decide, Tryz.isAgg3⟩ (.cons ⟨rfl, ⟨_, Tryz.type3, rfl⟩, by decide, Tryz.isAgg3⟩ (.cons ⟨rfl, ⟨_, Tryz.type138, rfl⟩, by decide, Tryz.isAgg138⟩ .nil))))) (by decide) rfl (by decide) (.inl rfl)
theorem TryzI141_ok : TIok Tryz.prog 141 TryzI141 := tiok Tryz.type141 rfl rfl rfl rfl (by intro h; first | rfl | cases h) ⟨_, Tryz.underlying141, (by intro x h; cases h), (by intro x y h; cases h)⟩ (by decide) rfl (by decide) (.inl rfl)
theorem TryzI142_ok : TIok Tryz.prog 142 TryzI142 := tiok Tryz.type142 rfl rfl rfl rfl (by intro h; first | rfl | cases h) ⟨_, Tryz.underlying142, (by intro x h; cases h), (by intro x y h; cases h)⟩ (by decide) rfl (by decide) (.inl rfl)
theorem TryzI144_ok : TIok Tryz.prog 144 TryzI144 := tiok Tryz.type144 rfl rfl rfl rfl (by intro h; first | rfl | cases h) ⟨_, Tryz.underlying144, (by intro x h; cases h), (by intro x y h; cases h)⟩ (by decide) rfl (by decide) (.inl rfl)
theorem TryzI145_ok : TIok Tryz.prog 145 TryzI145 := tiok Tryz.type145 rfl rfl rfl rfl (by intro h; first | rfl | cases h) ⟨_, Tryz.underlying145, (by intro x h; cases h), (by intro x y h; cases h)⟩ (by decide) rfl (by decide) (.inl rfl)
theorem TryzI146_ok : TIok Tryz.prog 146 TryzI146 := tiok Tryz.type146 rfl rfl rfl rfl (by intro h; first | rfl | cases h) ⟨_, Tryz.underlying146, (by intro x h; cases h), (by intro x y h; cases h)⟩ (by decide) rfl (by decide) (.inl rfl)
theorem TryzI147_ok : TIok Tryz.prog 147 TryzI147 := tiok Tryz.type147 rfl rfl rfl rfl (by intro h; first | rfl | cases h) ⟨_, Tryz.underlying147, (by intro x h; cases h), (by intro x y h; cases h)⟩ (by decide) rfl (by decide) (.inl rfl)
theorem TryzI148_ok : TIok Tryz.prog 148 TryzI148 := tiok Tryz.type148 rfl rfl rfl rfl (by intro h; first | rfl | cases h) Tryz.underlying148 (by decide) rfl (by decide) (.inl rfl)
theorem TryzI149_ok : TIok Tryz.prog 149 TryzI149 := tiok Tryz.type149 rfl rfl rfl rfl (by intro h; first | rfl | cases h) (kind_struct Tryz.underlying149 (.cons ⟨rfl, ⟨_, Tryz.type3, rfl⟩, by decide, Tryz.isAgg3⟩ (.cons ⟨rfl, ⟨_, Tryz.type3, rfl⟩, by decide, Tryz.isAgg3⟩ (.cons ⟨rfl, ⟨_, Tryz.type3, rfl⟩, by decide, Tryz.isAgg3⟩ (.cons ⟨rfl, ⟨_, Tryz.type140, rfl⟩, by decide, Tryz.isAgg140⟩ (.cons ⟨rfl, ⟨_, Tryz.type148, rfl⟩, by decide, Tryz.isAgg148⟩ .nil)))))) (by decide) rfl (by decide) (.inl rfl)
theorem TryzI150_ok : TIok Tryz.prog 150 TryzI150 := tiok Tryz.type150 rfl rfl rfl rfl (by intro h; first | rfl | cases h) (kind_struct Tryz.underlying150 (.cons ⟨rfl, ⟨_, Tryz.type3, rfl⟩, by decide, Tryz.isAgg3⟩ (.cons ⟨rfl, ⟨_, Tryz.type3, rfl⟩, by decide, Tryz.isAgg3⟩ (.cons ⟨rfl, ⟨_, Tryz.type3, rfl⟩, by decide, Tryz.isAgg3⟩ (.cons ⟨rfl, ⟨_, Tryz.type140, rfl⟩, by decide, Tryz.isAgg140⟩ (.cons ⟨rfl, ⟨_, Tryz.type148, rfl⟩, by decide, Tryz.isAgg148⟩ .nil)))))) (by decide) rfl (by decide) (.inl rfl)
theorem TryzI151_ok : TIok Tryz.prog 151 TryzI151 := tiok Tryz.type151 rfl rfl rfl rfl (by intro h; first | rfl | cases h) ⟨_, Tryz.underlying151, (by intro x h; cases h), (by intro x y h; cases h)⟩ (by decide) rfl (by decide) (.inl rfl)
theorem TryzI152_ok : TIok Tryz.prog 152 TryzI152 := tiok Tryz.type152 rfl rfl rfl rfl (by intro h; first | rfl | cases h) Tryz.underlying152 (by decide) rfl (by decide) (.inl rfl)
theorem TryzI153_ok : TIok Tryz.prog 153 TryzI153 := tiok Tryz.type153 rfl rfl rfl rfl (by intro h; first | rfl | cases h) (kind_struct Tryz.underlying153 (.cons ⟨rfl, ⟨_, Tryz.type70, rfl⟩, by decide, Tryz.isAgg70⟩ (.cons ⟨rfl, ⟨_, Tryz.type31, rfl⟩, by decide, Tryz.isAgg31⟩ (.cons ⟨rfl, ⟨_, Tryz.type152, rfl⟩, by decide, Tryz.isAgg152⟩ .nil)))) (by decide) rfl (by decide) (.inl rfl)
theorem TryzI154_ok : TIok Tryz.prog 154 TryzI154 := tiok Tryz.type154 rfl rfl rfl rfl (by intro h; first | rfl | cases h) (kind_struct Tryz.underlying154 (.cons ⟨rfl, ⟨_, Tryz.type70, rfl⟩, by decide, Tryz.isAgg70⟩ (.cons ⟨rfl, ⟨_, Tryz.type31, rfl⟩, by decide, Tryz.isAgg31⟩ (.cons ⟨rfl, ⟨_, Tryz.type152, rfl⟩, by decide, Tryz.isAgg152⟩ .nil)))) (by decide) rfl (by decide) (.inl rfl)
theorem TryzI155_ok : TIok Tryz.prog 155 TryzI155 := tiok Tryz.type155 rfl rfl rfl rfl (by intro h; first | rfl | cases h) ⟨_, Tryz.underlying155, (by intro x h; cases h), (by intro x y h; cases h)⟩ (by decide) rfl (by decide) (.inl rfl)
theorem TryzI157_ok : TIok Tryz.prog 157 TryzI157 := tiok Tryz.type157 rfl rfl rfl rfl (by intro h; first | rfl | cases h) ⟨_, Tryz.underlying157, (by intro x h; cases h), (by intro x y h; cases h)⟩ (by decide) rfl (by decide) (.inl rfl)
theorem TryzI158_ok : TIok Tryz.prog 158 TryzI158 := tiok Tryz.type158 rfl rfl rfl rfl (by intro h; first | rfl | cases h) ⟨_, Tryz.underlying158, (by intro x h; cases h), (by intro x y h; cases h)⟩ (by decide) rfl (by decide) (.inl rfl)
theorem TryzI159_ok : TIok Tryz.prog 159 TryzI159 := tiok Tryz.type159 rfl rfl rfl rfl (by intro h; first | rfl | cases h) Tryz.underlying159 (by decide) rfl (by decide) (.inl rfl)
theorem TryzI160_ok : TIok Tryz.prog 160 TryzI160 := tiok Tryz.type160 rfl rfl rfl rfl (by intro h; first | rfl | cases h) ⟨_, Tryz.underlying160, (by intro x h; cases h), (by intro x y h; cases h)⟩ (by decide) rfl (by decide) (.inl rfl)
theorem TryzI161_ok : TIok Tryz.prog 161 TryzI161 := tiok Tryz.type161 rfl rfl rfl rfl (by intro h; first | rfl | cases h) ⟨_, Tryz.underlying161, (by intro x h; cases h), (by intro x y h; cases h)⟩ (by decide) rfl (by decide) (.inl rfl)
theorem TryzI162_ok : TIok Tryz.prog 162 TryzI162 := tiok Tryz.type162 rfl rfl rfl rfl (by intro h; first | rfl | cases h) ⟨_, Tryz.underlying162, (by intro x h; cases h), (by intro x y h; cases h)⟩ (by decide) rfl (by decide) (.inl rfl)
theorem TryzI163_ok : TIok Tryz.prog 163 TryzI163 := tiok Tryz.type163 rfl rfl rfl rfl (by intro h; first | rfl | cases h) (kind_struct Tryz.underlying163 (.cons ⟨rfl, ⟨_, Tryz.type9, rfl⟩, by decide, Tryz.isAgg9⟩ (.cons ⟨rfl, ⟨_, Tryz.type3, rfl⟩, by decide, Tryz.isAgg3⟩ (.cons ⟨rfl, ⟨_, Tryz.type3, rfl⟩, by decide, Tryz.isAgg3⟩ (.cons ⟨rfl, ⟨_, Tryz.type3, rfl⟩, by decide, Tryz.isAgg3⟩ .nil))))) (by decide) rfl (by decide) (.inl rfl)
theorem TryzI164_ok : TIok Tryz.prog 164 TryzI164 := tiok Tryz.type164 rfl rfl rfl rfl (by intro h; first | rfl | cases h) (kind_struct Tryz.underlying164 (.cons ⟨rfl, ⟨_, Tryz.type9, rfl⟩, by decide, Tryz.isAgg9⟩ (.cons ⟨rfl, ⟨_, Tryz.type3, rfl⟩, by decide, Tryz.isAgg3⟩ (.cons ⟨rfl, ⟨_, Tryz.type3, rfl⟩, by decide, Tryz.isAgg3⟩ (.cons ⟨rfl, ⟨_, Tryz.type3, rfl⟩, by decide, Tryz.isAgg3⟩ .nil))))) (by decide) rfl (by decide) (.inr (.inl ⟨Tryz.underlying164, by kernel_rfl, Tryz.eqGuardType164, ⟨by decide, rfl, Tryz.underlying9, ⟨by decide, rfl, Tryz.underlying3, ⟨by decide, rfl, Tryz.underlying3, ⟨by decide, rfl, Tryz.underlying3, trivial⟩⟩⟩⟩⟩))
theorem TryzI165_ok : TIok Tryz.prog 165 TryzI165 := tiok Tryz.type165 rfl rfl rfl rfl (by intro h; first | rfl | cases h) ⟨_, Tryz.underlying165, (by intro x h; cases h), (by intro x y h; cases h)⟩ (by decide) rfl (by decide) (.inl rfl)
theorem TryzI166_ok : TIok Tryz.prog 166 TryzI166 := tiok Tryz.type166 rfl rfl rfl rfl (by intro h; first | rfl | cases h) ⟨_, Tryz.underlying166, (by intro x h; cases h), (by intro x y h; cases h)⟩ (by decide) rfl (by decide) (.inl rfl)
theorem TryzI168_ok : TIok Tryz.prog 168 TryzI168 := tiok Tryz.type168 rfl rfl rfl rfl (by intro h; first | rfl | cases h) ⟨_, Tryz.underlying168, (by intro x h; cases h), (by intro x y h; cases h)⟩ (by decide) rfl (by decide) (.inl rfl)
theorem TryzI169_ok : TIok Tryz.prog 169 TryzI169 := tiok Tryz.type169 rfl rfl rfl rfl (by intro h; first | rfl | cases h) ⟨_, Tryz.underlying169, (by intro x h; cases h), (by intro x y h; cases h)⟩ (by decide) rfl (by decide) (.inl rfl)
theorem TryzI170_ok : TIok Tryz.prog 170 TryzI170 := tiok Tryz.type170 rfl rfl rfl rfl (by intro h; first | rfl | cases h) ⟨_, Tryz.underlying170, (by intro x h; cases h), (by intro x y h; cases h)⟩ (by decide) rfl (by decide) (.inl rfl)
theorem TryzI171_ok : TIok Tryz.prog 171 TryzI171 := tiok Tryz.type171 rfl rfl rfl rfl (by intro h; first | rfl | cases h) ⟨_, Tryz.underlying171, (by intro x h; cases h), (by intro x y h; cases h)⟩ (by decide) rfl (by decide) (.inl rfl)
theorem TryzI172_ok : TIok Tryz.prog 172 TryzI172 := tiok Tryz.type172 rfl rfl rfl rfl (by intro h; first | rfl | cases h) ⟨_, Tryz.underlying172, (by intro x h; cases h), (by intro x y h; cases h)⟩ (by decide) rfl (by decide) (.inl rfl)
theorem TryzI173_ok : TIok Tryz.prog 173 TryzI173 := tiok Tryz.type173 rfl rfl rfl rfl (by intro h; first | rfl | cases h) ⟨_, Tryz.underlying173, (by intro x h; cases h), (by intro x y h; cases h)⟩ (by decide) rfl (by decide) (.inl rfl)
theorem TryzI174_ok : TIok Tryz.prog 174 TryzI174 := tiok Tryz.type174 rfl rfl rfl rfl (by intro h; first | rfl | cases h) ⟨_, Tryz.underlying174, (by intro x h; cases h), (by intro x y h; cases h)⟩ (by decide) rfl (by decide) (.inl rfl)
theorem TryzI175_ok : TIok Tryz.prog 175 TryzI175 := tiok Tryz.type175 rfl rfl rfl rfl (by intro h; first | rfl | cases h) ⟨_, Tryz.underlying175, (by intro x h; cases h), (by intro x y h; cases h)⟩ (by decide) rfl (by decide) (.inl rfl)
theorem TryzI176_ok : TIok Tryz.prog 176 TryzI176 := tiok Tryz.type176 rfl rfl rfl rfl (by intro h; first | rfl | cases h) ⟨_, Tryz.underlying176, (by intro x h; cases h), (by intro x y h; cases h)⟩ (by decide) rfl (by decide) (.inl rfl)
theorem TryzI177_ok : TIok Tryz.prog 177 TryzI177 := tiok Tryz.type177 rfl rfl rfl rfl (by intro h; first | rfl | cases h) (kind_struct Tryz.underlying177 (.cons ⟨rfl, ⟨_, Tryz.type3, rfl⟩, by decide, Tryz.isAgg3⟩ (.cons ⟨rfl, ⟨_, Tryz.type31, rfl⟩, by decide, Tryz.isAgg31⟩ .nil))) (by decide) rfl (by decide) (.inl rfl)
theorem TryzI178_ok : TIok Tryz.prog 178 TryzI178 := tiok Tryz.type178 rfl rfl rfl rfl (by intro h; first | rfl | cases h) (kind_struct Tryz.underlying178 (.cons ⟨rfl, ⟨_, Tryz.type3, rfl⟩, by decide, Tryz.isAgg3⟩ (.cons ⟨rfl, ⟨_, Tryz.type31, rfl⟩, by decide, Tryz.isAgg31⟩ .nil))) (by decide) rfl (by decide) (.inl rfl)
theorem TryzI179_ok : TIok Tryz.prog 179 TryzI179 := tiok Tryz.type179 rfl rfl rfl rfl (by intro h; first | rfl | cases h) ⟨_, Tryz.underlying179, (by intro x h; cases h), (by intro x y h; cases h)⟩ (by decide) rfl (by decide) (.inl rfl)
theorem TryzI180_ok : TIok Tryz.prog 180 TryzI180 := tiok Tryz.type180 rfl rfl rfl rfl (by intro h; first | rfl | cases h) ⟨_, Tryz.underlying180, (by intro x h; cases h), (by intro x y h; cases h)⟩ (by decide) rfl (by decide) (.inl rfl)
theorem TryzI181_ok : TIok Tryz.prog 181 TryzI181 := tiok Tryz.type181 rfl rfl rfl rfl (by intro h; first | rfl | cases h) ⟨_, Tryz.underlying181, (by intro x h; cases h), (by intro x y h; cases h)⟩ (by decide) rfl (by decide) (.inl rfl)
theorem TryzI182_ok : TIok Tryz.prog 182 TryzI182 := tiok Tryz.type182 rfl rfl rfl rfl (by intro h; first | rfl | cases h) ⟨_, Tryz.underlying182, (by intro x h; cases h), (by intro x y h; cases h)⟩ (by decide) rfl (by decide) (.inl rfl)
theorem TryzI183_ok : TIok Tryz.prog 183 TryzI183 := tiok Tryz.type183 rfl rfl rfl rfl (by intro h; first | rfl | cases h) ⟨_, Tryz.underlying183, (by intro x h; cases h), (by intro x y h; cases h)⟩ (by decide) rfl (by decide) (.inl rfl)
theorem TryzI184_ok : TIok Tryz.prog 184 TryzI184 := tiok Tryz.type184 rfl rfl rfl rfl (by intro h; first | rfl | cases h) ⟨_, Tryz.underlying184, (by intro x h; cases h), (by intro x y h; cases h)⟩ (by decide) rfl (by decide) (.inl rfl)
theorem TryzI185_ok : TIok Tryz.prog 185 TryzI185 := tiok Tryz.type185 rfl rfl rfl rfl (by intro h; first | rfl | cases h) ⟨_, Tryz.underlying185, (by intro x h; cases h), (by intro x y h; cases h)⟩ (by decide) rfl (by decide) (.inl rfl)
theorem TryzI186_ok : TIok Tryz.prog 186 TryzI186 := tiok Tryz.type186 rfl rfl rfl rfl (by intro h; first | rfl | cases h) ⟨_, Tryz.underlying186, (by intro x h; cases h), (by intro x y h; cases h)⟩ (by decide) rfl (by decide) (.inl rfl)
theorem TryzI187_ok : TIok Tryz.prog 187 TryzI187 := tiok Tryz.type187 rfl rfl rfl rfl (by intro h; first | rfl | cases h) ⟨_, Tryz.underlying187, (by intro x h; cases h), (by intro x y h; cases h)⟩ (by decide) rfl (by decide) (.inl rfl)
theorem TryzI188_ok : TIok Tryz.prog 188 TryzI188 := tiok Tryz.type188 rfl rfl rfl rfl (by intro h; first | rfl | cases h) ⟨_, Tryz.underlying188, (by intro x h; cases h), (by intro x y h; cases h)⟩ (by decide) rfl (by decide) (.inl rfl)
theorem TryzI189_ok : TIok Tryz.prog 189 TryzI189 := tiok Tryz.type189 rfl rfl rfl rfl (by intro h; first | rfl | cases h) ⟨_, Tryz.underlying189, (by intro x h; cases h), (by intro x y h; cases h)⟩ (by decide) rfl (by decide) (.inl rfl)
theorem TryzI190_ok : TIok Tryz.prog 190 TryzI190 := tiok Tryz.type190 rfl rfl rfl rfl (by intro h; first | rfl | cases h) ⟨_, Tryz.underlying190, (by intro x h; cases h), (by intro x y h; cases h)⟩ (by decide) rfl (by decide) (.inl rfl)
theorem TryzI191_ok : TIok Tryz.prog 191 TryzI191 := tiok Tryz.type191 rfl rfl rfl rfl (by intro h; first | rfl | cases h) ⟨_, Tryz.underlying191, (by intro x h; cases h), (by intro x y h; cases h)⟩ (by decide) rfl (by decide) (.inl rfl)
theorem TryzI192_ok : TIok Tryz.prog 192 TryzI192 := tiok Tryz.type192 rfl rfl rfl rfl (by intro h; first | rfl | cases h) ⟨_, Tryz.underlying192, (by intro x h; cases h), (by intro x y h; cases h)⟩ (by decide) rfl (by decide) (.inl rfl)
theorem TryzI194_ok : TIok Tryz.prog 194 TryzI194 := tiok Tryz.type194 rfl rfl rfl rfl (by intro h; first | rfl | cases h) ⟨_, Tryz.underlying194, (by intro x h; cases h), (by intro x y h; cases h)⟩ (by decide) rfl (by decide) (.inl rfl)
theorem TryzI195_ok : TIok Tryz.prog 195 TryzI195 := tiok Tryz.type195 rfl rfl rfl rfl (by intro h; first | rfl | cases h) (kind_struct Tryz.underlying195 (.cons ⟨rfl, ⟨_, Tryz.type3, rfl⟩, by decide, Tryz.isAgg3⟩ (.cons ⟨rfl, ⟨_, Tryz.type31, rfl⟩, by decide, Tryz.isAgg31⟩ .nil))) (by decide) rfl (by decide) (.inl rfl)
theorem TryzI196_ok : TIok Tryz.prog 196 TryzI196 := tiok Tryz.type196 rfl rfl rfl rfl (by intro h; first | rfl | cases h) (kind_struct Tryz.underlying196 (.cons ⟨rfl, ⟨_, Tryz.type3, rfl⟩, by decide, Tryz.isAgg3⟩ (.cons ⟨rfl, ⟨_, Tryz.type31, rfl⟩, by decide, Tryz.isAgg31⟩ .nil))) (by decide) rfl (by decide) (.inl rfl)
theorem TryzI198_ok : TIok Tryz.prog 198 TryzI198 := tiok Tryz.type198 rfl rfl rfl rfl (by intro h; first | rfl | cases h) ⟨_, Tryz.underlying198, (by intro x h; cases h), (by intro x y h; cases h)⟩ (by decide) rfl (by decide) (.inl rfl)
theorem TryzI199_ok : TIok Tryz.prog 199 TryzI199 := tiok Tryz.type199 rfl rfl rfl rfl (by intro h; first | rfl | cases h) ⟨_, Tryz.underlying199, (by intro x h; cases h), (by intro x y h; cases h)⟩ (by decide) rfl (by decide) (.inl rfl)
theorem TryzI201_ok : TIok Tryz.prog 201 TryzI201 := tiok Tryz.type201 rfl rfl rfl rfl (by intro h; first | rfl | cases h) ⟨_, Tryz.underlying201, (by intro x h; cases h), (by intro x y h; cases h)⟩ (by decide) rfl (by decide) (.inl rfl)
theorem TryzI202_ok : TIok Tryz.prog 202 TryzI202 := tiok Tryz.type202 rfl rfl rfl rfl (by intro h; first | rfl | cases h) ⟨_, Tryz.underlying202, (by intro x h; cases h), (by intro x y h; cases h)⟩ (by decide) rfl (by decide) (.inl rfl)
theorem TryzI203_ok : TIok Tryz.prog 203 TryzI203 := tiok Tryz.type203 rfl rfl rfl rfl (by intro h; first | rfl | cases h) ⟨_, Tryz.underlying203, (by intro x h; cases h), (by intro x y h; cases h)⟩ (by decide) rfl (by decide) (.inl rfl)
theorem TryzI204_ok : TIok Tryz.prog 204 TryzI204 := tiok Tryz.type204 rfl rfl rfl rfl (by intro h; first | rfl | cases h) ⟨_, Tryz.underlying204, (by intro x h; cases h), (by intro x y h; cases h)⟩ (by decide) rfl (by decide) (.inl rfl)
theorem TryzI205_ok : TIok Tryz.prog 205 TryzI205 := tiok Tryz.type205 rfl rfl rfl rfl (by intro h; first | rfl | cases h) (kind_struct Tryz.underlying205 (.cons ⟨rfl, ⟨_, Tryz.type3, rfl⟩, by decide, Tryz.isAgg3⟩ (.cons ⟨rfl, ⟨_, Tryz.type140, rfl⟩, by decide, Tryz.isAgg140⟩ .nil))) (by decide) rfl (by decide) (.inl rfl)
theorem TryzI206_ok : TIok Tryz.prog 206 TryzI206 := tiok Tryz.type206 rfl rfl rfl rfl (by intro h; first | rfl | cases h) (kind_struct Tryz.underlying206 (.cons ⟨rfl, ⟨_, Tryz.type3, rfl⟩, by decide, Tryz.isAgg3⟩ (.cons ⟨rfl, ⟨_, Tryz.type140, rfl⟩, by decide, Tryz.isAgg140⟩ .nil))) (by decide) rfl (by decide) (.inl rfl)
theorem TryzI207_ok : TIok Tryz.prog 207 TryzI207 := tiok Tryz.type207 rfl rfl rfl rfl (by intro h; first | rfl | cases h) ⟨_, Tryz.underlying207, (by intro x h; cases h), (by intro x y h; cases h)⟩ (by decide) rfl (by decide) (.inl rfl)
theorem TryzI208_ok : TIok Tryz.prog 208 TryzI208 := tiok Tryz.type208 rfl rfl rfl rfl (by intro h; first | rfl | cases h) ⟨_, Tryz.underlying208, (by intro x h; cases h), (by intro x y h; cases h)⟩ (by decide) rfl (by decide) (.inl rfl)
theorem TryzI210_ok : TIok Tryz.prog 210 TryzI210 := tiok Tryz.type210 rfl rfl rfl rfl (by intro h; first | rfl | cases h) ⟨_, Tryz.underlying210, (by intro x h; cases h), (by intro x y h; cases h)⟩ (by decide) rfl (by decide) (.inl rfl)
theorem TryzI211_ok : TIok Tryz.prog 211 TryzI211 := tiok Tryz.type211 rfl rfl rfl rfl (by intro h; first | rfl | cases h) ⟨_, Tryz.underlying211, (by intro x h; cases h), (by intro x y h; cases h)⟩ (by decide) rfl (by decide) (.inl rfl)
theorem TryzI212_ok : TIok Tryz.prog 212 TryzI212 := tiok Tryz.type212 rfl rfl rfl rfl (by intro h; first | rfl | cases h) ⟨_, Tryz.underlying212, (by intro x h; cases h), (by intro x y h; cases h)⟩ (by decide) rfl (by decide) (.inl rfl)
theorem TryzI213_ok : TIok Tryz.prog 213 TryzI213 := tiok Tryz.type213 rfl rfl rfl rfl (by intro h; first | rfl | cases h) ⟨_, Tryz.underlying213, (by intro x h; cases h), (by intro x y h; cases h)⟩ (by decide) rfl (by decide) (.inl rfl)
theorem TryzI214_ok : TIok Tryz.prog 214 TryzI214 := tiok Tryz.type214 rfl rfl rfl rfl (by intro h; first | rfl | cases h) Tryz.underlying214 (by decide) rfl (by decide) (.inl rfl)
theorem TryzI215_ok : TIok Tryz.prog 215 TryzI215 := tiok Tryz.type215 rfl rfl rfl rfl (by intro h; first | rfl | cases h) Tryz.underlying215 (by decide) rfl (by decide) (.inl rfl)
theorem TryzI216_ok : TIok Tryz.prog 216 TryzI216 := tiok Tryz.type216 rfl rfl rfl rfl (by intro h; first | rfl | cases h) (kind_struct Tryz.underlying216 (.cons ⟨rfl, ⟨_, Tryz.type215, rfl⟩, by decide, Tryz.isAgg215⟩ (.cons ⟨rfl, ⟨_, Tryz.type44, rfl⟩, by decide, Tryz.isAgg44⟩ .nil))) (by decide) rfl (by decide) (.inl rfl)
theorem TryzI217_ok : TIok Tryz.prog 217 TryzI217 := tiok Tryz.type217 rfl rfl rfl rfl (by intro h; first | rfl | cases h) (kind_struct Tryz.underlying217 (.cons ⟨rfl, ⟨_, Tryz.type215, rfl⟩, by decide, Tryz.isAgg215⟩ (.cons ⟨rfl, ⟨_, Tryz.type44, rfl⟩, by decide, Tryz.isAgg44⟩ .nil))) (by decide) rfl (by decide) (.inl rfl)
theorem TryzI218_ok : TIok Tryz.prog 218 TryzI218 := tiok Tryz.type218 rfl rfl rfl rfl (by intro h; first | rfl | cases h) ⟨_, Tryz.underlying218, (by intro x h; cases h), (by intro x y h; cases h)⟩ (by decide) rfl (by decide) (.inl rfl)
theorem TryzI219_ok : TIok Tryz.prog 219 TryzI219 := tiok Tryz.type219 rfl rfl rfl rfl (by intro h; first | rfl | cases h) ⟨_, Tryz.underlying219, (by intro x h; cases h), (by intro x y h; cases h)⟩ (by decide) rfl (by decide) (.inl rfl)
theorem TryzI221_ok : TIok Tryz.prog 221 TryzI221 := tiok Tryz.type221 rfl rfl rfl rfl (by intro h; first | rfl | cases h) ⟨_, Tryz.underlying221, (by intro x h; cases h), (by intro x y h; cases h)⟩ (by decide) rfl (by decide) (.inl rfl)
theorem TryzI222_ok : TIok Tryz.prog 222 TryzI222 := tiok Tryz.type222 rfl rfl rfl rfl (by intro h; first | rfl | cases h) ⟨_, Tryz.underlying222, (by intro x h; cases h), (by intro x y h; cases h)⟩ (by decide) rfl (by decide) (.inl rfl)
theorem TryzI223_ok : TIok Tryz.prog 223 TryzI223 := tiok Tryz.type223 rfl rfl rfl rfl (by intro h; first | rfl | cases h) ⟨_, Tryz.underlying223, (by intro x h; cases h), (by intro x y h; cases h)⟩ (by decide) rfl (by decide) (.inl rfl)
theorem TryzI224_ok : TIok Tryz.prog 224 TryzI224 := tiok Tryz.type224 rfl rfl rfl rfl (by intro h; first | rfl | cases h) ⟨_, Tryz.underlying224, (by intro x h; cases h), (by intro x y h; cases h)⟩ (by decide) rfl (by decide) (.inl rfl)
theorem TryzI225_ok : TIok Tryz.prog 225 TryzI225 := tiok Tryz.type225 rfl rfl rfl rfl (by intro h; first | rfl | cases h) ⟨_, Tryz.underlying225, (by intro x h; cases h), (by intro x y h; cases h)⟩ (by decide) rfl (by decide) (.inl rfl)
theorem TryzI227_ok : TIok Tryz.prog 227 TryzI227 := tiok Tryz.type227 rfl rfl rfl rfl (by intro h; first | rfl | cases h) ⟨_, Tryz.underlying227, (by intro x h; cases h), (by intro x y h; cases h)⟩ (by decide) rfl (by decide) (.inl rfl)
theorem TryzI228_ok : TIok Tryz.prog 228 TryzI228 := tiok Tryz.type228 rfl rfl rfl rfl (by intro h; first | rfl | cases h) ⟨_, Tryz.underlying228, (by intro x h; cases h), (by intro x y h; cases h)⟩ (by decide) rfl (by decide) (.inl rfl)
theorem TryzI229_ok : TIok Tryz.prog 229 TryzI229 := tiok Tryz.type229 rfl rfl rfl rfl (by intro h; first | rfl | cases h) ⟨_, Tryz.underlying229, (by intro x h; cases h), (by intro x y h; cases h)⟩ (by decide) rfl (by decide) (.inl rfl)
theorem TryzI230_ok : TIok Tryz.prog 230 TryzI230 := tiok Tryz.type230 rfl rfl rfl rfl (by intro h; first | rfl | cases h) ⟨_, Tryz.underlying230, (by intro x h; cases h), (by intro x y h; cases h)⟩ (by decide) rfl (by decide) (.inl rfl)
theorem TryzI231_ok : TIok Tryz.prog 231 TryzI231 := tiok Tryz.type231 rfl rfl rfl rfl (by intro h; first | rfl | cases h) ⟨_, Tryz.underlying231, (by intro x h; cases h), (by intro x y h; cases h)⟩ (by decide) rfl (by decide) (.inl rfl)
theorem TryzI232_ok : TIok Tryz.prog 232 TryzI232 := tiok Tryz.type232 rfl rfl rfl rfl (by intro h; first | rfl | cases h) ⟨_, Tryz.underlying232, (by intro x h; cases h), (by intro x y h; cases h)⟩ (by decide) rfl (by decide) (.inl rfl)
theorem TryzI233_ok : TIok Tryz.prog 233 TryzI233 := tiok Tryz.type233 rfl rfl rfl rfl (by intro h; first | rfl | cases h) ⟨_, Tryz.underlying233, (by intro x h; cases h), (by intro x y h; cases h)⟩ (by decide) rfl (by decide) (.inl rfl)
theorem TryzI234_ok : TIok Tryz.prog 234 TryzI234 := tiok Tryz.type234 rfl rfl rfl rfl (by intro h; first | rfl | cases h) Tryz.underlying234 (by decide) rfl (by decide) (.inl rfl)
theorem TryzI235_ok : TIok Tryz.prog 235 TryzI235 := tiok Tryz.type235 rfl rfl rfl rfl (by intro h; first | rfl | cases h) ⟨_, Tryz.underlying235, (by intro x h; cases h), (by intro x y h; cases h)⟩ (by decide) rfl (by decide) (.inl rfl)
theorem TryzI236_ok : TIok Tryz.prog 236 TryzI236 := tiok Tryz.type236 rfl rfl rfl rfl (by intro h; first | rfl | cases h) ⟨_, Tryz.underlying236, (by intro x h; cases h), (by intro x y h; cases h)⟩ (by decide) rfl (by decide) (.inl rfl)
theorem TryzI237_ok : TIok Tryz.prog 237 TryzI237 := tiok Tryz.type237 rfl rfl rfl rfl (by intro h; first | rfl | cases h) ⟨_, Tryz.underlying237, (by intro x h; cases h), (by intro x y h; cases h)⟩ (by decide) rfl (by decide) (.inl rfl)
theorem TryzI238_ok : TIok Tryz.prog 238 TryzI238 := tiok Tryz.type238 rfl rfl rfl rfl (by intro h; first | rfl | cases h) Tryz.underlying238 (by decide) rfl (by decide) (.inl rfl)
theorem TryzI239_ok : TIok Tryz.prog 239 TryzI239 := tiok Tryz.type239 rfl rfl rfl rfl (by intro h; first | rfl | cases h) (kind_struct Tryz.underlying239 (.cons ⟨rfl, ⟨_, Tryz.type238, rfl⟩, by decide, Tryz.isAgg238⟩ (.cons ⟨rfl, ⟨_, Tryz.type31, rfl⟩, by decide, Tryz.isAgg31⟩ (.cons ⟨rfl, ⟨_, Tryz.type31, rfl⟩, by decide, Tryz.isAgg31⟩ (.cons ⟨rfl, ⟨_, Tryz.type31, rfl⟩, by decide, Tryz.isAgg31⟩ .nil))))) (by decide) rfl (by decide) (.inl rfl)
theorem TryzI240_ok : TIok Tryz.prog 240 TryzI240 := tiok Tryz.type240 rfl rfl rfl rfl (by intro h; first | rfl | cases h) (kind_struct Tryz.underlying240 (.cons ⟨rfl, ⟨_, Tryz.type238, rfl⟩, by decide, Tryz.isAgg238⟩ (.cons ⟨rfl, ⟨_, Tryz.type31, rfl⟩, by decide, Tryz.isAgg31⟩ (.cons ⟨rfl, ⟨_, Tryz.type31, rfl⟩, by decide, Tryz.isAgg31⟩ (.cons ⟨rfl, ⟨_, Tryz.type31, rfl⟩, by decide, Tryz.isAgg31⟩ .nil))))) (by decide) rfl (by decide) (.inl rfl)
theorem TryzI241_ok : TIok Tryz.prog 241 TryzI241 := tiok Tryz.type241 rfl rfl rfl rfl (by intro h; first | rfl | cases h) ⟨_, Tryz.underlying241, (by intro x h; cases h), (by intro x y h; cases h)⟩ (by decide) rfl (by decide) (.inl rfl)
theorem TryzI242_ok : TIok Tryz.prog 242 TryzI242 := tiok Tryz.type242 rfl rfl rfl rfl (by intro h; first | rfl | cases h) ⟨_, Tryz.underlying242, (by intro x h; cases h), (by intro x y h; cases h)⟩ (by decide) rfl (by decide) (.inl rfl)
theorem TryzI243_ok : TIok Tryz.prog 243 TryzI243 := tiok Tryz.type243 rfl rfl rfl rfl (by intro h; first | rfl | cases h) (kind_struct Tryz.underlying243 (.cons ⟨rfl, ⟨_, Tryz.type3, rfl⟩, by decide, Tryz.isAgg3⟩ (.cons ⟨rfl, ⟨_, Tryz.type3, rfl⟩, by decide, Tryz.isAgg3⟩ (.cons ⟨rfl, ⟨_, Tryz.type3, rfl⟩, by decide, Tryz.isAgg3⟩ (.cons ⟨rfl, ⟨_, Tryz.type3, rfl⟩, by decide, Tryz.isAgg3⟩ .nil))))) (by decide) rfl (by decide) (.inl rfl)
theorem TryzI244_ok : TIok Tryz.prog 244 TryzI244 := tiok Tryz.type244 rfl rfl rfl rfl (by intro h; first | rfl | cases h) (kind_struct Tryz.underlying244 (.cons ⟨rfl, ⟨_, Tryz.type3, rfl⟩, by decide, Tryz.isAgg3⟩ (.cons ⟨rfl, ⟨_, Tryz.type3, rfl⟩, by decide, Tryz.isAgg3⟩ (.cons ⟨rfl, ⟨_, Tryz.type3, rfl⟩, by decide, Tryz.isAgg3⟩ (.cons ⟨rfl, ⟨_, Tryz.type3, rfl⟩, by decide, Tryz.isAgg3⟩ .nil))))) (by decide) rfl (by decide) (.inl rfl)
theorem TryzI245_ok : TIok Tryz.prog 245 TryzI245 := tiok Tryz.type245 rfl rfl rfl rfl (by intro h; first | rfl | cases h) Tryz.underlying245 (by decide) rfl (by decide) (.inl rfl)
theorem TryzI246_ok : TIok Tryz.prog 246 TryzI246 := tiok Tryz.type246 rfl rfl rfl rfl (by intro h; first | rfl | cases h) Tryz.underlying246 (by decide) rfl (by decide) (.inl rfl)
theorem TryzI247_ok : TIok Tryz.prog 247 TryzI247 := tiok Tryz.type247 rfl rfl rfl rfl (by intro h; first | rfl | cases h) ⟨_, Tryz.underlying247, (by intro x h; cases h), (by intro x y h; cases h)⟩ (by decide) rfl (by decide) (.inl rfl)
theorem TryzI248_ok : TIok Tryz.prog 248 TryzI248 := tiok Tryz.type248 rfl rfl rfl rfl (by intro h; first | rfl | cases h) (kind_struct Tryz.underlying248 (.cons ⟨rfl, ⟨_, Tryz.type3, rfl⟩, by decide, Tryz.isAgg3⟩ (.cons ⟨rfl, ⟨_, Tryz.type3, rfl⟩, by decide, Tryz.isAgg3⟩ .nil))) (by decide) rfl (by decide) (.inl rfl)
theorem TryzI249_ok : TIok Tryz.prog 249 TryzI249 := tiok Tryz.type249 rfl rfl rfl rfl (by intro h; first | rfl | cases h) (kind_struct Tryz.underlying249 (.cons ⟨rfl, ⟨_, Tryz.type3, rfl⟩, by decide, Tryz.isAgg3⟩ (.cons ⟨rfl, ⟨_, Tryz.type3, rfl⟩, by decide, Tryz.isAgg3⟩ .nil))) (by decide) rfl (by decide) (.inr (.inl ⟨Tryz.underlying249, by kernel_rfl, Tryz.eqGuardType249, ⟨by decide, rfl, Tryz.underlying3, ⟨by decide, rfl, Tryz.underlying3, trivial⟩⟩⟩))
theorem TryzI250_ok : TIok Tryz.prog 250 TryzI250 := tiok Tryz.type250 rfl rfl rfl rfl (by intro h; first | rfl | cases h) Tryz.underlying250 (by decide) rfl (by decide) (.inl rfl)
theorem TryzI251_ok : TIok Tryz.prog 251 TryzI251 := tiok Tryz.type251 rfl rfl rfl rfl (by intro h; first | rfl | cases h) ⟨_, Tryz.underlying251, (by intro x h; cases h), (by intro x y h; cases h)⟩ (by decide) rfl (by decide) (.inl rfl)
theorem TryzI252_ok : TIok Tryz.prog 252 TryzI252 := tiok Tryz.type252 rfl rfl rfl rfl (by intro h; first | rfl | cases h) ⟨_, Tryz.underlying252, (by intro x h; cases h), (by intro x y h; cases h)⟩ (by decide) rfl (by decide) (.inl rfl)
theorem TryzI253_ok : TIok Tryz.prog 253 TryzI253 := tiok Tryz.type253 rfl rfl rfl rfl (by intro h; first | rfl | cases h) ⟨_, Tryz.underlying253, (by intro x h; cases h), (by intro x y h; cases h)⟩ (by decide) rfl (by decide) (.inl rfl)
theorem TryzI254_ok : TIok Tryz.prog 254 TryzI254 := tiok Tryz.type254 rfl rfl rfl rfl (by intro h; first | rfl | cases h) ⟨_, Tryz.underlying254, (by intro x h; cases h), (by intro x y h; cases h)⟩ (by decide) rfl (by decide) (.inl rfl)
theorem TryzI255_ok : TIok Tryz.prog 255 TryzI255 := tiok Tryz.type255 rfl rfl rfl rfl (by intro h; first | rfl | cases h) ⟨_, Tryz.underlying255, (by intro x h; cases h), (by intro x y h; cases h)⟩ (by decide) rfl (by decide) (.inl rfl)
theorem TryzI256_ok : TIok Tryz.prog 256 TryzI256 := tiok Tryz.type256 rfl rfl rfl rfl (by intro h; first | rfl | cases h) ⟨_, Tryz.underlying256, (by intro x h; cases h), (by intro x y h; cases h)⟩ (by decide) rfl (by decide) (.inl rfl)
theorem TryzI257_ok : TIok Tryz.prog 257 TryzI257 := tiok Tryz.type257 rfl rfl rfl rfl (by intro h; first | rfl | cases h) ⟨_, Tryz.underlying257, (by intro x h; cases h), (by intro x y h; cases h)⟩ (by decide) rfl (by decide) (.inl rfl)
theorem TryzI258_ok : TIok Tryz.prog 258 TryzI258 := tiok Tryz.type258 rfl rfl rfl rfl (by intro h; first | rfl | cases h) ⟨_, Tryz.underlying258, (by intro x h; cases h), (by intro x y h; cases h)⟩ (by decide) rfl (by decide) (.inl rfl)
theorem TryzI259_ok : TIok Tryz.prog 259 TryzI259 := tiok Tryz.type259 rfl rfl rfl rfl (by intro h; first | rfl | cases h) ⟨_, Tryz.underlying259, (by intro x h; cases h), (by intro x y h; cases h)⟩ (by decide) rfl (by decide) (.inl rfl)
theorem TryzI260_ok : TIok Tryz.prog 260 TryzI260 := tiok Tryz.type260 rfl rfl rfl rfl (by intro h; first | rfl | cases h) ⟨_, Tryz.underlying260, (by intro x h; cases h), (by intro x y h; cases h)⟩ (by decide) rfl (by decide) (.inl rfl)
theorem TryzI261_ok : TIok Tryz.prog 261 TryzI261 := tiok Tryz.type261 rfl rfl rfl rfl (by intro h; first | rfl | cases h) ⟨_, Tryz.underlying261, (by intro x h; cases h), (by intro x y h; cases h)⟩ (by decide) rfl (by decide) (.inl rfl)
theorem TryzI262_ok : TIok Tryz.prog 262 TryzI262 := tiok Tryz.type262 rfl rfl rfl rfl (by intro h; first | rfl | cases h) Tryz.underlying262 (by decide) rfl (by decide) (.inl rfl)
theorem TryzI263_ok : TIok Tryz.prog 263 TryzI263 := tiok Tryz.type263 rfl rfl rfl rfl (by intro h; first | rfl | cases h) ⟨_, Tryz.underlying263, (by intro x h; cases h), (by intro x y h; cases h)⟩ (by decide) rfl (by decide) (.inl rfl)
theorem TryzI264_ok : TIok Tryz.prog 264 TryzI264 := tiok Tryz.type264 rfl rfl rfl rfl (by intro h; first | rfl | cases h) ⟨_, Tryz.underlying264, (by intro x h; cases h), (by intro x y h; cases h)⟩ (by decide) rfl (by decide) (.inl rfl)
theorem TryzI265_ok : TIok Tryz.prog 265 TryzI265 := tiok Tryz.type265 rfl rfl rfl rfl (by intro h; first | rfl | cases h) Tryz.underlying265 (by decide) rfl (by decide) (.inl rfl)
theorem TryzI266_ok : TIok Tryz.prog 266 TryzI266 := tiok Tryz.type266 rfl rfl rfl rfl (by intro h; first | rfl | cases h) ⟨_, Tryz.underlying266, (by intro x h; cases h), (by intro x y h; cases h)⟩ (by decide) rfl (by decide) (.inl rfl)
theorem TryzI267_ok : TIok Tryz.prog 267 TryzI267 := tiok Tryz.type267 rfl rfl rfl rfl (by intro h; first | rfl | cases h) ⟨_, Tryz.underlying267, (by intro x h; cases h), (by intro x y h; cases h)⟩ (by decide) rfl (by decide) (.inl rfl)
theorem TryzI268_ok : TIok Tryz.prog 268 TryzI268 := tiok Tryz.type268 rfl rfl rfl rfl (by intro h; first | rfl | cases h) Tryz.underlying268 (by decide) rfl (by decide) (.inl rfl)
theorem TryzI270_ok : TIok Tryz.prog 270 TryzI270 := tiok Tryz.type270 rfl rfl rfl rfl (by intro h; first | rfl | cases h) ⟨_, Tryz.underlying270, (by intro x h; cases h), (by intro x y h; cases h)⟩ (by decide) rfl (by decide) (.inl rfl)
theorem TryzI271_ok : TIok Tryz.prog 271 TryzI271 := tiok Tryz.type271 rfl rfl rfl rfl (by intro h; first | rfl | cases h) ⟨_, Tryz.underlying271, (by intro x h; cases h), (by intro x y h; cases h)⟩ (by decide) rfl (by decide) (.inl rfl)
theorem TryzI272_ok : TIok Tryz.prog 272 TryzI272 := tiok Tryz.type272 rfl rfl rfl rfl (by intro h; first | rfl | cases h) ⟨_, Tryz.underlying272, (by intro x h; cases h), (by intro x y h; cases h)⟩ (by decide) rfl (by decide) (.inl rfl)
theorem TryzI273_ok : TIok Tryz.prog 273 TryzI273 := tiok Tryz.type273 rfl rfl rfl rfl (by intro h; first | rfl | cases h) ⟨_, Tryz.underlying273, (by intro x h; cases h), (by intro x y h; cases h)⟩ (by decide) rfl (by decide) (.inl rfl)
theorem TryzI274_ok : TIok Tryz.prog 274 TryzI274 := tiok Tryz.type274 rfl rfl rfl rfl (by intro h; first | rfl | cases h) ⟨_, Tryz.underlying274, (by intro x h; cases h), (by intro x y h; cases h)⟩ (by decide) rfl (by decide) (.inl rfl)
theorem TryzI275_ok : TIok Tryz.prog 275 TryzI275 := tiok Tryz.type275 rfl rfl rfl rfl (by intro h; first | rfl | cases h) Tryz.underlying275 (by decide) rfl (by decide) (.inl rfl)
theorem TryzI276_ok : TIok Tryz.prog 276 TryzI276 := tiok Tryz.type276 rfl rfl rfl rfl (by intro h; first | rfl | cases h) ⟨_, Tryz.underlying276, (by intro x h; cases h), (by intro x y h; cases h)⟩ (by decide) rfl (by decide) (.inl rfl)
theorem TryzI277_ok : TIok Tryz.prog 277 TryzI277 := tiok Tryz.type277 rfl rfl rfl rfl (by intro h; first | rfl | cases h) Tryz.underlying277 (by decide) rfl (by decide) (.inl rfl)
theorem TryzI278_ok : TIok Tryz.prog 278 TryzI278 := tiok Tryz.type278 rfl rfl rfl rfl (by intro h; first | rfl | cases h) ⟨_, Tryz.underlying278, (by intro x h; cases h), (by intro x y h; cases h)⟩ (by decide) rfl (by decide) (.inl rfl)
theorem TryzI279_ok : TIok Tryz.prog 279 TryzI279 := tiok Tryz.type279 rfl rfl rfl rfl (by intro h; first | rfl | cases h) ⟨_, Tryz.underlying279, (by intro x h; cases h), (by intro x y h; cases h)⟩ (by decide) rfl (by decide) (.inl rfl)
theorem TryzI280_ok : TIok Tryz.prog 280 TryzI280 := tiok Tryz.type280 rfl rfl rfl rfl (by intro h; first | rfl | cases h) ⟨_, Tryz.underlying280, (by intro x h; cases h), (by intro x y h; cases h)⟩ (by decide) rfl (by decide) (.inl rfl)
theorem TryzI281_ok : TIok Tryz.prog 281 TryzI281 := tiok Tryz.type281 rfl rfl rfl rfl (by intro h; first | rfl | cases h) Tryz.underlying281 (by decide) rfl (by decide) (.inl rfl)
theorem TryzI283_ok : TIok Tryz.prog 283 TryzI283 := tiok Tryz.type283 rfl rfl rfl rfl (by intro h; first | rfl | cases h) ⟨_, Tryz.underlying283, (by intro x h; cases h), (by intro x y h; cases h)⟩ (by decide) rfl (by decide) (.inl rfl)
theorem TryzI284_ok : TIok Tryz.prog 284 TryzI284 := tiok Tryz.type284 rfl rfl rfl rfl (by intro h; first | rfl | cases h) ⟨_, Tryz.underlying284, (by intro x h; cases h), (by intro x y h; cases h)⟩ (by decide) rfl (by decide) (.inl rfl)
theorem TryzI285_ok : TIok Tryz.prog 285 TryzI285 := tiok Tryz.type285 rfl rfl rfl rfl (by intro h; first | rfl | cases h) ⟨_, Tryz.underlying285, (by intro x h; cases h), (by intro x y h; cases h)⟩ (by decide) rfl (by decide) (.inl rfl)
theorem TryzI286_ok : TIok Tryz.prog 286 TryzI286 := tiok Tryz.type286 rfl rfl rfl rfl (by intro h; first | rfl | cases h) ⟨_, Tryz.underlying286, (by intro x h; cases h), (by intro x y h; cases h)⟩ (by decide) rfl (by decide) (.inl rfl)
theorem TryzI287_ok : TIok Tryz.prog 287 TryzI287 := tiok Tryz.type287 rfl rfl rfl rfl (by intro h; first | rfl | cases h) ⟨_, Tryz.underlying287, (by intro x h; cases h), (by intro x y h; cases h)⟩ (by decide) rfl (by decide) (.inl rfl)
theorem TryzI288_ok : TIok Tryz.prog 288 TryzI288 := tiok Tryz.type288 rfl rfl rfl rfl (by intro h; first | rfl | cases h) ⟨_, Tryz.underlying288, (by intro x h; cases h), (by intro x y h; cases h)⟩ (by decide) rfl (by decide) (.inl rfl)
theorem TryzI289_ok : TIok Tryz.prog 289 TryzI289 := tiok Tryz.type289 rfl rfl rfl rfl (by intro h; first | rfl | cases h) ⟨_, Tryz.underlying289, (by intro x h; cases h), (by intro x y h; cases h)⟩ (by decide) rfl (by decide) (.inl rfl)
theorem TryzI291_ok : TIok Tryz.prog 291 TryzI291 := tiok Tryz.type291 rfl rfl rfl rfl (by intro h; first | rfl | cases h) ⟨_, Tryz.underlying291, (by intro x h; cases h), (by intro x y h; cases h)⟩ (by decide) rfl (by decide) (.inl rfl)
theorem TryzI292_ok : TIok Tryz.prog 292 TryzI292 := tiok Tryz.type292 rfl rfl rfl rfl (by intro h; first | rfl | cases h) ⟨_, Tryz.underlying292, (by intro x h; cases h), (by intro x y h; cases h)⟩ (by decide) rfl (by decide) (.inl rfl)
theorem TryzI293_ok : TIok Tryz.prog 293 TryzI293 := tiok Tryz.type293 rfl rfl rfl rfl (by intro h; first | rfl | cases h) ⟨_, Tryz.underlying293, (by intro x h; cases h), (by intro x y h; cases h)⟩ (by decide) rfl (by decide) (.inl rfl)
theorem TryzI294_ok : TIok Tryz.prog 294 TryzI294 := tiok Tryz.type294 rfl rfl rfl rfl (by intro h; first | rfl | cases h) ⟨_, Tryz.underlying294, (by intro x h; cases h), (by intro x y h; cases h)⟩ (by decide) rfl (by decide) (.inl rfl)
theorem TryzI295_ok : TIok Tryz.prog 295 TryzI295 := tiok Tryz.type295 rfl rfl rfl rfl (by intro h; first | rfl | cases h) Tryz.underlying295 (by decide) rfl (by decide) (.inl rfl)
theorem TryzI296_ok : TIok Tryz.prog 296 TryzI296 := tiok Tryz.type296 rfl rfl rfl rfl (by intro h; first | rfl | cases h) ⟨_, Tryz.underlying296, (by intro x h; cases h), (by intro x y h; cases h)⟩ (by decide) rfl (by decide) (.inl rfl)
theorem TryzI297_ok : TIok Tryz.prog 297 TryzI297 := tiok Tryz.type297 rfl rfl rfl rfl (by intro h; first | rfl | cases h) ⟨_, Tryz.underlying297, (by intro x h; cases h), (by intro x y h; cases h)⟩ (by decide) rfl (by decide) (.inl rfl)
theorem TryzI298_ok : TIok Tryz.prog 298 TryzI298 := tiok Tryz.type298 rfl rfl rfl rfl (by intro h; first | rfl | cases h) ⟨_, Tryz.underlying298, (by intro x h; cases h), (by intro x y h; cases h)⟩ (by decide) rfl (by decide) (.inl rfl)
theorem TryzI299_ok : TIok Tryz.prog 299 TryzI299 := tiok Tryz.type299 rfl rfl rfl rfl (by intro h; first | rfl | cases h) ⟨_, Tryz.underlying299, (by intro x h; cases h), (by intro x y h; cases h)⟩ (by decide) rfl (by decide) (.inl rfl)
theorem TryzI300_ok : TIok Tryz.prog 300 TryzI300 := tiok Tryz.type300 rfl rfl rfl rfl (by intro h; first | rfl | cases h) Tryz.underlying300 (by decide) rfl (by decide) (.inl rfl)
theorem TryzI301_ok : TIok Tryz.prog 301 TryzI301 := tiok Tryz.type301 rfl rfl rfl rfl (by intro h; first | rfl | cases h) ⟨_, Tryz.underlying301, (by intro x h; cases h), (by intro x y h; cases h)⟩ (by decide) rfl (by decide) (.inl rfl)
theorem TryzI302_ok : TIok Tryz.prog 302 TryzI302 := tiok Tryz.type302 rfl rfl rfl rfl (by intro h; first | rfl | cases h) ⟨_, Tryz.underlying302, (by intro x h; cases h), (by intro x y h; cases h)⟩ (by decide) rfl (by decide) (.inl rfl)
theorem TryzI303_ok : TIok Tryz.prog 303 TryzI303 := tiok Tryz.type303 rfl rfl rfl rfl (by intro h; first | rfl | cases h) ⟨_, Tryz.underlying303, (by intro x h; cases h), (by intro x y h; cases h)⟩ (by decide) rfl (by decide) (.inl rfl)
theorem TryzI304_ok : TIok Tryz.prog 304 TryzI304 := tiok Tryz.type304 rfl rfl rfl rfl (by intro h; first | rfl | cases h) ⟨_, Tryz.underlying304, (by intro x h; cases h), (by intro x y h; cases h)⟩ (by decide) rfl (by decide) (.inl rfl)
theorem TryzI305_ok : TIok Tryz.prog 305 TryzI305 := tiok Tryz.type305 rfl rfl rfl rfl (by intro h; first | rfl | cases h) Tryz.underlying305 (by decide) rfl (by decide) (.inl rfl)
theorem TryzI306_ok : TIok Tryz.prog 306 TryzI306 := tiok Tryz.type306 rfl rfl rfl rfl (by intro h; first | rfl | cases h) ⟨_, Tryz.underlying306, (by intro x h; cases h), (by intro x y h; cases h)⟩ (by decide) rfl (by decide) (.inl rfl)
theorem TryzI308_ok : TIok Tryz.prog 308 TryzI308 := tiok Tryz.type308 rfl rfl rfl rfl (by intro h; first | rfl | cases h) ⟨_, Tryz.underlying308, (by intro x h; cases h), (by intro x y h; cases h)⟩ (by decide) rfl (by decide) (.inl rfl)
theorem TryzI309_ok : TIok Tryz.prog 309 TryzI309 := tiok Tryz.type309 rfl rfl rfl rfl (by intro h; first | rfl | cases h) Tryz.underlying309 (by decide) rfl (by decide) (.inl rfl)
theorem TryzI310_ok : TIok Tryz.prog 310 TryzI310 := tiok Tryz.type310 rfl rfl rfl rfl (by intro h; first | rfl | cases h) ⟨_, Tryz.underlying310, (by intro x h; cases h), (by intro x y h; cases h)⟩ (by decide) rfl (by decide) (.inl rfl)
theorem TryzI311_ok : TIok Tryz.prog 311 TryzI311 := tiok Tryz.type311 rfl rfl rfl rfl (by intro h; first | rfl | cases h) ⟨_, Tryz.underlying311, (by intro x h; cases h), (by intro x y h; cases h)⟩ (by decide) rfl (by decide) (.inl rfl)
theorem TryzI312_ok : TIok Tryz.prog 312 TryzI312 := tiok Tryz.type312 rfl rfl rfl rfl (by intro h; first | rfl | cases h) Tryz.underlying312 (by decide) rfl (by decide) (.inl rfl)
theorem TryzI314_ok : TIok Tryz.prog 314 TryzI314 := tiok Tryz.type314 rfl rfl rfl rfl (by intro h; first | rfl | cases h) Tryz.underlying314 (by decide) rfl (by decide) (.inl rfl)
theorem TryzI315_ok : TIok Tryz.prog 315 TryzI315 := tiok Tryz.type315 rfl rfl rfl rfl (by intro h; first | rfl | cases h) Tryz.underlying315 (by decide) rfl (by decide) (.inl rfl)
theorem TryzI316_ok : TIok Tryz.prog 316 TryzI316 := tiok Tryz.type316 rfl rfl rfl rfl (by intro h; first | rfl | cases h) (kind_struct Tryz.underlying316 (.cons ⟨rfl, ⟨_, Tryz.type17, rfl⟩, by decide, Tryz.isAgg17⟩ (.cons ⟨rfl, ⟨_, Tryz.type17, rfl⟩, by decide, Tryz.isAgg17⟩ (.cons ⟨rfl, ⟨_, Tryz.type17, rfl⟩, by decide, Tryz.isAgg17⟩ (.cons ⟨rfl, ⟨_, Tryz.type9, rfl⟩, by decide, Tryz.isAgg9⟩ .nil))))) (by decide) rfl (by decide) (.inl rfl)
theorem TryzI317_ok : TIok Tryz.prog 317 TryzI317 := tiok Tryz.type317 rfl rfl rfl rfl (by intro h; first | rfl | cases h) (kind_struct Tryz.underlying317 (.cons ⟨rfl, ⟨_, Tryz.type17, rfl⟩, by decide, Tryz.isAgg17⟩ (.cons ⟨rfl, ⟨_, Tryz.type17, rfl⟩, by decide, Tryz.isAgg17⟩ (.cons ⟨rfl, ⟨_, Tryz.type17, rfl⟩, by decide, Tryz.isAgg17⟩ (.cons ⟨rfl, ⟨_, Tryz.type9, rfl⟩, by decide, Tryz.isAgg9⟩ .nil))))) (by decide) rfl (by decide) (.inl rfl)
theorem TryzI321_ok : TIok Tryz.prog 321 TryzI321 := tiok Tryz.type321 rfl rfl rfl rfl (by intro h; first | rfl | cases h) ⟨_, Tryz.underlying321, (by intro x h; cases h), (by intro x y h; cases h)⟩ (by decide) rfl (by decide) (.inl rfl)
theorem TryzI322_ok : TIok Tryz.prog 322 TryzI322 := tiok Tryz.type322 rfl rfl rfl rfl (by intro h; first | rfl | cases h) Tryz.underlying322 (by decide) rfl (by decide) (.inl rfl)
theorem TryzI323_ok : TIok Tryz.prog 323 TryzI323 := tiok Tryz.type323 rfl rfl rfl rfl (by intro h; first | rfl | cases h) Tryz.underlying323 (by decide) rfl (by decide) (.inl rfl)
theorem TryzI324_ok : TIok Tryz.prog 324 TryzI324 := tiok Tryz.type324 rfl rfl rfl rfl (by intro h; first | rfl | cases h) ⟨_, Tryz.underlying324, (by intro x h; cases h), (by intro x y h; cases h)⟩ (by decide) rfl (by decide) (.inl rfl)
theorem TryzI325_ok : TIok Tryz.prog 325 TryzI325 := tiok Tryz.type325 rfl rfl rfl rfl (by intro h; first | rfl | cases h) Tryz.underlying325 (by decide) rfl (by decide) (.inl rfl)
theorem TryzI326_ok : TIok Tryz.prog 326 TryzI326 := tiok Tryz.type326 rfl rfl rfl rfl (by intro h; first | rfl | cases h) Tryz.underlying326 (by decide) rfl (by decide) (.inl rfl)
theorem TryzI327_ok : TIok Tryz.prog 327 TryzI327 := tiok Tryz.type327 rfl rfl rfl rfl (by intro h; first | rfl | cases h) (kind_struct Tryz.underlying327 (.cons ⟨rfl, ⟨_, Tryz.type12, rfl⟩, by decide, Tryz.isAgg12⟩ (.cons ⟨rfl, ⟨_, Tryz.type12, rfl⟩, by decide, Tryz.isAgg12⟩ (.cons ⟨rfl, ⟨_, Tryz.type275, rfl⟩, by decide, Tryz.isAgg275⟩ (.cons ⟨rfl, ⟨_, Tryz.type322, rfl⟩, by decide, Tryz.isAgg322⟩ (.cons ⟨rfl, ⟨_, Tryz.type5, rfl⟩, by decide, Tryz.isAgg5⟩ (.cons ⟨rfl, ⟨_, Tryz.type5, rfl⟩, by decide, Tryz.isAgg5⟩ (.cons ⟨rfl, ⟨_, Tryz.type323, rfl⟩, by decide, Tryz.isAgg323⟩ (.cons ⟨rfl, ⟨_, Tryz.type324, rfl⟩, by decide, Tryz.isAgg324⟩ (.cons ⟨rfl, ⟨_, Tryz.type265, rfl⟩, by decide, Tryz.isAgg265⟩ (.cons ⟨rfl, ⟨_, Tryz.type325, rfl⟩, by decide, Tryz.isAgg325⟩ (.cons ⟨rfl, ⟨_, Tryz.type326, rfl⟩, by decide, Tryz.isAgg326⟩ .nil)))))))))))) (by decide) rfl (by decide) (.inl rfl)
theorem TryzI328_ok : TIok Tryz.prog 328 TryzI328 := tiok Tryz.type328 rfl rfl rfl rfl (by intro h; first | rfl | cases h) (kind_struct Tryz.underlying328 (.cons ⟨rfl, ⟨_, Tryz.type12, rfl⟩, by decide, Tryz.isAgg12⟩ (.cons ⟨rfl, ⟨_, Tryz.type12, rfl⟩, by decide, Tryz.isAgg12⟩ (.cons ⟨rfl, ⟨_, Tryz.type275, rfl⟩, by decide, Tryz.isAgg275⟩ (.cons ⟨rfl, ⟨_, Tryz.type322, rfl⟩, by decide, Tryz.isAgg322⟩ (.cons ⟨rfl, ⟨_, Tryz.type5, rfl⟩, by decide, Tryz.isAgg5⟩ (.cons ⟨rfl, ⟨_, Tryz.type5, rfl⟩, by decide, Tryz.isAgg5⟩ (.cons ⟨rfl, ⟨_, Tryz.type323, rfl⟩, by decide, Tryz.isAgg323⟩ (.cons ⟨rfl, ⟨_, Tryz.type324, rfl⟩, by decide, Tryz.isAgg324⟩ (.cons ⟨rfl, ⟨_, Tryz.type265, rfl⟩, by decide, Tryz.isAgg265⟩ (.cons ⟨rfl, ⟨_, Tryz.type325, rfl⟩, by decide, Tryz.isAgg325⟩ (.cons ⟨rfl, ⟨_, Tryz.type326, rfl⟩, by decide, Tryz.isAgg326⟩ .nil)))))))))))) (by decide) rfl (by decide) (.inl rfl)
def TryzT : TT := [
  (1, TryzI1),
  (2, TryzI2),
  (3, TryzI3),
  (4, TryzI4),
  (5, TryzI5),
  (6, TryzI6),
  (7, TryzI7),
  (8, TryzI8),
  (9, TryzI9),
  (10, TryzI10),
  (11, TryzI11),
  (12, TryzI12),
  (13, TryzI13),
  (14, TryzI14),
  (15, TryzI15),
  (16, TryzI16),
  (17, TryzI17),
  (18, TryzI18),
  (19, TryzI19),
  (20, TryzI20),
  (21, TryzI21),
  (22, TryzI22),
  (23, TryzI23),
  (24, TryzI24),
  (25, TryzI25),
  (26, TryzI26),
  (27, TryzI27),
  (28, TryzI28),
  (29, TryzI29),
  (30, TryzI30),
  (31, TryzI31),
  (32, TryzI32),
  (33, TryzI33),
  (34, TryzI34),
  (36, TryzI36),
  (37, TryzI37),
  (38, TryzI38),
  (39, TryzI39),
  (40, TryzI40),
  (41, TryzI41),
  (42, TryzI42),
  (43, TryzI43),
  (44, TryzI44),
  (45, TryzI45),
  (47, TryzI47),
  (48, TryzI48),
  (49, TryzI49),
  (50, TryzI50),
  (51, TryzI51),
  (52, TryzI52),
  (53, TryzI53),
  (55, TryzI55),
  (57, TryzI57),
  (58, TryzI58),
  (59, TryzI59),
  (60, TryzI60),
  (61, TryzI61),
  (62, TryzI62),
  (63, TryzI63),
  (64, TryzI64),
  (66, TryzI66),
  (67, TryzI67),
  (68, TryzI68),
  (70, TryzI70),
  (71, TryzI71),
  (72, TryzI72),
  (73, TryzI73),
  (74, TryzI74),
  (75, TryzI75),
  (76, TryzI76),
  (77, TryzI77),
  (79, TryzI79),
  (80, TryzI80),
  (81, TryzI81),
  (83, TryzI83),
  (84, TryzI84),
  (85, TryzI85),
  (86, TryzI86),
  (87, TryzI87),
  (88, TryzI88),
  (90, TryzI90),
  (91, TryzI91),
  (92, TryzI92),
  (94, TryzI94),
  (95, TryzI95),
  (97, TryzI97),
  (98, TryzI98),
  (99, TryzI99),
  (100, TryzI100),
  (101, TryzI101),
  (102, TryzI102),
  (103, TryzI103),
  (104, TryzI104),
  (105, TryzI105),
  (106, TryzI106),
  (107, TryzI107),
  (108, TryzI108),
  (109, TryzI109),
  (111, TryzI111),
  (112, TryzI112),
  (113, TryzI113),
  (114, TryzI114),
  (115, TryzI115),
  (116, TryzI116),
  (117, TryzI117),
  (118, TryzI118),
  (119, TryzI119),
  (121, TryzI121),
  (123, TryzI123),
  (124, TryzI124),
  (126, TryzI126),
  (127, TryzI127),
  (129, TryzI129),
  (130, TryzI130),
  (131, TryzI131),
  (132, TryzI132),
  (133, TryzI133),
  (134, TryzI134),
  (136, TryzI136),
  (137, TryzI137),
  (138, TryzI138),
  (139, TryzI139),
  (140, TryzI140),
  (141, TryzI141),
  (142, TryzI142),
  (144, TryzI144),
  (145, TryzI145),
  (146, TryzI146),
  (147, TryzI147),
  (148, TryzI148),
  (149, TryzI149),
  (150, TryzI150),
  (151, TryzI151),
  (152, TryzI152),
  (153, TryzI153),
  (154, TryzI154),
  (155, TryzI155),
  (157, TryzI157),
  (158, TryzI158),
  (159, TryzI159),
  (160, TryzI160),
  (161, TryzI161),
  (162, TryzI162),
  (163, TryzI163),
  (164, TryzI164),
  (165, TryzI165),
  (166, TryzI166),
  (168, TryzI168),
  (169, TryzI169),
  (170, TryzI170),
  (171, TryzI171),
  (172, TryzI172),
  (173, TryzI173),
  (174, TryzI174),
  (175, TryzI175),
  (176, TryzI176),
  (177, TryzI177),
  (178, TryzI178),
  (179, TryzI179),
  (180, TryzI180),
  (181, TryzI181),
  (182, TryzI182),
  (183, TryzI183),
  (184, TryzI184),
  (185, TryzI185),
  (186, TryzI186),
  (187, TryzI187),
  (188, TryzI188),
  (189, TryzI189),
  (190, TryzI190),
  (191, TryzI191),
  (192, TryzI192),
  (194, TryzI194),
  (195, TryzI195),
  (196, TryzI196),
  (198, TryzI198),
  (199, TryzI199),
  (201, TryzI201),
  (202, TryzI202),
  (203, TryzI203),
  (204, TryzI204),
  (205, TryzI205),
  (206, TryzI206),
  (207, TryzI207),
  (208, TryzI208),
  (210, TryzI210),
  (211, TryzI211),
  (212, TryzI212),
  (213, TryzI213),
  (214, TryzI214),
  (215, TryzI215),
  (216, TryzI216),
  (217, TryzI217),
  (218, TryzI218),
  (219, TryzI219),
  (221, TryzI221),
  (222, TryzI222),
  (223, TryzI223),
  (224, TryzI224),
  (225, TryzI225),
  (227, TryzI227),
  (228, TryzI228),
  (229, TryzI229),
  (230, TryzI230),
  (231, TryzI231),
  (232, TryzI232),
  (233, TryzI233),
  (234, TryzI234),
  (235, TryzI235),
  (236, TryzI236),
  (237, TryzI237),
  (238, TryzI238),
  (239, TryzI239),
  (240, TryzI240),
  (241, TryzI241),
  (242, TryzI242),
  (243, TryzI243),
  (244, TryzI244),
  (245, TryzI245),
  (246, TryzI246),
  (247, TryzI247),
  (248, TryzI248),
  (249, TryzI249),
  (250, TryzI250),
  (251, TryzI251),
  (252, TryzI252),
  (253, TryzI253),
  (254, TryzI254),
  (255, TryzI255),
  (256, TryzI256),
  (257, TryzI257),
  (258, TryzI258),
  (259, TryzI259),
  (260, TryzI260),
  (261, TryzI261),
  (262, TryzI262),
  (263, TryzI263),
  (264, TryzI264),
  (265, TryzI265),
  (266, TryzI266),
  (267, TryzI267),
  (268, TryzI268),
  (270, TryzI270),
  (271, TryzI271),
  (272, TryzI272),
  (273, TryzI273),
  (274, TryzI274),
  (275, TryzI275),
  (276, TryzI276),
  (277, TryzI277),
  (278, TryzI278),
  (279, TryzI279),
  (280, TryzI280),
  (281, TryzI281),
  (283, TryzI283),
  (284, TryzI284),
  (285, TryzI285),
  (286, TryzI286),
  (287, TryzI287),
  (288, TryzI288),
  (289, TryzI289),
  (291, TryzI291),
  (292, TryzI292),
  (293, TryzI293),
  (294, TryzI294),
  (295, TryzI295),
  (296, TryzI296),
  (297, TryzI297),
  (298, TryzI298),
  (299, TryzI299),
  (300, TryzI300),
  (301, TryzI301),
  (302, TryzI302),
  (303, TryzI303),
  (304, TryzI304),
  (305, TryzI305),
  (306, TryzI306),
  (308, TryzI308),
  (309, TryzI309),
  (310, TryzI310),
  (311, TryzI311),
  (312, TryzI312),
  (314, TryzI314),
  (315, TryzI315),
  (316, TryzI316),
  (317, TryzI317),
  (321, TryzI321),
  (322, TryzI322),
  (323, TryzI323),
  (324, TryzI324),
  (325, TryzI325),
  (326, TryzI326),
  (327, TryzI327),
  (328, TryzI328)]
theorem Tk : TOk Tryz.prog TryzT := tok_of ⟨TryzI1_ok, TryzI2_ok, TryzI3_ok, TryzI4_ok, TryzI5_ok, TryzI6_ok, TryzI7_ok, TryzI8_ok, TryzI9_ok, TryzI10_ok, TryzI11_ok, TryzI12_ok, TryzI13_ok, TryzI14_ok, TryzI15_ok, TryzI16_ok, TryzI17_ok, TryzI18_ok, TryzI19_ok, TryzI20_ok, TryzI21_ok, TryzI22_ok, TryzI23_ok, TryzI24_ok, TryzI25_ok, TryzI26_ok, TryzI27_ok, TryzI28_ok, TryzI29_ok, TryzI30_ok, TryzI31_ok, TryzI32_ok, TryzI33_ok, TryzI34_ok, TryzI36_ok, TryzI37_ok, TryzI38_ok, TryzI39_ok, TryzI40_ok, TryzI41_ok, TryzI42_ok, TryzI43_ok, TryzI44_ok, TryzI45_ok, TryzI47_ok, TryzI48_ok, TryzI49_ok, TryzI50_ok, TryzI51_ok, TryzI52_ok, TryzI53_ok, TryzI55_ok, TryzI57_ok, TryzI58_ok, TryzI59_ok, TryzI60_ok, TryzI61_ok, TryzI62_ok, TryzI63_ok, TryzI64_ok, TryzI66_ok, TryzI67_ok, TryzI68_ok, TryzI70_ok, TryzI71_ok, TryzI72_ok, TryzI73_ok, TryzI74_ok, TryzI75_ok, TryzI76_ok, TryzI77_ok, TryzI79_ok, TryzI80_ok, TryzI81_ok, TryzI83_ok, TryzI84_ok, TryzI85_ok, TryzI86_ok, TryzI87_ok, TryzI88_ok, TryzI90_ok, TryzI91_ok, TryzI92_ok, TryzI94_ok, TryzI95_ok, TryzI97_ok, TryzI98_ok, TryzI99_ok, TryzI100_ok, TryzI101_ok, TryzI102_ok, TryzI103_ok, TryzI104_ok, TryzI105_ok, TryzI106_ok, TryzI107_ok, TryzI108_ok, TryzI109_ok, TryzI111_ok, TryzI112_ok, TryzI113_ok, TryzI114_ok, TryzI115_ok, TryzI116_ok, TryzI117_ok, TryzI118_ok, TryzI119_ok, TryzI121_ok, TryzI123_ok, TryzI124_ok, TryzI126_ok, TryzI127_ok, TryzI129_ok, TryzI130_ok, TryzI131_ok, TryzI132_ok, TryzI133_ok, TryzI134_ok, TryzI136_ok, TryzI137_ok, TryzI138_ok, TryzI139_ok, TryzI140_ok, TryzI141_ok, TryzI142_ok, TryzI144_ok, TryzI145_ok, TryzI146_ok, TryzI147_ok, TryzI148_ok, TryzI149_ok, TryzI150_ok, TryzI151_ok, TryzI152_ok, TryzI153_ok, TryzI154_ok, TryzI155_ok, TryzI157_ok, TryzI158_ok, TryzI159_ok, TryzI160_ok, TryzI161_ok, TryzI162_ok, TryzI163_ok, TryzI164_ok, TryzI165_ok, TryzI166_ok, TryzI168_ok, TryzI169_ok, TryzI170_ok, TryzI171_ok, TryzI172_ok, TryzI173_ok, TryzI174_ok, TryzI175_ok, TryzI176_ok, TryzI177_ok, TryzI178_ok, TryzI179_ok, TryzI180_ok, TryzI181_ok, TryzI182_ok, TryzI183_ok, TryzI184_ok, TryzI185_ok, TryzI186_ok, TryzI187_ok, TryzI188_ok, TryzI189_ok, TryzI190_ok, TryzI191_ok, TryzI192_ok, TryzI194_ok, TryzI195_ok, TryzI196_ok, TryzI198_ok, TryzI199_ok, TryzI201_ok, TryzI202_ok, TryzI203_ok, TryzI204_ok, TryzI205_ok, TryzI206_ok, TryzI207_ok, TryzI208_ok, TryzI210_ok, TryzI211_ok, TryzI212_ok, TryzI213_ok, TryzI214_ok, TryzI215_ok, TryzI216_ok, TryzI217_ok, TryzI218_ok, TryzI219_ok, TryzI221_ok, TryzI222_ok, TryzI223_ok, TryzI224_ok, TryzI225_ok, TryzI227_ok, TryzI228_ok, TryzI229_ok, TryzI230_ok, TryzI231_ok, TryzI232_ok, TryzI233_ok, TryzI234_ok, TryzI235_ok, TryzI236_ok, TryzI237_ok, TryzI238_ok, TryzI239_ok, TryzI240_ok, TryzI241_ok, TryzI242_ok, TryzI243_ok, TryzI244_ok, TryzI245_ok, TryzI246_ok, TryzI247_ok, TryzI248_ok, TryzI249_ok, TryzI250_ok, TryzI251_ok, TryzI252_ok, TryzI253_ok, TryzI254_ok, TryzI255_ok, TryzI256_ok, TryzI257_ok, TryzI258_ok, TryzI259_ok, TryzI260_ok, TryzI261_ok, TryzI262_ok, TryzI263_ok, TryzI264_ok, TryzI265_ok, TryzI266_ok, TryzI267_ok, TryzI268_ok, TryzI270_ok, TryzI271_ok, TryzI272_ok, TryzI273_ok, TryzI274_ok, TryzI275_ok, TryzI276_ok, TryzI277_ok, TryzI278_ok, TryzI279_ok, TryzI280_ok, TryzI281_ok, TryzI283_ok, TryzI284_ok, TryzI285_ok, TryzI286_ok, TryzI287_ok, TryzI288_ok, TryzI289_ok, TryzI291_ok, TryzI292_ok, TryzI293_ok, TryzI294_ok, TryzI295_ok, TryzI296_ok, TryzI297_ok, TryzI298_ok, TryzI299_ok, TryzI300_ok, TryzI301_ok, TryzI302_ok, TryzI303_ok, TryzI304_ok, TryzI305_ok, TryzI306_ok, TryzI308_ok, TryzI309_ok, TryzI310_ok, TryzI311_ok, TryzI312_ok, TryzI314_ok, TryzI315_ok, TryzI316_ok, TryzI317_ok, TryzI321_ok, TryzI322_ok, TryzI323_ok, TryzI324_ok, TryzI325_ok, TryzI326_ok, TryzI327_ok, TryzI328_ok, trivial⟩
end Go.AI
