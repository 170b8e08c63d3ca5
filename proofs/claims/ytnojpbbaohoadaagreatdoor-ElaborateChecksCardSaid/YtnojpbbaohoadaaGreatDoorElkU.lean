/- The layer of abstract runs, part 21. -/
import Derived.Test.YtnojpbbaohoadaaGreatDoorElkT
import Derived.Test.YtnojpbbaohoadaaGreatDoorProg
import Derived.KernelRfl
set_option linter.unusedSimpArgs false
set_option linter.unusedVariables false
set_option linter.all false
set_option maxRecDepth 20000
set_option maxHeartbeats 4000000
namespace Go.AI
open Go.Proofs
def zwr:TI:={ size:=1,bytes:=8,k:=.sc,zero:=[.nilFunc]}
def zwq:TI:={ size:=1,bytes:=8,k:=.int .i64,zero:=[.int .i64 0]}
def zwp:TI:={ size:=1,bytes:=8,k:=.int .i64,zero:=[.int .i64 0]}
def zwo:TI:={ size:=1,bytes:=1,k:=.bool,zero:=[.bool false]}
def zwn:TI:={ size:=1,bytes:=1,k:=.int .u8,zero:=[.int .u8 0]}
def zwm:TI:={ size:=1,bytes:=16,k:=.str,zero:=[.string ⟨#[]⟩]}
def zuf:TI:={ size:=1,bytes:=8,k:=.int .u64,zero:=[.int .u64 0]}
def zud:TI:={ size:=1,bytes:=4,k:=.int .i32,zero:=[.int .i32 0]}
def zuc:TI:={ size:=1,bytes:=24,k:=.slice 141,zero:=[.slice none 0 0]}
def zub:TI:={ size:=1,bytes:=24,k:=.slice 143,zero:=[.slice none 0 0]}
def zua:TI:={ size:=1,bytes:=24,k:=.slice 147,zero:=[.slice none 0 0]}
def zt9:TI:={ size:=1,bytes:=1,k:=.int .i8,zero:=[.int .i8 0]}
def zt8:TI:={ size:=4,bytes:=80,k:=.struct [(0,1,false),(1,1,false),(2,1,false),(3,1,false)],zero:=[.slice none 0 0,.slice none 0 0,.slice none 0 0,.int .i8 0]}
def zt7:TI:={ size:=4,bytes:=4,k:=.struct [(0,1,false),(1,1,false),(2,1,false),(3,1,false)],zero:=[.int .u8 0,.int .u8 0,.int .u8 0,.int .u8 0]}
def zt5:TI:={ size:=1,bytes:=24,k:=.slice 101,zero:=[.slice none 0 0]}
def zt4:TI:={ size:=1,bytes:=24,k:=.slice 87,zero:=[.slice none 0 0]}
def zt3:TI:={ size:=1,bytes:=24,k:=.slice 107,zero:=[.slice none 0 0]}
def zt2:TI:={ size:=1,bytes:=24,k:=.slice 91,zero:=[.slice none 0 0]}
def zt1:TI:={ size:=1,bytes:=24,k:=.slice 96,zero:=[.slice none 0 0]}
def zt0:TI:={ size:=7,bytes:=160,k:=.struct [(0,1,false),(1,1,false),(2,1,false),(3,1,false),(4,1,false),(5,1,false),(6,1,false)],zero:=[.string ⟨#[]⟩,.slice none 0 0,.slice none 0 0,.slice none 0 0,.slice none 0 0,.slice none 0 0,.slice none 0 0]}
def ztY:TI:={ size:=2,bytes:=16,k:=.struct [(0,1,false),(1,1,false)],zero:=[.int .i64 0,.int .i64 0],cmp:=[.int .i64,.int .i64]}
def ztX:TI:={ size:=1,bytes:=8,k:=.int .i64,zero:=[.int .i64 0]}
def ztW:TI:={ size:=1,bytes:=8,k:=.sc,zero:=[.nilFunc]}
def ztV:TI:={ size:=1,bytes:=24,k:=.slice 76,zero:=[.slice none 0 0]}
def ztU:TI:={ size:=1,bytes:=24,k:=.slice 126,zero:=[.slice none 0 0]}
def ztT:TI:={ size:=1,bytes:=24,k:=.slice 158,zero:=[.slice none 0 0]}
def ztS:TI:={ size:=5,bytes:=120,k:=.struct [(0,1,false),(1,1,false),(2,1,false),(3,1,false),(4,1,false)],zero:=[.slice none 0 0,.slice none 0 0,.slice none 0 0,.slice none 0 0,.slice none 0 0]}
def ztQ:TI:={ size:=1,bytes:=24,k:=.slice 41,zero:=[.slice none 0 0]}
def ztP:TI:={ size:=1,bytes:=24,k:=.slice 3,zero:=[.slice none 0 0]}
def ztO:TI:={ size:=1,bytes:=24,k:=.slice 115,zero:=[.slice none 0 0]}
def ztN:TI:={ size:=1,bytes:=24,k:=.slice 187,zero:=[.slice none 0 0]}
def ztM:TI:={ size:=6,bytes:=112,k:=.struct [(0,1,false),(1,1,false),(2,1,false),(3,1,false),(4,1,false),(5,1,false)],zero:=[.slice none 0 0,.int .i64 0,.int .i64 0,.slice none 0 0,.slice none 0 0,.slice none 0 0]}
def ztK:TI:={ size:=1,bytes:=24,k:=.slice 68,zero:=[.slice none 0 0]}
def ztJ:TI:={ size:=2,bytes:=32,k:=.struct [(0,1,false),(1,1,false)],zero:=[.int .i64 0,.slice none 0 0]}
def ztI:TI:={ size:=1,bytes:=24,k:=.slice 5,zero:=[.slice none 0 0]}
def ztH:TI:={ size:=1,bytes:=24,k:=.slice 129,zero:=[.slice none 0 0]}
def ztG:TI:={ size:=4,bytes:=80,k:=.struct [(0,1,false),(1,1,false),(2,1,false),(3,1,false)],zero:=[.slice none 0 0,.int .i64 0,.slice none 0 0,.slice none 0 0]}
def ztF:TI:={ size:=5,bytes:=96,k:=.struct [(0,1,false),(1,4,true)],zero:=[.string ⟨#[]⟩,.slice none 0 0,.int .i64 0,.slice none 0 0,.slice none 0 0]}
def ztE:TI:={ size:=1,bytes:=24,k:=.slice 9,zero:=[.slice none 0 0]}
def ztD:TI:={ size:=9,bytes:=176,k:=.struct [(0,1,false),(1,1,false),(2,1,false),(3,6,true)],zero:=[.string ⟨#[]⟩,.slice none 0 0,.slice none 0 0,.slice none 0 0,.int .i64 0,.int .i64 0,.slice none 0 0,.slice none 0 0,.slice none 0 0]}
def ztC:TI:={ size:=1,bytes:=24,k:=.slice 103,zero:=[.slice none 0 0]}
def ztB:TI:={ size:=2,bytes:=40,k:=.struct [(0,1,false),(1,1,false)],zero:=[.string ⟨#[]⟩,.slice none 0 0]}
def ztA:TI:={ size:=2,bytes:=24,k:=.struct [(0,1,false),(1,1,false)],zero:=[.string ⟨#[]⟩,.int .i64 0],cmp:=[.str,.int .i64]}
def ztz:TI:={ size:=1,bytes:=24,k:=.slice 93,zero:=[.slice none 0 0]}
def zty:TI:={ size:=3,bytes:=48,k:=.struct [(0,1,false),(1,1,false),(2,1,false)],zero:=[.string ⟨#[]⟩,.slice none 0 0,.int .i64 0]}
def zpe:TI:={ size:=5,bytes:=32,k:=.struct [(0,1,false),(1,1,false),(2,1,false),(3,1,false),(4,1,false)],zero:=[.string ⟨#[]⟩,.bool false,.bool false,.bool false,.int .i64 0],cmp:=[.str,.bool,.bool,.bool,.int .i64]}
def zjr:TI:={ size:=2,bytes:=32,k:=.struct [(0,1,false),(1,1,false)],zero:=[.string ⟨#[]⟩,.string ⟨#[]⟩],cmp:=[.str,.str]}
def zjq:TI:={ size:=3,bytes:=56,k:=.struct [(0,1,false),(1,1,false),(2,1,false)],zero:=[.string ⟨#[]⟩,.string ⟨#[]⟩,.slice none 0 0]}
def zpd:TI:={ size:=4,bytes:=40,k:=.struct [(0,1,false),(1,1,false),(2,1,false),(3,1,false)],zero:=[.string ⟨#[]⟩,.int .i64 0,.int .i64 0,.int .i64 0],cmp:=[.str,.int .i64,.int .i64,.int .i64]}
def zpc:TI:={ size:=1,bytes:=24,k:=.slice 131,zero:=[.slice none 0 0]}
def zpb:TI:={ size:=2,bytes:=40,k:=.struct [(0,1,false),(1,1,false)],zero:=[.string ⟨#[]⟩,.slice none 0 0]}
def zpa:TI:={ size:=3,bytes:=24,k:=.struct [(0,1,false),(1,1,false),(2,1,false)],zero:=[.int .i64 0,.int .i64 0,.int .i64 0],cmp:=[.int .i64,.int .i64,.int .i64]}
def zo9:TI:={ size:=2,bytes:=16,k:=.struct [(0,1,false),(1,1,false)],zero:=[.int .i64 0,.int .i64 0],cmp:=[.int .i64,.int .i64]}
def zo8:TI:={ size:=1,bytes:=24,k:=.slice 288,zero:=[.slice none 0 0]}
def zo7:TI:={ size:=1,bytes:=24,k:=.slice 229,zero:=[.slice none 0 0]}
def zo6:TI:={ size:=4,bytes:=56,k:=.struct [(0,1,false),(1,1,false),(2,1,false),(3,1,false)],zero:=[.int .u8 0,.int .u8 0,.slice none 0 0,.slice none 0 0]}
def zo5:TI:={ size:=3,bytes:=3,k:=.struct [(0,1,false),(1,1,false),(2,1,false)],zero:=[.int .u8 0,.int .u8 0,.bool false]}
def zo4:TI:={ size:=2,bytes:=2,k:=.struct [(0,1,false),(1,1,false)],zero:=[.int .u8 0,.int .u8 0]}
def zo3:TI:={ size:=4,bytes:=4,k:=.arr 2 146,zero:=[.int .u8 0,.int .u8 0,.int .u8 0,.int .u8 0]}
def zo2:TI:={ size:=1,bytes:=8,k:=.sc,zero:=[.nilFunc]}
def zo1:TI:={ size:=1,bytes:=24,k:=.slice 44,zero:=[.slice none 0 0]}
def zo0:TI:={ size:=1,bytes:=24,k:=.slice 62,zero:=[.slice none 0 0]}
def zoZ:TI:={ size:=1,bytes:=24,k:=.slice 160,zero:=[.slice none 0 0]}
def zoY:TI:={ size:=3,bytes:=48,k:=.struct [(0,1,false),(1,1,false),(2,1,false)],zero:=[.string ⟨#[]⟩,.slice none 0 0,.int .i64 0]}
def zoX:TI:={ size:=2,bytes:=16,k:=.struct [(0,1,false),(1,1,false)],zero:=[.int .i64 0,.int .i64 0],cmp:=[.int .i64,.int .i64]}
def zoW:TI:={ size:=1,bytes:=8,k:=.sc,zero:=[.nilFunc]}
def zoV:TI:={ size:=1,bytes:=8,k:=.sc,zero:=[.nilFunc]}
def zoU:TI:={ size:=1,bytes:=24,k:=.slice 184,zero:=[.slice none 0 0]}
def zoT:TI:={ size:=4,bytes:=48,k:=.struct [(0,1,false),(1,1,false),(2,1,false),(3,1,false)],zero:=[.int .i64 0,.int .i64 0,.int .i64 0,.slice none 0 0]}
def zoS:TI:={ size:=1,bytes:=24,k:=.slice 189,zero:=[.slice none 0 0]}
def zoR:TI:={ size:=8,bytes:=96,k:=.struct [(0,1,false),(1,1,false),(2,1,false),(3,4,true),(7,1,false)],zero:=[.int .i64 0,.int .i64 0,.int .i64 0,.int .i64 0,.int .i64 0,.int .i64 0,.slice none 0 0,.slice none 0 0]}
def zoQ:TI:={ size:=5,bytes:=56,k:=.struct [(0,1,false),(1,4,true)],zero:=[.int .i64 0,.int .i64 0,.int .i64 0,.int .i64 0,.slice none 0 0]}
def zoP:TI:={ size:=1,bytes:=8,k:=.sc,zero:=[.nilFunc]}
def zoO:TI:={ size:=1,bytes:=8,k:=.sc,zero:=[.nilFunc]}
def zoN:TI:={ size:=1,bytes:=8,k:=.sc,zero:=[.nilFunc]}
def zoM:TI:={ size:=1,bytes:=8,k:=.sc,zero:=[.nilFunc]}
def zoL:TI:={ size:=1,bytes:=8,k:=.sc,zero:=[.nilFunc]}
def zoK:TI:={ size:=1,bytes:=8,k:=.sc,zero:=[.nilFunc]}
def zoJ:TI:={ size:=1,bytes:=8,k:=.sc,zero:=[.nilFunc]}
def zoI:TI:={ size:=1,bytes:=8,k:=.sc,zero:=[.nilFunc]}
def zoH:TI:={ size:=3,bytes:=3,k:=.arr 3 5,zero:=[.int .u8 0,.int .u8 0,.int .u8 0]}
def zoG:TI:={ size:=5,bytes:=56,k:=.struct [(0,3,true),(3,1,false),(4,1,false)],zero:=[.int .u8 0,.int .u8 0,.int .u8 0,.slice none 0 0,.slice none 0 0]}
def zoF:TI:={ size:=1,bytes:=8,k:=.map 9 4,zero:=[.map none]}
def zoE:TI:={ size:=1,bytes:=24,k:=.slice 4,zero:=[.slice none 0 0]}
def zoD:TI:={ size:=1,bytes:=8,k:=.sc,zero:=[.nilFunc]}
def zoC:TI:={ size:=1,bytes:=8,k:=.sc,zero:=[.nilFunc]}
def zoB:TI:={ size:=1,bytes:=8,k:=.sc,zero:=[.nilFunc]}
def zoA:TI:={ size:=1,bytes:=8,k:=.int .u64,zero:=[.int .u64 0]}
def zoz:TI:={ size:=1,bytes:=8,k:=.ptr 187,zero:=[.pointer none]}
def zoy:TI:={ size:=1,bytes:=24,k:=.slice 124,zero:=[.slice none 0 0]}
def zox:TI:={ size:=1,bytes:=24,k:=.slice 55,zero:=[.slice none 0 0]}
def zow:TI:={ size:=1,bytes:=8,k:=.ptr 277,zero:=[.pointer none]}
def zov:TI:={ size:=2,bytes:=32,k:=.struct [(0,1,false),(1,1,false)],zero:=[.pointer none,.slice none 0 0]}
def zou:TI:={ size:=1,bytes:=16,k:=.sc,zero:=[.nilIface]}
def zot:TI:={ size:=1,bytes:=8,k:=.map 9 3,zero:=[.map none]}
def zos:TI:={ size:=2,bytes:=2,k:=.arr 2 25,zero:=[.int .i8 0,.int .i8 0]}
def zor:TI:={ size:=1,bytes:=8,k:=.ptr 291,zero:=[.pointer none]}
def zoq:TI:={ size:=3,bytes:=40,k:=.struct [(0,1,false),(1,1,false),(2,1,false)],zero:=[.slice none 0 0,.int .i64 0,.int .i64 0]}
def zop:TI:={ size:=1,bytes:=8,k:=.sc,zero:=[.nilFunc]}
def zoo:TI:={ size:=1,bytes:=8,k:=.sc,zero:=[.nilFunc]}
def zon:TI:={ size:=1,bytes:=24,k:=.slice 304,zero:=[.slice none 0 0]}
def zom:TI:={ size:=2,bytes:=32,k:=.struct [(0,1,false),(1,1,false)],zero:=[.int .i64 0,.slice none 0 0]}
def zol:TI:={ size:=1,bytes:=8,k:=.sc,zero:=[.nilFunc]}
def zok:TI:={ size:=1,bytes:=8,k:=.sc,zero:=[.nilFunc]}
def zoj:TI:={ size:=1,bytes:=8,k:=.int .i64,zero:=[.int .i64 0]}
def zoi:TI:={ size:=1,bytes:=4,k:=.int .u32,zero:=[.int .u32 0]}
def zoh:TI:={ size:=1,bytes:=8,k:=.int .u64,zero:=[.int .u64 0]}
def zog:TI:={ size:=1,bytes:=8,k:=.sc,zero:=[.nilFunc]}
def zof:TI:={ size:=24,bytes:=24,k:=.arr 24 5,zero:=[.int .u8 0,.int .u8 0,.int .u8 0,.int .u8 0,.int .u8 0,.int .u8 0,.int .u8 0,.int .u8 0,.int .u8 0,.int .u8 0,.int .u8 0,.int .u8 0,.int .u8 0,.int .u8 0,.int .u8 0,.int .u8 0,.int .u8 0,.int .u8 0,.int .u8 0,.int .u8 0,.int .u8 0,.int .u8 0,.int .u8 0,.int .u8 0]}
def zoe:TI:={ size:=1,bytes:=8,k:=.int .u64,zero:=[.int .u64 0]}
def zod:TI:={ size:=1,bytes:=8,k:=.ptr 3,zero:=[.pointer none]}
def zoc:TI:={ size:=20,bytes:=160,k:=.arr 20 321,zero:=[.int .u64 0,.int .u64 0,.int .u64 0,.int .u64 0,.int .u64 0,.int .u64 0,.int .u64 0,.int .u64 0,.int .u64 0,.int .u64 0,.int .u64 0,.int .u64 0,.int .u64 0,.int .u64 0,.int .u64 0,.int .u64 0,.int .u64 0,.int .u64 0,.int .u64 0,.int .u64 0]}
def zob:TI:={ size:=65,bytes:=65,k:=.arr 65 5,zero:=[.int .u8 0,.int .u8 0,.int .u8 0,.int .u8 0,.int .u8 0,.int .u8 0,.int .u8 0,.int .u8 0,.int .u8 0,.int .u8 0,.int .u8 0,.int .u8 0,.int .u8 0,.int .u8 0,.int .u8 0,.int .u8 0,.int .u8 0,.int .u8 0,.int .u8 0,.int .u8 0,.int .u8 0,.int .u8 0,.int .u8 0,.int .u8 0,.int .u8 0,.int .u8 0,.int .u8 0,.int .u8 0,.int .u8 0,.int .u8 0,.int .u8 0,.int .u8 0,.int .u8 0,.int .u8 0,.int .u8 0,.int .u8 0,.int .u8 0,.int .u8 0,.int .u8 0,.int .u8 0,.int .u8 0,.int .u8 0,.int .u8 0,.int .u8 0,.int .u8 0,.int .u8 0,.int .u8 0,.int .u8 0,.int .u8 0,.int .u8 0,.int .u8 0,.int .u8 0,.int .u8 0,.int .u8 0,.int .u8 0,.int .u8 0,.int .u8 0,.int .u8 0,.int .u8 0,.int .u8 0,.int .u8 0,.int .u8 0,.int .u8 0,.int .u8 0,.int .u8 0]}
def zoa:TI:={ size:=1,bytes:=8,k:=.ptr 353,zero:=[.pointer none]}
def zn9:TI:={ size:=32,bytes:=32,k:=.arr 32 5,zero:=[.int .u8 0,.int .u8 0,.int .u8 0,.int .u8 0,.int .u8 0,.int .u8 0,.int .u8 0,.int .u8 0,.int .u8 0,.int .u8 0,.int .u8 0,.int .u8 0,.int .u8 0,.int .u8 0,.int .u8 0,.int .u8 0,.int .u8 0,.int .u8 0,.int .u8 0,.int .u8 0,.int .u8 0,.int .u8 0,.int .u8 0,.int .u8 0,.int .u8 0,.int .u8 0,.int .u8 0,.int .u8 0,.int .u8 0,.int .u8 0,.int .u8 0,.int .u8 0]}
def zn8:TI:={ size:=64,bytes:=64,k:=.arr 64 5,zero:=[.int .u8 0,.int .u8 0,.int .u8 0,.int .u8 0,.int .u8 0,.int .u8 0,.int .u8 0,.int .u8 0,.int .u8 0,.int .u8 0,.int .u8 0,.int .u8 0,.int .u8 0,.int .u8 0,.int .u8 0,.int .u8 0,.int .u8 0,.int .u8 0,.int .u8 0,.int .u8 0,.int .u8 0,.int .u8 0,.int .u8 0,.int .u8 0,.int .u8 0,.int .u8 0,.int .u8 0,.int .u8 0,.int .u8 0,.int .u8 0,.int .u8 0,.int .u8 0,.int .u8 0,.int .u8 0,.int .u8 0,.int .u8 0,.int .u8 0,.int .u8 0,.int .u8 0,.int .u8 0,.int .u8 0,.int .u8 0,.int .u8 0,.int .u8 0,.int .u8 0,.int .u8 0,.int .u8 0,.int .u8 0,.int .u8 0,.int .u8 0,.int .u8 0,.int .u8 0,.int .u8 0,.int .u8 0,.int .u8 0,.int .u8 0,.int .u8 0,.int .u8 0,.int .u8 0,.int .u8 0,.int .u8 0,.int .u8 0,.int .u8 0,.int .u8 0]}
theorem zue:TIok Tryz.prog 1 zwr:=tiok Tryz.type1 rfl rfl rfl rfl (by intro h;first|rfl|cases h) ⟨_,Tryz.underlying1,(by intro x h;cases h),(by intro x y h;cases h)⟩ (by decide) rfl (by decide) (.inl rfl)
theorem zt6:TIok Tryz.prog 2 zwq:=tiok Tryz.type2 rfl rfl rfl rfl (by intro h;first|rfl|cases h) Tryz.underlying2 (by decide) rfl (by decide) (.inl rfl)
theorem ztZ:TIok Tryz.prog 3 zwp:=tiok Tryz.type3 rfl rfl rfl rfl (by intro h;first|rfl|cases h) Tryz.underlying3 (by decide) rfl (by decide) (.inl rfl)
theorem ztR:TIok Tryz.prog 4 zwo:=tiok Tryz.type4 rfl rfl rfl rfl (by intro h;first|rfl|cases h) Tryz.underlying4 (by decide) rfl (by decide) (.inl rfl)
theorem ztL:TIok Tryz.prog 5 zwn:=tiok Tryz.type5 rfl rfl rfl rfl (by intro h;first|rfl|cases h) Tryz.underlying5 (by decide) rfl (by decide) (.inl rfl)
theorem ztx:TIok Tryz.prog 9 zwm:=tiok Tryz.type9 rfl rfl rfl rfl (by intro h;first|rfl|cases h) Tryz.underlying9 (by decide) rfl (by decide) (.inl rfl)
theorem zq1:TIok Tryz.prog 12 zuf:=tiok Tryz.type12 rfl rfl rfl rfl (by intro h;first|rfl|cases h) Tryz.underlying12 (by decide) rfl (by decide) (.inl rfl)
theorem zq0:TIok Tryz.prog 21 zud:=tiok Tryz.type21 rfl rfl rfl rfl (by intro h;first|rfl|cases h) Tryz.underlying21 (by decide) rfl (by decide) (.inl rfl)
theorem zqZ:TIok Tryz.prog 22 zuc:=tiok Tryz.type22 rfl rfl rfl rfl (by intro h;first|rfl|cases h) Tryz.underlying22 (by decide) rfl (by decide) (.inl rfl)
theorem zqY:TIok Tryz.prog 23 zub:=tiok Tryz.type23 rfl rfl rfl rfl (by intro h;first|rfl|cases h) Tryz.underlying23 (by decide) rfl (by decide) (.inl rfl)
theorem zqX:TIok Tryz.prog 24 zua:=tiok Tryz.type24 rfl rfl rfl rfl (by intro h;first|rfl|cases h) Tryz.underlying24 (by decide) rfl (by decide) (.inl rfl)
theorem zqW:TIok Tryz.prog 25 zt9:=tiok Tryz.type25 rfl rfl rfl rfl (by intro h;first|rfl|cases h) Tryz.underlying25 (by decide) rfl (by decide) (.inl rfl)
theorem zqV:TIok Tryz.prog 27 zt8:=tiok Tryz.type27 rfl rfl rfl rfl (by intro h;first|rfl|cases h) (zax Tryz.underlying27 (.cons ⟨rfl,⟨_,Tryz.type22,rfl⟩,by decide,Tryz.isAgg22⟩ (.cons ⟨rfl,⟨_,Tryz.type23,rfl⟩,by decide,Tryz.isAgg23⟩ (.cons ⟨rfl,⟨_,Tryz.type24,rfl⟩,by decide,Tryz.isAgg24⟩ (.cons ⟨rfl,⟨_,Tryz.type25,rfl⟩,by decide,Tryz.isAgg25⟩ .nil))))) (by decide) rfl (by decide) (.inl rfl)
theorem zqU:TIok Tryz.prog 29 zt7:=tiok Tryz.type29 rfl rfl rfl rfl (by intro h;first|rfl|cases h) (zax Tryz.underlying29 (.cons ⟨rfl,⟨_,Tryz.type5,rfl⟩,by decide,Tryz.isAgg5⟩ (.cons ⟨rfl,⟨_,Tryz.type5,rfl⟩,by decide,Tryz.isAgg5⟩ (.cons ⟨rfl,⟨_,Tryz.type5,rfl⟩,by decide,Tryz.isAgg5⟩ (.cons ⟨rfl,⟨_,Tryz.type5,rfl⟩,by decide,Tryz.isAgg5⟩ .nil))))) (by decide) rfl (by decide) (.inl rfl)
theorem zqT:TIok Tryz.prog 31 zt5:=tiok Tryz.type31 rfl rfl rfl rfl (by intro h;first|rfl|cases h) Tryz.underlying31 (by decide) rfl (by decide) (.inl rfl)
theorem zqS:TIok Tryz.prog 32 zt4:=tiok Tryz.type32 rfl rfl rfl rfl (by intro h;first|rfl|cases h) Tryz.underlying32 (by decide) rfl (by decide) (.inl rfl)
theorem zqR:TIok Tryz.prog 33 zt3:=tiok Tryz.type33 rfl rfl rfl rfl (by intro h;first|rfl|cases h) Tryz.underlying33 (by decide) rfl (by decide) (.inl rfl)
theorem zqQ:TIok Tryz.prog 34 zt2:=tiok Tryz.type34 rfl rfl rfl rfl (by intro h;first|rfl|cases h) Tryz.underlying34 (by decide) rfl (by decide) (.inl rfl)
theorem zqP:TIok Tryz.prog 35 zt1:=tiok Tryz.type35 rfl rfl rfl rfl (by intro h;first|rfl|cases h) Tryz.underlying35 (by decide) rfl (by decide) (.inl rfl)
theorem zqO:TIok Tryz.prog 37 zt0:=tiok Tryz.type37 rfl rfl rfl rfl (by intro h;first|rfl|cases h) (zax Tryz.underlying37 (.cons ⟨rfl,⟨_,Tryz.type9,rfl⟩,by decide,Tryz.isAgg9⟩ (.cons ⟨rfl,⟨_,Tryz.type31,rfl⟩,by decide,Tryz.isAgg31⟩ (.cons ⟨rfl,⟨_,Tryz.type32,rfl⟩,by decide,Tryz.isAgg32⟩ (.cons ⟨rfl,⟨_,Tryz.type33,rfl⟩,by decide,Tryz.isAgg33⟩ (.cons ⟨rfl,⟨_,Tryz.type33,rfl⟩,by decide,Tryz.isAgg33⟩ (.cons ⟨rfl,⟨_,Tryz.type34,rfl⟩,by decide,Tryz.isAgg34⟩ (.cons ⟨rfl,⟨_,Tryz.type35,rfl⟩,by decide,Tryz.isAgg35⟩ .nil)))))))) (by decide) rfl (by decide) (.inl rfl)
theorem zqN:TIok Tryz.prog 41 ztY:=tiok Tryz.type41 rfl rfl rfl rfl (by intro h;first|rfl|cases h) (zax Tryz.underlying41 (.cons ⟨rfl,⟨_,Tryz.type3,rfl⟩,by decide,Tryz.isAgg3⟩ (.cons ⟨rfl,⟨_,Tryz.type3,rfl⟩,by decide,Tryz.isAgg3⟩ .nil))) (by decide) rfl (by decide) (.inr (.inl ⟨Tryz.underlying41,by kernel_rfl,Tryz.eqGuardType41,⟨by decide,rfl,Tryz.underlying3,⟨by decide,rfl,Tryz.underlying3,trivial⟩⟩⟩))
theorem zqM:TIok Tryz.prog 42 ztX:=tiok Tryz.type42 rfl rfl rfl rfl (by intro h;first|rfl|cases h) Tryz.underlying42 (by decide) rfl (by decide) (.inl rfl)
theorem zqL:TIok Tryz.prog 44 ztW:=tiok Tryz.type44 rfl rfl rfl rfl (by intro h;first|rfl|cases h) ⟨_,Tryz.underlying44,(by intro x h;cases h),(by intro x y h;cases h)⟩ (by decide) rfl (by decide) (.inl rfl)
theorem zqK:TIok Tryz.prog 45 ztV:=tiok Tryz.type45 rfl rfl rfl rfl (by intro h;first|rfl|cases h) Tryz.underlying45 (by decide) rfl (by decide) (.inl rfl)
theorem zqJ:TIok Tryz.prog 46 ztU:=tiok Tryz.type46 rfl rfl rfl rfl (by intro h;first|rfl|cases h) Tryz.underlying46 (by decide) rfl (by decide) (.inl rfl)
theorem zqI:TIok Tryz.prog 47 ztT:=tiok Tryz.type47 rfl rfl rfl rfl (by intro h;first|rfl|cases h) Tryz.underlying47 (by decide) rfl (by decide) (.inl rfl)
theorem zqH:TIok Tryz.prog 49 ztS:=tiok Tryz.type49 rfl rfl rfl rfl (by intro h;first|rfl|cases h) (zax Tryz.underlying49 (.cons ⟨rfl,⟨_,Tryz.type31,rfl⟩,by decide,Tryz.isAgg31⟩ (.cons ⟨rfl,⟨_,Tryz.type45,rfl⟩,by decide,Tryz.isAgg45⟩ (.cons ⟨rfl,⟨_,Tryz.type45,rfl⟩,by decide,Tryz.isAgg45⟩ (.cons ⟨rfl,⟨_,Tryz.type46,rfl⟩,by decide,Tryz.isAgg46⟩ (.cons ⟨rfl,⟨_,Tryz.type47,rfl⟩,by decide,Tryz.isAgg47⟩ .nil)))))) (by decide) rfl (by decide) (.inl rfl)
theorem zqG:TIok Tryz.prog 52 ztQ:=tiok Tryz.type52 rfl rfl rfl rfl (by intro h;first|rfl|cases h) Tryz.underlying52 (by decide) rfl (by decide) (.inl rfl)
theorem zqF:TIok Tryz.prog 55 ztP:=tiok Tryz.type55 rfl rfl rfl rfl (by intro h;first|rfl|cases h) Tryz.underlying55 (by decide) rfl (by decide) (.inl rfl)
theorem zqE:TIok Tryz.prog 56 ztO:=tiok Tryz.type56 rfl rfl rfl rfl (by intro h;first|rfl|cases h) Tryz.underlying56 (by decide) rfl (by decide) (.inl rfl)
theorem zqD:TIok Tryz.prog 57 ztN:=tiok Tryz.type57 rfl rfl rfl rfl (by intro h;first|rfl|cases h) Tryz.underlying57 (by decide) rfl (by decide) (.inl rfl)
theorem zqC:TIok Tryz.prog 59 ztM:=tiok Tryz.type59 rfl rfl rfl rfl (by intro h;first|rfl|cases h) (zax Tryz.underlying59 (.cons ⟨rfl,⟨_,Tryz.type55,rfl⟩,by decide,Tryz.isAgg55⟩ (.cons ⟨rfl,⟨_,Tryz.type3,rfl⟩,by decide,Tryz.isAgg3⟩ (.cons ⟨rfl,⟨_,Tryz.type3,rfl⟩,by decide,Tryz.isAgg3⟩ (.cons ⟨rfl,⟨_,Tryz.type55,rfl⟩,by decide,Tryz.isAgg55⟩ (.cons ⟨rfl,⟨_,Tryz.type56,rfl⟩,by decide,Tryz.isAgg56⟩ (.cons ⟨rfl,⟨_,Tryz.type57,rfl⟩,by decide,Tryz.isAgg57⟩ .nil))))))) (by decide) rfl (by decide) (.inl rfl)
theorem zqB:TIok Tryz.prog 62 ztK:=tiok Tryz.type62 rfl rfl rfl rfl (by intro h;first|rfl|cases h) Tryz.underlying62 (by decide) rfl (by decide) (.inl rfl)
theorem zqA:TIok Tryz.prog 68 ztJ:=tiok Tryz.type68 rfl rfl rfl rfl (by intro h;first|rfl|cases h) (zax Tryz.underlying68 (.cons ⟨rfl,⟨_,Tryz.type3,rfl⟩,by decide,Tryz.isAgg3⟩ (.cons ⟨rfl,⟨_,Tryz.type55,rfl⟩,by decide,Tryz.isAgg55⟩ .nil))) (by decide) rfl (by decide) (.inl rfl)
theorem zqz:TIok Tryz.prog 71 ztI:=tiok Tryz.type71 rfl rfl rfl rfl (by intro h;first|rfl|cases h) Tryz.underlying71 (by decide) rfl (by decide) (.inl rfl)
theorem zqy:TIok Tryz.prog 72 ztH:=tiok Tryz.type72 rfl rfl rfl rfl (by intro h;first|rfl|cases h) Tryz.underlying72 (by decide) rfl (by decide) (.inl rfl)
theorem zqx:TIok Tryz.prog 74 ztG:=tiok Tryz.type74 rfl rfl rfl rfl (by intro h;first|rfl|cases h) (zax Tryz.underlying74 (.cons ⟨rfl,⟨_,Tryz.type55,rfl⟩,by decide,Tryz.isAgg55⟩ (.cons ⟨rfl,⟨_,Tryz.type3,rfl⟩,by decide,Tryz.isAgg3⟩ (.cons ⟨rfl,⟨_,Tryz.type55,rfl⟩,by decide,Tryz.isAgg55⟩ (.cons ⟨rfl,⟨_,Tryz.type72,rfl⟩,by decide,Tryz.isAgg72⟩ .nil))))) (by decide) rfl (by decide) (.inl rfl)
theorem zqw:TIok Tryz.prog 76 ztF:=tiok Tryz.type76 rfl rfl rfl rfl (by intro h;first|rfl|cases h) (zax Tryz.underlying76 (.cons ⟨rfl,⟨_,Tryz.type9,rfl⟩,by decide,Tryz.isAgg9⟩ (.cons ⟨rfl,⟨_,Tryz.type74,rfl⟩,by decide,Tryz.isAgg74⟩ .nil))) (by decide) rfl (by decide) (.inl rfl)
theorem zqv:TIok Tryz.prog 85 ztE:=tiok Tryz.type85 rfl rfl rfl rfl (by intro h;first|rfl|cases h) Tryz.underlying85 (by decide) rfl (by decide) (.inl rfl)
theorem zqu:TIok Tryz.prog 87 ztD:=tiok Tryz.type87 rfl rfl rfl rfl (by intro h;first|rfl|cases h) (zax Tryz.underlying87 (.cons ⟨rfl,⟨_,Tryz.type9,rfl⟩,by decide,Tryz.isAgg9⟩ (.cons ⟨rfl,⟨_,Tryz.type85,rfl⟩,by decide,Tryz.isAgg85⟩ (.cons ⟨rfl,⟨_,Tryz.type85,rfl⟩,by decide,Tryz.isAgg85⟩ (.cons ⟨rfl,⟨_,Tryz.type59,rfl⟩,by decide,Tryz.isAgg59⟩ .nil))))) (by decide) rfl (by decide) (.inl rfl)
theorem zqt:TIok Tryz.prog 89 ztC:=tiok Tryz.type89 rfl rfl rfl rfl (by intro h;first|rfl|cases h) Tryz.underlying89 (by decide) rfl (by decide) (.inl rfl)
theorem zqs:TIok Tryz.prog 91 ztB:=tiok Tryz.type91 rfl rfl rfl rfl (by intro h;first|rfl|cases h) (zax Tryz.underlying91 (.cons ⟨rfl,⟨_,Tryz.type9,rfl⟩,by decide,Tryz.isAgg9⟩ (.cons ⟨rfl,⟨_,Tryz.type89,rfl⟩,by decide,Tryz.isAgg89⟩ .nil))) (by decide) rfl (by decide) (.inl rfl)
theorem zqr:TIok Tryz.prog 93 ztA:=tiok Tryz.type93 rfl rfl rfl rfl (by intro h;first|rfl|cases h) (zax Tryz.underlying93 (.cons ⟨rfl,⟨_,Tryz.type9,rfl⟩,by decide,Tryz.isAgg9⟩ (.cons ⟨rfl,⟨_,Tryz.type3,rfl⟩,by decide,Tryz.isAgg3⟩ .nil))) (by decide) rfl (by decide) (.inr (.inl ⟨Tryz.underlying93,by kernel_rfl,Tryz.eqGuardType93,⟨by decide,rfl,Tryz.underlying9,⟨by decide,rfl,Tryz.underlying3,trivial⟩⟩⟩))
theorem zqq:TIok Tryz.prog 94 ztz:=tiok Tryz.type94 rfl rfl rfl rfl (by intro h;first|rfl|cases h) Tryz.underlying94 (by decide) rfl (by decide) (.inl rfl)
theorem zqp:TIok Tryz.prog 96 zty:=tiok Tryz.type96 rfl rfl rfl rfl (by intro h;first|rfl|cases h) (zax Tryz.underlying96 (.cons ⟨rfl,⟨_,Tryz.type9,rfl⟩,by decide,Tryz.isAgg9⟩ (.cons ⟨rfl,⟨_,Tryz.type94,rfl⟩,by decide,Tryz.isAgg94⟩ (.cons ⟨rfl,⟨_,Tryz.type3,rfl⟩,by decide,Tryz.isAgg3⟩ .nil)))) (by decide) rfl (by decide) (.inl rfl)
theorem znb:TIok Tryz.prog 101 zpe:=tiok Tryz.type101 rfl rfl rfl rfl (by intro h;first|rfl|cases h) (zax Tryz.underlying101 (.cons ⟨rfl,⟨_,Tryz.type9,rfl⟩,by decide,Tryz.isAgg9⟩ (.cons ⟨rfl,⟨_,Tryz.type4,rfl⟩,by decide,Tryz.isAgg4⟩ (.cons ⟨rfl,⟨_,Tryz.type4,rfl⟩,by decide,Tryz.isAgg4⟩ (.cons ⟨rfl,⟨_,Tryz.type4,rfl⟩,by decide,Tryz.isAgg4⟩ (.cons ⟨rfl,⟨_,Tryz.type3,rfl⟩,by decide,Tryz.isAgg3⟩ .nil)))))) (by decide) rfl (by decide) (.inr (.inl ⟨Tryz.underlying101,by kernel_rfl,Tryz.eqGuardType101,⟨by decide,rfl,Tryz.underlying9,⟨by decide,rfl,Tryz.underlying4,⟨by decide,rfl,Tryz.underlying4,⟨by decide,rfl,Tryz.underlying4,⟨by decide,rfl,Tryz.underlying3,trivial⟩⟩⟩⟩⟩⟩))
theorem zna:TIok Tryz.prog 103 zjr:=tiok Tryz.type103 rfl rfl rfl rfl (by intro h;first|rfl|cases h) (zax Tryz.underlying103 (.cons ⟨rfl,⟨_,Tryz.type9,rfl⟩,by decide,Tryz.isAgg9⟩ (.cons ⟨rfl,⟨_,Tryz.type9,rfl⟩,by decide,Tryz.isAgg9⟩ .nil))) (by decide) rfl (by decide) (.inr (.inl ⟨Tryz.underlying103,by kernel_rfl,Tryz.eqGuardType103,⟨by decide,rfl,Tryz.underlying9,⟨by decide,rfl,Tryz.underlying9,trivial⟩⟩⟩))
theorem zm9:TIok Tryz.prog 107 zjq:=tiok Tryz.type107 rfl rfl rfl rfl (by intro h;first|rfl|cases h) (zax Tryz.underlying107 (.cons ⟨rfl,⟨_,Tryz.type9,rfl⟩,by decide,Tryz.isAgg9⟩ (.cons ⟨rfl,⟨_,Tryz.type9,rfl⟩,by decide,Tryz.isAgg9⟩ (.cons ⟨rfl,⟨_,Tryz.type85,rfl⟩,by decide,Tryz.isAgg85⟩ .nil)))) (by decide) rfl (by decide) (.inl rfl)
theorem zm8:TIok Tryz.prog 115 zpd:=tiok Tryz.type115 rfl rfl rfl rfl (by intro h;first|rfl|cases h) (zax Tryz.underlying115 (.cons ⟨rfl,⟨_,Tryz.type9,rfl⟩,by decide,Tryz.isAgg9⟩ (.cons ⟨rfl,⟨_,Tryz.type3,rfl⟩,by decide,Tryz.isAgg3⟩ (.cons ⟨rfl,⟨_,Tryz.type3,rfl⟩,by decide,Tryz.isAgg3⟩ (.cons ⟨rfl,⟨_,Tryz.type3,rfl⟩,by decide,Tryz.isAgg3⟩ .nil))))) (by decide) rfl (by decide) (.inr (.inl ⟨Tryz.underlying115,by kernel_rfl,Tryz.eqGuardType115,⟨by decide,rfl,Tryz.underlying9,⟨by decide,rfl,Tryz.underlying3,⟨by decide,rfl,Tryz.underlying3,⟨by decide,rfl,Tryz.underlying3,trivial⟩⟩⟩⟩⟩))
theorem zm7:TIok Tryz.prog 124 zpc:=tiok Tryz.type124 rfl rfl rfl rfl (by intro h;first|rfl|cases h) Tryz.underlying124 (by decide) rfl (by decide) (.inl rfl)
theorem zm6:TIok Tryz.prog 126 zpb:=tiok Tryz.type126 rfl rfl rfl rfl (by intro h;first|rfl|cases h) (zax Tryz.underlying126 (.cons ⟨rfl,⟨_,Tryz.type9,rfl⟩,by decide,Tryz.isAgg9⟩ (.cons ⟨rfl,⟨_,Tryz.type124,rfl⟩,by decide,Tryz.isAgg124⟩ .nil))) (by decide) rfl (by decide) (.inl rfl)
theorem zm5:TIok Tryz.prog 129 zpa:=tiok Tryz.type129 rfl rfl rfl rfl (by intro h;first|rfl|cases h) (zax Tryz.underlying129 (.cons ⟨rfl,⟨_,Tryz.type3,rfl⟩,by decide,Tryz.isAgg3⟩ (.cons ⟨rfl,⟨_,Tryz.type3,rfl⟩,by decide,Tryz.isAgg3⟩ (.cons ⟨rfl,⟨_,Tryz.type3,rfl⟩,by decide,Tryz.isAgg3⟩ .nil)))) (by decide) rfl (by decide) (.inr (.inl ⟨Tryz.underlying129,by kernel_rfl,Tryz.eqGuardType129,⟨by decide,rfl,Tryz.underlying3,⟨by decide,rfl,Tryz.underlying3,⟨by decide,rfl,Tryz.underlying3,trivial⟩⟩⟩⟩))
theorem zm4:TIok Tryz.prog 131 zo9:=tiok Tryz.type131 rfl rfl rfl rfl (by intro h;first|rfl|cases h) (zax Tryz.underlying131 (.cons ⟨rfl,⟨_,Tryz.type3,rfl⟩,by decide,Tryz.isAgg3⟩ (.cons ⟨rfl,⟨_,Tryz.type3,rfl⟩,by decide,Tryz.isAgg3⟩ .nil))) (by decide) rfl (by decide) (.inr (.inl ⟨Tryz.underlying131,by kernel_rfl,Tryz.eqGuardType131,⟨by decide,rfl,Tryz.underlying3,⟨by decide,rfl,Tryz.underlying3,trivial⟩⟩⟩))
theorem zm3:TIok Tryz.prog 138 zo8:=tiok Tryz.type138 rfl rfl rfl rfl (by intro h;first|rfl|cases h) Tryz.underlying138 (by decide) rfl (by decide) (.inl rfl)
theorem zm2:TIok Tryz.prog 139 zo7:=tiok Tryz.type139 rfl rfl rfl rfl (by intro h;first|rfl|cases h) Tryz.underlying139 (by decide) rfl (by decide) (.inl rfl)
theorem zm1:TIok Tryz.prog 141 zo6:=tiok Tryz.type141 rfl rfl rfl rfl (by intro h;first|rfl|cases h) (zax Tryz.underlying141 (.cons ⟨rfl,⟨_,Tryz.type5,rfl⟩,by decide,Tryz.isAgg5⟩ (.cons ⟨rfl,⟨_,Tryz.type5,rfl⟩,by decide,Tryz.isAgg5⟩ (.cons ⟨rfl,⟨_,Tryz.type138,rfl⟩,by decide,Tryz.isAgg138⟩ (.cons ⟨rfl,⟨_,Tryz.type139,rfl⟩,by decide,Tryz.isAgg139⟩ .nil))))) (by decide) rfl (by decide) (.inl rfl)
theorem zm0:TIok Tryz.prog 143 zo5:=tiok Tryz.type143 rfl rfl rfl rfl (by intro h;first|rfl|cases h) (zax Tryz.underlying143 (.cons ⟨rfl,⟨_,Tryz.type5,rfl⟩,by decide,Tryz.isAgg5⟩ (.cons ⟨rfl,⟨_,Tryz.type5,rfl⟩,by decide,Tryz.isAgg5⟩ (.cons ⟨rfl,⟨_,Tryz.type4,rfl⟩,by decide,Tryz.isAgg4⟩ .nil)))) (by decide) rfl (by decide) (.inl rfl)
theorem zmZ:TIok Tryz.prog 146 zo4:=tiok Tryz.type146 rfl rfl rfl rfl (by intro h;first|rfl|cases h) (zax Tryz.underlying146 (.cons ⟨rfl,⟨_,Tryz.type5,rfl⟩,by decide,Tryz.isAgg5⟩ (.cons ⟨rfl,⟨_,Tryz.type5,rfl⟩,by decide,Tryz.isAgg5⟩ .nil))) (by decide) rfl (by decide) (.inl rfl)
theorem zmY:TIok Tryz.prog 147 zo3:=tiok Tryz.type147 rfl rfl rfl rfl (by intro h;first|rfl|cases h) Tryz.underlying147 (by decide) rfl (by decide) (.inl rfl)
theorem zmX:TIok Tryz.prog 148 zo2:=tiok Tryz.type148 rfl rfl rfl rfl (by intro h;first|rfl|cases h) ⟨_,Tryz.underlying148,(by intro x h;cases h),(by intro x y h;cases h)⟩ (by decide) rfl (by decide) (.inl rfl)
theorem zmW:TIok Tryz.prog 150 zo1:=tiok Tryz.type150 rfl rfl rfl rfl (by intro h;first|rfl|cases h) Tryz.underlying150 (by decide) rfl (by decide) (.inl rfl)
theorem zmV:TIok Tryz.prog 153 zo0:=tiok Tryz.type153 rfl rfl rfl rfl (by intro h;first|rfl|cases h) Tryz.underlying153 (by decide) rfl (by decide) (.inl rfl)
theorem zmU:TIok Tryz.prog 156 zoZ:=tiok Tryz.type156 rfl rfl rfl rfl (by intro h;first|rfl|cases h) Tryz.underlying156 (by decide) rfl (by decide) (.inl rfl)
theorem zmT:TIok Tryz.prog 158 zoY:=tiok Tryz.type158 rfl rfl rfl rfl (by intro h;first|rfl|cases h) (zax Tryz.underlying158 (.cons ⟨rfl,⟨_,Tryz.type9,rfl⟩,by decide,Tryz.isAgg9⟩ (.cons ⟨rfl,⟨_,Tryz.type156,rfl⟩,by decide,Tryz.isAgg156⟩ (.cons ⟨rfl,⟨_,Tryz.type3,rfl⟩,by decide,Tryz.isAgg3⟩ .nil)))) (by decide) rfl (by decide) (.inl rfl)
theorem zmS:TIok Tryz.prog 160 zoX:=tiok Tryz.type160 rfl rfl rfl rfl (by intro h;first|rfl|cases h) (zax Tryz.underlying160 (.cons ⟨rfl,⟨_,Tryz.type3,rfl⟩,by decide,Tryz.isAgg3⟩ (.cons ⟨rfl,⟨_,Tryz.type3,rfl⟩,by decide,Tryz.isAgg3⟩ .nil))) (by decide) rfl (by decide) (.inr (.inl ⟨Tryz.underlying160,by kernel_rfl,Tryz.eqGuardType160,⟨by decide,rfl,Tryz.underlying3,⟨by decide,rfl,Tryz.underlying3,trivial⟩⟩⟩))
theorem zmR:TIok Tryz.prog 163 zoW:=tiok Tryz.type163 rfl rfl rfl rfl (by intro h;first|rfl|cases h) ⟨_,Tryz.underlying163,(by intro x h;cases h),(by intro x y h;cases h)⟩ (by decide) rfl (by decide) (.inl rfl)
theorem zmQ:TIok Tryz.prog 179 zoV:=tiok Tryz.type179 rfl rfl rfl rfl (by intro h;first|rfl|cases h) ⟨_,Tryz.underlying179,(by intro x h;cases h),(by intro x y h;cases h)⟩ (by decide) rfl (by decide) (.inl rfl)
theorem zmP:TIok Tryz.prog 182 zoU:=tiok Tryz.type182 rfl rfl rfl rfl (by intro h;first|rfl|cases h) Tryz.underlying182 (by decide) rfl (by decide) (.inl rfl)
theorem zmO:TIok Tryz.prog 184 zoT:=tiok Tryz.type184 rfl rfl rfl rfl (by intro h;first|rfl|cases h) (zax Tryz.underlying184 (.cons ⟨rfl,⟨_,Tryz.type3,rfl⟩,by decide,Tryz.isAgg3⟩ (.cons ⟨rfl,⟨_,Tryz.type3,rfl⟩,by decide,Tryz.isAgg3⟩ (.cons ⟨rfl,⟨_,Tryz.type3,rfl⟩,by decide,Tryz.isAgg3⟩ (.cons ⟨rfl,⟨_,Tryz.type182,rfl⟩,by decide,Tryz.isAgg182⟩ .nil))))) (by decide) rfl (by decide) (.inl rfl)
theorem zmN:TIok Tryz.prog 185 zoS:=tiok Tryz.type185 rfl rfl rfl rfl (by intro h;first|rfl|cases h) Tryz.underlying185 (by decide) rfl (by decide) (.inl rfl)
theorem zmM:TIok Tryz.prog 187 zoR:=tiok Tryz.type187 rfl rfl rfl rfl (by intro h;first|rfl|cases h) (zax Tryz.underlying187 (.cons ⟨rfl,⟨_,Tryz.type3,rfl⟩,by decide,Tryz.isAgg3⟩ (.cons ⟨rfl,⟨_,Tryz.type3,rfl⟩,by decide,Tryz.isAgg3⟩ (.cons ⟨rfl,⟨_,Tryz.type3,rfl⟩,by decide,Tryz.isAgg3⟩ (.cons ⟨rfl,⟨_,Tryz.type184,rfl⟩,by decide,Tryz.isAgg184⟩ (.cons ⟨rfl,⟨_,Tryz.type185,rfl⟩,by decide,Tryz.isAgg185⟩ .nil)))))) (by decide) rfl (by decide) (.inl rfl)
theorem zmL:TIok Tryz.prog 189 zoQ:=tiok Tryz.type189 rfl rfl rfl rfl (by intro h;first|rfl|cases h) (zax Tryz.underlying189 (.cons ⟨rfl,⟨_,Tryz.type3,rfl⟩,by decide,Tryz.isAgg3⟩ (.cons ⟨rfl,⟨_,Tryz.type184,rfl⟩,by decide,Tryz.isAgg184⟩ .nil))) (by decide) rfl (by decide) (.inl rfl)
theorem zmK:TIok Tryz.prog 195 zoP:=tiok Tryz.type195 rfl rfl rfl rfl (by intro h;first|rfl|cases h) ⟨_,Tryz.underlying195,(by intro x h;cases h),(by intro x y h;cases h)⟩ (by decide) rfl (by decide) (.inl rfl)
theorem zmJ:TIok Tryz.prog 196 zoO:=tiok Tryz.type196 rfl rfl rfl rfl (by intro h;first|rfl|cases h) ⟨_,Tryz.underlying196,(by intro x h;cases h),(by intro x y h;cases h)⟩ (by decide) rfl (by decide) (.inl rfl)
theorem zmI:TIok Tryz.prog 197 zoN:=tiok Tryz.type197 rfl rfl rfl rfl (by intro h;first|rfl|cases h) ⟨_,Tryz.underlying197,(by intro x h;cases h),(by intro x y h;cases h)⟩ (by decide) rfl (by decide) (.inl rfl)
theorem zmH:TIok Tryz.prog 216 zoM:=tiok Tryz.type216 rfl rfl rfl rfl (by intro h;first|rfl|cases h) ⟨_,Tryz.underlying216,(by intro x h;cases h),(by intro x y h;cases h)⟩ (by decide) rfl (by decide) (.inl rfl)
theorem zmG:TIok Tryz.prog 218 zoL:=tiok Tryz.type218 rfl rfl rfl rfl (by intro h;first|rfl|cases h) ⟨_,Tryz.underlying218,(by intro x h;cases h),(by intro x y h;cases h)⟩ (by decide) rfl (by decide) (.inl rfl)
theorem zmF:TIok Tryz.prog 220 zoK:=tiok Tryz.type220 rfl rfl rfl rfl (by intro h;first|rfl|cases h) ⟨_,Tryz.underlying220,(by intro x h;cases h),(by intro x y h;cases h)⟩ (by decide) rfl (by decide) (.inl rfl)
theorem zmE:TIok Tryz.prog 222 zoJ:=tiok Tryz.type222 rfl rfl rfl rfl (by intro h;first|rfl|cases h) ⟨_,Tryz.underlying222,(by intro x h;cases h),(by intro x y h;cases h)⟩ (by decide) rfl (by decide) (.inl rfl)
theorem zmD:TIok Tryz.prog 224 zoI:=tiok Tryz.type224 rfl rfl rfl rfl (by intro h;first|rfl|cases h) ⟨_,Tryz.underlying224,(by intro x h;cases h),(by intro x y h;cases h)⟩ (by decide) rfl (by decide) (.inl rfl)
theorem zmC:TIok Tryz.prog 227 zoH:=tiok Tryz.type227 rfl rfl rfl rfl (by intro h;first|rfl|cases h) Tryz.underlying227 (by decide) rfl (by decide) (.inl rfl)
theorem zmB:TIok Tryz.prog 229 zoG:=tiok Tryz.type229 rfl rfl rfl rfl (by intro h;first|rfl|cases h) (zax Tryz.underlying229 (.cons ⟨rfl,⟨_,Tryz.type227,rfl⟩,by decide,Tryz.isAgg227⟩ (.cons ⟨rfl,⟨_,Tryz.type71,rfl⟩,by decide,Tryz.isAgg71⟩ (.cons ⟨rfl,⟨_,Tryz.type71,rfl⟩,by decide,Tryz.isAgg71⟩ .nil)))) (by decide) rfl (by decide) (.inl rfl)
theorem zmA:TIok Tryz.prog 232 zoF:=tiok Tryz.type232 rfl rfl rfl rfl (by intro h;first|rfl|cases h) Tryz.underlying232 (by decide) rfl (by decide) (.inl rfl)
theorem zmz:TIok Tryz.prog 241 zoE:=tiok Tryz.type241 rfl rfl rfl rfl (by intro h;first|rfl|cases h) Tryz.underlying241 (by decide) rfl (by decide) (.inl rfl)
theorem zmy:TIok Tryz.prog 246 zoD:=tiok Tryz.type246 rfl rfl rfl rfl (by intro h;first|rfl|cases h) ⟨_,Tryz.underlying246,(by intro x h;cases h),(by intro x y h;cases h)⟩ (by decide) rfl (by decide) (.inl rfl)
theorem zmx:TIok Tryz.prog 250 zoC:=tiok Tryz.type250 rfl rfl rfl rfl (by intro h;first|rfl|cases h) ⟨_,Tryz.underlying250,(by intro x h;cases h),(by intro x y h;cases h)⟩ (by decide) rfl (by decide) (.inl rfl)
theorem zmw:TIok Tryz.prog 254 zoB:=tiok Tryz.type254 rfl rfl rfl rfl (by intro h;first|rfl|cases h) ⟨_,Tryz.underlying254,(by intro x h;cases h),(by intro x y h;cases h)⟩ (by decide) rfl (by decide) (.inl rfl)
theorem zmv:TIok Tryz.prog 257 zoA:=tiok Tryz.type257 rfl rfl rfl rfl (by intro h;first|rfl|cases h) Tryz.underlying257 (by decide) rfl (by decide) (.inl rfl)
theorem zmu:TIok Tryz.prog 263 zoz:=tiok Tryz.type263 rfl rfl rfl rfl (by intro h;first|rfl|cases h) Tryz.underlying263 (by decide) rfl (by decide) (.inl rfl)
theorem zmt:TIok Tryz.prog 273 zoy:=tiok Tryz.type273 rfl rfl rfl rfl (by intro h;first|rfl|cases h) Tryz.underlying273 (by decide) rfl (by decide) (.inl rfl)
theorem zms:TIok Tryz.prog 274 zox:=tiok Tryz.type274 rfl rfl rfl rfl (by intro h;first|rfl|cases h) Tryz.underlying274 (by decide) rfl (by decide) (.inl rfl)
theorem zmr:TIok Tryz.prog 275 zow:=tiok Tryz.type275 rfl rfl rfl rfl (by intro h;first|rfl|cases h) Tryz.underlying275 (by decide) rfl (by decide) (.inl rfl)
theorem zmq:TIok Tryz.prog 277 zov:=tiok Tryz.type277 rfl rfl rfl rfl (by intro h;first|rfl|cases h) (zax Tryz.underlying277 (.cons ⟨rfl,⟨_,Tryz.type275,rfl⟩,by decide,Tryz.isAgg275⟩ (.cons ⟨rfl,⟨_,Tryz.type71,rfl⟩,by decide,Tryz.isAgg71⟩ .nil))) (by decide) rfl (by decide) (.inl rfl)
theorem zmp:TIok Tryz.prog 279 zou:=tiok Tryz.type279 rfl rfl rfl rfl (by intro h;first|rfl|cases h) ⟨_,Tryz.underlying279,(by intro x h;cases h),(by intro x y h;cases h)⟩ (by decide) rfl (by decide) (.inl rfl)
theorem zmo:TIok Tryz.prog 284 zot:=tiok Tryz.type284 rfl rfl rfl rfl (by intro h;first|rfl|cases h) Tryz.underlying284 (by decide) rfl (by decide) (.inl rfl)
theorem zmn:TIok Tryz.prog 288 zos:=tiok Tryz.type288 rfl rfl rfl rfl (by intro h;first|rfl|cases h) Tryz.underlying288 (by decide) rfl (by decide) (.inl rfl)
theorem zmm:TIok Tryz.prog 289 zor:=tiok Tryz.type289 rfl rfl rfl rfl (by intro h;first|rfl|cases h) Tryz.underlying289 (by decide) rfl (by decide) (.inl rfl)
theorem zml:TIok Tryz.prog 291 zoq:=tiok Tryz.type291 rfl rfl rfl rfl (by intro h;first|rfl|cases h) (zax Tryz.underlying291 (.cons ⟨rfl,⟨_,Tryz.type71,rfl⟩,by decide,Tryz.isAgg71⟩ (.cons ⟨rfl,⟨_,Tryz.type3,rfl⟩,by decide,Tryz.isAgg3⟩ (.cons ⟨rfl,⟨_,Tryz.type3,rfl⟩,by decide,Tryz.isAgg3⟩ .nil)))) (by decide) rfl (by decide) (.inl rfl)
theorem zmk:TIok Tryz.prog 295 zop:=tiok Tryz.type295 rfl rfl rfl rfl (by intro h;first|rfl|cases h) ⟨_,Tryz.underlying295,(by intro x h;cases h),(by intro x y h;cases h)⟩ (by decide) rfl (by decide) (.inl rfl)
theorem zmj:TIok Tryz.prog 298 zoo:=tiok Tryz.type298 rfl rfl rfl rfl (by intro h;first|rfl|cases h) ⟨_,Tryz.underlying298,(by intro x h;cases h),(by intro x y h;cases h)⟩ (by decide) rfl (by decide) (.inl rfl)
theorem zmi:TIok Tryz.prog 301 zon:=tiok Tryz.type301 rfl rfl rfl rfl (by intro h;first|rfl|cases h) Tryz.underlying301 (by decide) rfl (by decide) (.inl rfl)
theorem zmh:TIok Tryz.prog 304 zom:=tiok Tryz.type304 rfl rfl rfl rfl (by intro h;first|rfl|cases h) (zax Tryz.underlying304 (.cons ⟨rfl,⟨_,Tryz.type3,rfl⟩,by decide,Tryz.isAgg3⟩ (.cons ⟨rfl,⟨_,Tryz.type55,rfl⟩,by decide,Tryz.isAgg55⟩ .nil))) (by decide) rfl (by decide) (.inl rfl)
theorem zmg:TIok Tryz.prog 306 zol:=tiok Tryz.type306 rfl rfl rfl rfl (by intro h;first|rfl|cases h) ⟨_,Tryz.underlying306,(by intro x h;cases h),(by intro x y h;cases h)⟩ (by decide) rfl (by decide) (.inl rfl)
theorem zmf:TIok Tryz.prog 308 zok:=tiok Tryz.type308 rfl rfl rfl rfl (by intro h;first|rfl|cases h) ⟨_,Tryz.underlying308,(by intro x h;cases h),(by intro x y h;cases h)⟩ (by decide) rfl (by decide) (.inl rfl)
theorem zme:TIok Tryz.prog 312 zoj:=tiok Tryz.type312 rfl rfl rfl rfl (by intro h;first|rfl|cases h) Tryz.underlying312 (by decide) rfl (by decide) (.inl rfl)
theorem zmd:TIok Tryz.prog 319 zoi:=tiok Tryz.type319 rfl rfl rfl rfl (by intro h;first|rfl|cases h) Tryz.underlying319 (by decide) rfl (by decide) (.inl rfl)
theorem zmc:TIok Tryz.prog 321 zoh:=tiok Tryz.type321 rfl rfl rfl rfl (by intro h;first|rfl|cases h) Tryz.underlying321 (by decide) rfl (by decide) (.inl rfl)
theorem zmb:TIok Tryz.prog 328 zog:=tiok Tryz.type328 rfl rfl rfl rfl (by intro h;first|rfl|cases h) ⟨_,Tryz.underlying328,(by intro x h;cases h),(by intro x y h;cases h)⟩ (by decide) rfl (by decide) (.inl rfl)
theorem zma:TIok Tryz.prog 336 zof:=tiok Tryz.type336 rfl rfl rfl rfl (by intro h;first|rfl|cases h) Tryz.underlying336 (by decide) rfl (by decide) (.inl rfl)
theorem zl9:TIok Tryz.prog 353 zoe:=tiok Tryz.type353 rfl rfl rfl rfl (by intro h;first|rfl|cases h) Tryz.underlying353 (by decide) rfl (by decide) (.inl rfl)
theorem zl8:TIok Tryz.prog 357 zod:=tiok Tryz.type357 rfl rfl rfl rfl (by intro h;first|rfl|cases h) Tryz.underlying357 (by decide) rfl (by decide) (.inl rfl)
theorem zl7:TIok Tryz.prog 369 zoc:=tiok Tryz.type369 rfl rfl rfl rfl (by intro h;first|rfl|cases h) Tryz.underlying369 (by decide) rfl (by decide) (.inl rfl)
theorem zl6:TIok Tryz.prog 370 zob:=tiok Tryz.type370 rfl rfl rfl rfl (by intro h;first|rfl|cases h) Tryz.underlying370 (by decide) rfl (by decide) (.inl rfl)
theorem zl5:TIok Tryz.prog 384 zoa:=tiok Tryz.type384 rfl rfl rfl rfl (by intro h;first|rfl|cases h) Tryz.underlying384 (by decide) rfl (by decide) (.inl rfl)
theorem zl4:TIok Tryz.prog 392 zn9:=tiok Tryz.type392 rfl rfl rfl rfl (by intro h;first|rfl|cases h) Tryz.underlying392 (by decide) rfl (by decide) (.inl rfl)
theorem zl3:TIok Tryz.prog 393 zn8:=tiok Tryz.type393 rfl rfl rfl rfl (by intro h;first|rfl|cases h) Tryz.underlying393 (by decide) rfl (by decide) (.inl rfl)
def zvU:TT:=[
 (1,zwr),
 (2,zwq),
 (3,zwp),
 (4,zwo),
 (5,zwn),
 (9,zwm),
 (12,zuf),
 (21,zud),
 (22,zuc),
 (23,zub),
 (24,zua),
 (25,zt9),
 (27,zt8),
 (29,zt7),
 (31,zt5),
 (32,zt4),
 (33,zt3),
 (34,zt2),
 (35,zt1),
 (37,zt0),
 (41,ztY),
 (42,ztX),
 (44,ztW),
 (45,ztV),
 (46,ztU),
 (47,ztT),
 (49,ztS),
 (52,ztQ),
 (55,ztP),
 (56,ztO),
 (57,ztN),
 (59,ztM),
 (62,ztK),
 (68,ztJ),
 (71,ztI),
 (72,ztH),
 (74,ztG),
 (76,ztF),
 (85,ztE),
 (87,ztD),
 (89,ztC),
 (91,ztB),
 (93,ztA),
 (94,ztz),
 (96,zty),
 (101,zpe),
 (103,zjr),
 (107,zjq),
 (115,zpd),
 (124,zpc),
 (126,zpb),
 (129,zpa),
 (131,zo9),
 (138,zo8),
 (139,zo7),
 (141,zo6),
 (143,zo5),
 (146,zo4),
 (147,zo3),
 (148,zo2),
 (150,zo1),
 (153,zo0),
 (156,zoZ),
 (158,zoY),
 (160,zoX),
 (163,zoW),
 (179,zoV),
 (182,zoU),
 (184,zoT),
 (185,zoS),
 (187,zoR),
 (189,zoQ),
 (195,zoP),
 (196,zoO),
 (197,zoN),
 (216,zoM),
 (218,zoL),
 (220,zoK),
 (222,zoJ),
 (224,zoI),
 (227,zoH),
 (229,zoG),
 (232,zoF),
 (241,zoE),
 (246,zoD),
 (250,zoC),
 (254,zoB),
 (257,zoA),
 (263,zoz),
 (273,zoy),
 (274,zox),
 (275,zow),
 (277,zov),
 (279,zou),
 (284,zot),
 (288,zos),
 (289,zor),
 (291,zoq),
 (295,zop),
 (298,zoo),
 (301,zon),
 (304,zom),
 (306,zol),
 (308,zok),
 (312,zoj),
 (319,zoi),
 (321,zoh),
 (328,zog),
 (336,zof),
 (353,zoe),
 (357,zod),
 (369,zoc),
 (370,zob),
 (384,zoa),
 (392,zn9),
 (393,zn8)]
theorem Tk:TOk Tryz.prog zvU:=zvX ⟨zue,zt6,ztZ,ztR,ztL,ztx,zq1,zq0,zqZ,zqY,zqX,zqW,zqV,zqU,zqT,zqS,zqR,zqQ,zqP,zqO,zqN,zqM,zqL,zqK,zqJ,zqI,zqH,zqG,zqF,zqE,zqD,zqC,zqB,zqA,zqz,zqy,zqx,zqw,zqv,zqu,zqt,zqs,zqr,zqq,zqp,znb,zna,zm9,zm8,zm7,zm6,zm5,zm4,zm3,zm2,zm1,zm0,zmZ,zmY,zmX,zmW,zmV,zmU,zmT,zmS,zmR,zmQ,zmP,zmO,zmN,zmM,zmL,zmK,zmJ,zmI,zmH,zmG,zmF,zmE,zmD,zmC,zmB,zmA,zmz,zmy,zmx,zmw,zmv,zmu,zmt,zms,zmr,zmq,zmp,zmo,zmn,zmm,zml,zmk,zmj,zmi,zmh,zmg,zmf,zme,zmd,zmc,zmb,zma,zl9,zl8,zl7,zl6,zl5,zl4,zl3,trivial⟩
end Go.AI
namespace Go.AI
open Go.Proofs
set_option maxRecDepth 20000
theorem zaz:Tryz.prog.follows .mixedOrders=true:=rfl
theorem zsj (O:List Heap) (a:Int):zao Tryz.prog 142 [ii a] O (bb false) [] O:=by
 refine zaa Tk Tryz.func142 rfl Tryz.call142 Tryz.ntmps142 (Nat.le_of_ble_eq_true rfl) fun E=>?_;refine zaZ Tk Tryz.func142 ?_;refine zaF (hT:=Tk) (r:=bb _) rfl rfl rfl trivial rfl rfl ?_;simp
theorem zxD (O:List Heap) (a:Int):zao Tryz.prog 205 [ii a] O (bb false) [] O:=by
 refine zaa Tk Tryz.func205 rfl Tryz.call205 Tryz.ntmps205 (Nat.le_of_ble_eq_true rfl) fun E=>?_;refine zaZ Tk Tryz.func205 ?_;refine zaF (hT:=Tk) (r:=bb _) rfl rfl rfl trivial rfl rfl ?_;simp
theorem zyH (O:List Heap) (a b:Int):zao Tryz.prog 204 [ii a,ii b] O (bb (decide (a<b))) [] O:=by
 refine zaa Tk Tryz.func204 rfl Tryz.call204 Tryz.ntmps204 (Nat.le_of_ble_eq_true rfl) fun E=>?_;refine zaZ Tk Tryz.func204 ?_;refine zc1 Tk Tryz.func204 (zsj _ a) rfl rfl rfl rfl rfl ?_;refine zbs Tk Tryz.func204 rfl (fun h1=>by cases h1) (fun _=>?_);refine zbs Tk Tryz.func204 rfl (fun h1=>by cases h1) (fun _=>?_);refine zaF (hT:=Tk) (r:=bb _) rfl rfl rfl trivial rfl rfl ?_;rfl
theorem zzk {a b:Nat} (ha:a≤zar) (hb:b≤zar):IntKind.i64.wrap (IntKind.u64.wrap (IntKind.i64.wrap ((a:Int)+b))/2 ^ (1:Int).toNat)=((a+b)/2:Nat):=by
 simp only[zar] at ha hb;have h1:IntKind.u64.wrap (IntKind.i64.wrap ((a:Int)+b))=(a:Int)+b:=by
  simp only[IntKind.wrap,IntKind.bits,IntKind.signed];simp;omega
 rw[h1,w64]
 ·simp
 ·simp;omega
 ·simp;omega
def lows (l:List Int) (x:Int):Nat:=(l.filter (· < x)).length
theorem zxq {l:List Int} {x:Int} {i:Nat} (hi:i≤l.length) (h1:∀k (h:k<l.length),k<i→l[k]<x) (h2:∀k (h:k<l.length),i≤k→x≤l[k]):lows l x=i:=by
 have e:l=l.take i++l.drop i:=(List.take_append_drop i l).symm;unfold lows;rw[e,List.filter_append];have a1:(l.take i).filter (fun y=>decide (y<x))=l.take i:=by
  rw[List.filter_eq_self];intro y hy;obtain⟨k,hk,rfl⟩:=List.getElem_of_mem hy;simp only[List.length_take] at hk;have:=h1 k (by omega) (by omega);simpa using this
 have a2:(l.drop i).filter (fun y=>decide (y<x))=[]:=by
  rw[List.filter_eq_nil_iff];intro y hy;obtain⟨k,hk,rfl⟩:=List.getElem_of_mem hy;simp only[List.length_drop] at hk;have:=h2 (i+k) (by omega) (by omega);simpa using this
 rw[a1,a2];simp;omega
theorem ztk (O:List Heap) (l:List Int) (x:Int) (hl:l.length≤zar) (hs:l.Pairwise (· < ·)):zao Tryz.prog 147 [ints l,ii x] O (.tup [ii (lows l x),bb (decide (x∈l))]) [] O:=by
 have hsort:∀i j (hi:i<l.length) (hj:j<l.length),i<j→l[i]<l[j]:=fun i j hi hj h=>List.pairwise_iff_getElem.1 hs i j hi hj h;refine zaa Tk Tryz.func147 rfl Tryz.call147 Tryz.ntmps147 (Nat.le_of_ble_eq_true rfl) fun E=>?_;refine zaZ Tk Tryz.func147 ?_;refine zak (fun p:Nat×Nat=>[(0,ints l),(1,ii x),(6,ii l.length),(7,ii p.1),(8,ii p.2)]) (fun _=>[]) (fun _=>O) 54
  (fun p=>p.1≤p.2∧p.2≤l.length∧(∀k (h:k<l.length),k<p.1→l[k]<x)∧∀k (h:k<l.length),p.2≤k→x≤l[k]) (fun p=>p.2-p.1) (0,l.length)
  ⟨Nat.zero_le _,Nat.le_refl _,fun k h h'=>by simp at h',fun k h h'=>by simp at h';omega⟩ ⟨rfl,rfl,rfl,rfl,rfl,trivial⟩ rfl trivial rfl rfl ?_
 rintro ⟨i,j⟩ ⟨hij,hj,hlo,hhi⟩ ih;simp only at hij hj hlo hhi;have hlj:j≤zar:=Nat.le_trans hj hl;refine zaZ Tk Tryz.func147 ?_;refine za2 Tk Tryz.func147 rfl (fun h1=>?_) (fun h1=>?_)
 ·have h1:i<j:=by simpa using h1
  refine zc0 Tk Tryz.func147 (by simp[IntKind.bits]) ?_;have hm:=zzk (Nat.le_trans hij hlj) hlj;have hmj:(i+j)/2<j:=by omega
  refine zc0 Tk Tryz.func147 (by rw[hm];omega) ?_;refine zeu Tk Tryz.func147 (d:=[vi (l[(i+j)/2]'(by omega))]) (by rw[hm];exact zan (f:=fun x=>[vi x]) (by omega)) ?_;refine zc1 Tk Tryz.func147 (zyH _ _ _) rfl rfl rfl rfl rfl ?_;refine za2 Tk Tryz.func147 rfl (fun h2=>?_) (fun h2=>?_)
  ·have h2:l[(i+j)/2]<x:=by simpa using h2
   refine ih ((i+j)/2+1,j) _ _ ⟨by show (i+j)/2+1≤j;omega,hj,fun k h h'=>?_,hhi⟩ (by simp only;omega) ⟨rfl,rfl,rfl,?_,rfl,trivial⟩ rfl trivial rfl rfl
   ·by_cases e:k=(i+j)/2
    ·subst e;exact h2
    ·have h':k<(i+j)/2+1:=h';have:=hsort k ((i+j)/2) h (by omega) (by omega);omega
   ·show D.i (.v (.int .i64 _))=_;rw[hm];exact congrArg ii (zaC (n:=j) (by omega) hlj)
  ·have h2:x≤l[(i+j)/2]:=by simpa using h2
   refine ih (i,(i+j)/2) _ _ ⟨by show i≤(i+j)/2;omega,by show (i+j)/2≤l.length;omega,hlo,fun k h h'=>?_⟩ (by simp only;omega) ⟨rfl,rfl,rfl,rfl,?_,trivial⟩ rfl trivial rfl rfl
   ·have h':(i+j)/2≤k:=h'
    by_cases e:k=(i+j)/2
    ·subst e;exact h2
    ·have:=hsort ((i+j)/2) k (by omega) h (by omega);omega
   ·show D.i (.v (.int .i64 _))=_;rw[hm]
 ·have h1:j≤i:=by simpa using h1
  have hij:i=j:=by omega
  subst hij;have hlow:lows l x=i:=zxq hj hlo hhi;rw[hlow];have hnot:∀(hi:i<l.length),l[i]≠x→x ∉ l:=by
   intro hi hne hm;obtain⟨k,hk,e⟩:=List.getElem_of_mem hm
   by_cases h3:k<i
   ·have:=hlo k hk h3;omega
   ·by_cases h4:k=i
    ·subst h4;exact hne e
    ·have:=hsort i k hi hk (by omega);have:=hhi i hi (Nat.le_refl _);omega
  refine zbs Tk Tryz.func147 rfl (fun h1=>?_) (fun h1=>?_)
  ·have h1:i<l.length:=by simpa using h1
   refine zc0 Tk Tryz.func147 (by omega) ?_;refine zeu Tk Tryz.func147 (zan h1) ?_;refine zbs Tk Tryz.func147 rfl (fun h2=>?_) (fun h2=>?_)
   ·have h2:l[i]=x:=by simpa using h2
    refine zaF (hT:=Tk) (r:=.tup [ii _,bb _]) rfl rfl rfl trivial rfl rfl ?_;have:x∈l:=by rw[←h2];simp
    simp[this]
   ·have h2:l[i]≠x:=by simpa using h2
    refine zc0 Tk Tryz.func147 (by omega) ?_;refine zeu Tk Tryz.func147 (zan h1) ?_;refine zc1 Tk Tryz.func147 (zxD _ _) rfl rfl rfl rfl rfl ?_;refine zbs Tk Tryz.func147 rfl (fun h1=>by cases h1) (fun _=>?_);refine zaF (hT:=Tk) (r:=.tup [ii _,bb _]) rfl rfl rfl trivial rfl rfl ?_;simp[hnot h1 h2]
  ·have h1:l.length≤i:=by simpa using h1
   refine zaF (hT:=Tk) (r:=.tup [ii _,bb _]) rfl rfl rfl trivial rfl rfl ?_;have:x ∉ l:=by
    intro hm;obtain⟨k,hk,e⟩:=List.getElem_of_mem hm;have:=hlo k hk (by omega);omega
   simp[this]
theorem zih (O:List Heap) (l:List Int) (x:Int) (hl:l.length≤zar) (hs:l.Pairwise (· < ·)):zao Tryz.prog 69 [ints l,ii x] O (bb (decide (x∈l))) [] O:=by
 refine zaa Tk Tryz.func69 rfl Tryz.call69 Tryz.ntmps69 (Nat.le_of_ble_eq_true rfl) fun E=>?_;refine zaZ Tk Tryz.func69 ?_;refine zc1 Tk Tryz.func69 (ztk _ l x hl hs) rfl rfl rfl rfl rfl ?_;refine zaF (hT:=Tk) (r:=bb _) rfl rfl rfl trivial rfl rfl ?_;rfl
abbrev big:Nat:=140737488355328
abbrev zb7 (l:List Int):Ob:=.arr 3 1 l.length (l.map fun x=>[vi x]) true
theorem zgK (H:Heap) (nm:Nat) (ob:Ob):D.ret H [(nm,ob)] (.osl 0 nm)=.osl 0 nm:=by
 simp[D.ret,D.ret2,D.ret1,memH,zac]
theorem zjC (nm:Nat) (ob ob':Ob) (Hr:Heap) (h:ob'=ob.ret [(nm,ob)] Hr):zfQ [(nm,ob)] Hr [(nm,ob')]:=⟨⟨ob,by simp[look],h⟩,trivial⟩
theorem zxR (nm:Nat) (O:List Heap) (l:List Int) (hl:l.length*8≤big):zao Tryz.prog 86 [ints l] O (.osl 0 nm) [(nm,zb7 l)] O:=by
 refine zaa Tk Tryz.func86 rfl Tryz.call86 Tryz.ntmps86 (Nat.le_of_ble_eq_true rfl) fun E=>?_;refine zaZ Tk Tryz.func86 ?_;refine zv8 Tk Tryz.func86 rfl rfl fun b hb=>?_;refine za2 Tk Tryz.func86 rfl (fun h1=>?_) (fun h1=>?_)
 ·have hl0:l=[]:=List.eq_nil_of_length_eq_zero (hb h1);subst hl0;refine znp (zbn 2 nm 3 1 rfl rfl rfl) ?_;exact zaF (hT:=Tk) (r:=.osl 0 nm) rfl rfl rfl (zjC _ _ _ _ rfl) (zgK _ _ _) rfl rfl
 ·refine zc0 Tk Tryz.func86 ⟨?_,?_⟩ ?_
  ·show (0+l.length)*8≤140737488355328;simp only[big] at hl;omega
  ·simp only[big] at hl;omega
  refine znp (zbo (l:=[(2,.osl 0 7)]) (Hv:=[(7,.arr 3 1 (0+l.length) ([]++l.map fun x=>[vi x]) true)]) ⟨rfl,trivial⟩ rfl ⟨rfl,trivial⟩ rfl rfl) ?_;refine znp (zq3 7 nm rfl rfl) ?_;refine zaF (hT:=Tk) (r:=.osl 0 nm) rfl rfl rfl (zjC _ _ _ _ ?_) (zgK _ _ _) rfl rfl;rw[Nat.zero_add];rfl
theorem zs2 (O:List Heap) (l r:List Int) (hl:l.length≤zar):zao Tryz.prog 67 [ints l,ints r] O (bb (decide (l=r))) [] O:=by
 refine zaa Tk Tryz.func67 rfl Tryz.call67 Tryz.ntmps67 (Nat.le_of_ble_eq_true rfl) fun E=>?_;refine zaZ Tk Tryz.func67 ?_;refine za2 Tk Tryz.func67 rfl (fun h1=>?_) (fun h1=>?_)
 ·refine zaF (hT:=Tk) (r:=bb _) rfl rfl rfl trivial rfl rfl ?_;have h1:(l.length:Int)≠r.length:=by simpa using h1
  have:l≠r:=fun e=>h1 (by rw[e]);simp[this]
 have hlen:l.length=r.length:=by
  have:(l.length:Int)=r.length:=by simpa using h1
  omega
 refine zb0 (fun i:Nat=>[(0,ints l),(1,ints r),(4,bb false),(12,ii l.length),(13,ii i)]) (fun _=>[]::O) 26 (fun i=>i≤l.length∧∀j (h:j<l.length),j<i→l[j]=r[j]) (fun i=>l.length-i) 0 ⟨Nat.zero_le _,fun j h h'=>by omega⟩ ⟨rfl,rfl,rfl,rfl,rfl,trivial⟩ rfl rfl ?_;intro i ⟨hi,hno⟩ ih;refine zaZ Tk Tryz.func67 ?_;refine za2 Tk Tryz.func67 rfl (fun h1=>?_) (fun h1=>?_)
 ·have h1:i<l.length:=by simpa using h1
  have h1':i<r.length:=by omega
  refine zxp Tk Tryz.func67 zaz rfl ?_;refine zex Tk (by omega) ?_;refine zwh Tk (zan h1) ?_;refine zex Tk (by omega) ?_;refine zwh Tk (zan h1') ?_;refine zkE Tk Tryz.func67 (by kernel_rfl) ?_;refine za2 Tk Tryz.func67 rfl (fun h2=>?_) (fun h2=>?_)
  ·refine zaF (hT:=Tk) (r:=bb _) rfl rfl rfl trivial rfl rfl ?_;have h2:l[i]≠r[i]:=by simpa using h2
   have:l≠r:=fun e=>h2 (by subst e;rfl);simp[this]
  ·have h2:l[i]=r[i]:=by simpa using h2
   refine ih (i+1) _ ?_ ?_ ⟨rfl,rfl,rfl,rfl,congrArg ii (zaC h1 hl),trivial⟩ rfl rfl
   ·refine⟨h1,fun j h h'=>?_⟩
    by_cases e:j=i
    ·subst e;exact h2
    ·exact hno j h (by omega)
   ·omega
 ·have h1:l.length≤i:=by simpa using h1
  refine zaF (hT:=Tk) (r:=bb _) rfl rfl rfl trivial rfl rfl ?_;have:l=r:=List.ext_getElem hlen fun j h h'=>hno j h (by omega);simp[this]
def zaO (n:Int):List Int→Option Int→Int
 |[],_=>0
 |x::r,prev=>if x<0∨x≥n then 2 else if prev.any (x ≤ ·) then 5 else zaO n r (some x)
theorem zik (O:List Heap) (l:List Int) (n:Int) (hl:l.length≤zar):zao Tryz.prog 144 [ints l,ii n] O (ii (zaO n l none)) [] O:=by
 refine zaa Tk Tryz.func144 rfl Tryz.call144 Tryz.ntmps144 (Nat.le_of_ble_eq_true rfl) fun E=>?_;refine zaZ Tk Tryz.func144 ?_
 let prev:Nat→Option Int:=fun i=>if i=0 then none else l[i-1]?
 refine zb0 (fun i:Nat=>[(0,ints l),(1,ii n),(7,ints l),(8,ii l.length),(9,ii i)]) (fun _=>[]::O) 33 (fun i=>i≤l.length∧zaO n l none=zaO n (l.drop i) (prev i)) (fun i=>l.length-i) 0 ⟨Nat.zero_le _,rfl⟩ ⟨rfl,rfl,rfl,rfl,rfl,trivial⟩ rfl rfl ?_;intro i ⟨hi,hno⟩ ih;rw[hno];refine zaZ Tk Tryz.func144 ?_;refine za2 Tk Tryz.func144 rfl (fun h1=>?_) (fun h1=>?_)
 ·have h1:i<l.length:=by simpa using h1
  rw[hno] at ih;have hd:l.drop i=l[i]::l.drop (i+1):=(List.drop_eq_getElem_cons h1);have hnext:prev (i+1)=some l[i]:=by simp[prev,h1]
  refine zc0 Tk Tryz.func144 (by omega) ?_;refine zeu Tk Tryz.func144 (zan h1) ?_;refine zbs Tk Tryz.func144 rfl (fun h2=>?_) (fun h2=>?_)
  ·have h2:l[i]<0:=by simpa using h2
   refine za2 Tk Tryz.func144 rfl (fun _=>?_) (fun h=>by cases h);refine zaF (hT:=Tk) (r:=ii _) rfl rfl rfl trivial rfl rfl ?_;rw[hd];simp only[zaO];rw[if_pos (.inl h2)]
  have h2:¬l[i]<0:=by simpa using h2
  refine za2 Tk Tryz.func144 rfl (fun h3=>?_) (fun h3=>?_)
  ·have h3:l[i]≥n:=by simpa using h3
   refine zaF (hT:=Tk) (r:=ii _) rfl rfl rfl trivial rfl rfl ?_;rw[hd];simp only[zaO];rw[if_pos (.inr h3)]
  have h3:¬l[i]≥n:=by simpa using h3
  refine zbs Tk Tryz.func144 rfl (fun h4=>?_) (fun h4=>?_)
  ·have h4:0<i:=by simpa using h4
   have hw:IntKind.i64.wrap ((i:Int)-1)=((i-1:Nat):Int):=by
    simp only[zar] at hl;rw[w64 (by omega) (by omega)];omega
   have hp:prev i=some (l[i-1]'(by omega)):=by
    simp only[prev,if_neg (show ¬i=0 by omega)];exact List.getElem?_eq_getElem (by omega)
   refine zc0 Tk Tryz.func144 (by rw[hw];omega) ?_;refine zeu Tk Tryz.func144 (by rw[hw];exact zan (f:=fun x=>[vi x]) (show i-1<l.length by omega)) ?_;refine za2 Tk Tryz.func144 rfl (fun h5=>?_) (fun h5=>?_)
   ·have h5:l[i]≤l[i-1]:=by simpa using h5
    refine zaF (hT:=Tk) (r:=ii _) rfl rfl rfl trivial rfl rfl ?_;rw[hd,hp];simp only[zaO];rw[if_neg (by omega),if_pos (by simpa using h5)]
   ·have h5:¬l[i]≤l[i-1]:=by simpa using h5
    refine ih (i+1) _ ⟨h1,?_⟩ (by omega) ⟨rfl,rfl,rfl,rfl,congrArg ii (zaC h1 hl),trivial⟩ rfl rfl;rw[hnext,hd,hp];simp only[zaO];rw[if_neg (by omega),if_neg (by simpa using h5)]
  ·have h4:i=0:=by
    have:¬0<i:=by simpa using h4
    omega
   refine za2 Tk Tryz.func144 rfl (fun h=>by cases h) (fun _=>?_);refine ih (i+1) _ ⟨h1,?_⟩ (by omega) ⟨rfl,rfl,rfl,rfl,congrArg ii (zaC h1 hl),trivial⟩ rfl rfl;rw[hnext,hd];have hp:prev i=none:=by simp[prev,h4]
   rw[hp];simp only[zaO];rw[if_neg (by omega)];simp
 ·have h1:l.length≤i:=by simpa using h1
  refine zaF (hT:=Tk) (r:=ii _) rfl rfl rfl trivial rfl rfl ?_;rw[List.drop_eq_nil_of_le h1];rfl
def zaw {α:Type} (p:α→Bool):List α→Nat→Int
 |[],_=>-1
 |x::r,i=>if p x then (i:Int) else zaw p r (i+1)
theorem zlu (O:List Heap) (l:List Int) (f d nm:Nat) (p:Int→Bool) (hl:l.length≤zar) (hp:∀x∈l,zao Tryz.prog f [ii x,.own (d+1) nm 0 0] ([]::O) (bb (p x)) [] ([]::O)) :
  zao Tryz.prog 151 [ints l,.fn (.func f) [] [.own d nm 0 0]] O (ii (zaw p l 0)) [] O:=by
 refine zaa Tk Tryz.func151 rfl Tryz.call151 Tryz.ntmps151 (Nat.le_of_ble_eq_true rfl) fun E=>?_;refine zaZ Tk Tryz.func151 ?_;refine zb0 (fun i:Nat=>[(0,ints l),(1,.fn (.func f) [] [.own (d+1) nm 0 0]),(6,ints l),(7,ii l.length),(8,ii i)]) (fun _=>[]::O) 19 (fun i=>i≤l.length∧zaw p l 0=zaw p (l.drop i) i) (fun i=>l.length-i) 0 ⟨Nat.zero_le _,rfl⟩ ⟨rfl,rfl,rfl,rfl,rfl,trivial⟩ rfl rfl ?_;intro i ⟨hi,hno⟩ ih;rw[hno];rw[hno] at ih;refine zaZ Tk Tryz.func151 ?_;refine za2 Tk Tryz.func151 rfl (fun h1=>?_) (fun h1=>?_)
 ·have h1:i<l.length:=by simpa using h1
  have hd:l.drop i=l[i]::l.drop (i+1):=(List.drop_eq_getElem_cons h1);refine zc0 Tk Tryz.func151 (by omega) ?_;refine zeu Tk Tryz.func151 (zan h1) ?_;refine zc1 Tk Tryz.func151 (hp l[i] (List.getElem_mem h1)) rfl rfl rfl rfl rfl ?_;refine za2 Tk Tryz.func151 rfl (fun h2=>?_) (fun h2=>?_)
  ·refine zaF (hT:=Tk) (r:=ii _) rfl rfl rfl trivial rfl rfl ?_;rw[hd];simp only[zaw];rw[if_pos h2]
  ·refine ih (i+1) _ ⟨h1,?_⟩ (by omega) ⟨rfl,rfl,rfl,rfl,congrArg ii (zaC h1 hl),trivial⟩ rfl rfl;rw[hd];simp only[zaw];rw[if_neg (by rw[h2];simp)]
 ·have h1:l.length≤i:=by simpa using h1
  refine zaF (hT:=Tk) (r:=ii _) rfl rfl rfl trivial rfl rfl ?_;rw[List.drop_eq_nil_of_le h1];rfl
theorem zbq {α:Type} (p:α→Bool):∀(l:List α) (i:Nat),decide (zaw p l i≥0)=l.any p
 |[],i=>by simp[zaw]
 |x::r,i=>by
  by_cases h:p x=true
  ·have e:zaw p (x::r) i=(i:Int):=if_pos h;rw[List.any_cons,h,Bool.true_or,decide_eq_true_iff,e];omega
  ·have e:zaw p (x::r) i=zaw p r (i+1):=if_neg h;have h':p x=false:=by simpa using h
   rw[List.any_cons,h',Bool.false_or,←zbq p r (i+1)];exact decide_eq_decide.2 (by rw[e])
theorem zhK (O:List Heap) (l:List Int) (f d nm:Nat) (p:Int→Bool) (hl:l.length≤zar) (hp:∀x∈l,zao Tryz.prog f [ii x,.own (d+2) nm 0 0] ([]::[]::O) (bb (p x)) [] ([]::[]::O)) :
  zao Tryz.prog 73 [ints l,.fn (.func f) [] [.own d nm 0 0]] O (bb (l.any p)) [] O:=by
 refine zaa Tk Tryz.func73 rfl Tryz.call73 Tryz.ntmps73 (Nat.le_of_ble_eq_true rfl) fun E=>?_;refine zaZ Tk Tryz.func73 ?_;refine zc1 Tk Tryz.func73 (zlu _ l f (d+1) nm p hl hp) rfl rfl rfl rfl rfl ?_;refine zaF (hT:=Tk) (r:=bb _) rfl rfl rfl trivial rfl rfl ?_;exact congrArg bb (zbq p l 0)
theorem zxz (O:List Heap) (x k:Int) (d nm:Nat) (ho:zab O d nm=some (.box [ii k])):zao Tryz.prog 274 [ii x,.own d nm 0 0] O (bb (decide (x≠k))) [] O:=by
 refine zaa Tk Tryz.func274 rfl Tryz.call274 Tryz.ntmps274 (Nat.le_of_ble_eq_true rfl) fun E=>?_;refine zaZ Tk Tryz.func274 ?_;refine zu5 Tk Tryz.func274 (ob:=.box [ii k]) ho ?_;refine zaF (hT:=Tk) (r:=bb _) rfl rfl rfl trivial rfl rfl ?_
 by_cases h:x=k<;>simp[h]
theorem zsg (O:List Heap) (k:Int) (l:List Int) (d nm:Nat) (hl:l.length≤zar) (ho:zab O d nm=some (.box [ints l])):zao Tryz.prog 273 [ii k,.own d nm 0 0] O (bb (l.all (· = k))) [] O:=by
 refine zaa Tk Tryz.func273 rfl Tryz.call273 Tryz.ntmps273 (Nat.le_of_ble_eq_true rfl) fun E=>?_;refine zaZ Tk Tryz.func273 ?_;refine zu5 Tk Tryz.func273 (ob:=.box [ints l]) ho ?_;refine zc1 Tk Tryz.func273 (zhK _ l 274 0 2 (fun x=>decide (x≠k)) hl fun x _=>zxz _ x k _ _ rfl) rfl rfl rfl rfl rfl ?_;refine zaF (hT:=Tk) (r:=bb _) rfl rfl rfl trivial rfl rfl ?_;refine congrArg bb ?_;clear hl ho
 induction l with
 |nil=>rfl
 |cons y r ih=>
  rw[List.all_cons,←ih,List.any_cons]
  by_cases h:y=k<;>simp[h]
abbrev strI (b:ByteArray):I:=.v (.string b)
def chr (b:ByteArray) (i:Nat):Int:=((b.data.toList.getD i 0).toNat:Int)
def zc8 (c:Int):Bool:=(decide (97≤c)&&decide (c≤122))||(decide (65≤c)&&decide (c≤90))||decide (c=95)
def zgc (i:Nat) (c:Int):Bool:=zc8 c||(decide (i≠0)&&decide (48≤c)&&decide (c≤57))
def zaW (b:ByteArray):Bool:=(List.range b.size).all (fun i=>zgc i (chr b i))&&decide (0<b.size)&&decide (b.size≤32)
theorem zu7 {c:Cx} {todo:List Item} {s6:St} {G:Prop} (h1:Rch c todo s6→G) (h2:Rch c todo s6):G:=h1 h2
theorem zdv (O:List Heap) (b:ByteArray) (hl:b.size≤zar):zao Tryz.prog 45 [.i (strI b)] O (bb (zaW b)) [] O:=by
 refine zaM [6] Tk Tryz.func45 rfl Tryz.call45 Tryz.ntmps45 (Nat.le_of_ble_eq_true rfl) fun E=>?_;refine zaZ Tk Tryz.func45 ?_;refine zb0 (fun i:Nat=>[(0,.i (strI b)),(7,ii b.size),(8,ii i)]) (fun _=>[]::O) 55 (fun i=>i≤b.size∧∀j,j<i→zgc j (chr b j)=true) (fun i=>b.size-i) 0 ⟨Nat.zero_le _,fun j h=>by omega⟩ ⟨rfl,rfl,rfl,trivial⟩ rfl rfl ?_;intro i ⟨hi,hno⟩ ih;refine zaZ Tk Tryz.func45 ?_;refine za2 Tk Tryz.func45 rfl (fun h1=>?_) (fun h1=>?_)
 ·have h1:i<b.size:=by simpa using h1
  refine zc0 Tk Tryz.func45 (by omega) ?_
  apply zu7 (s6:={ σ:=[(0,.i (strI b)),(3,ii i),(4,.i (.v (.int .u8 (chr b i)))),(5,bb (zc8 (chr b i))),(7,ii b.size),(8,ii i)],S:=[]::O,n:=55})
  ·intro H;have fin:∀{s:St} {t:Bool},s.get 5=bb t→t=zc8 (chr b i)→s.get 5=bb (zc8 (chr b i)):=fun h e=>h.trans (congrArg bb e);have lt:(97≤chr b i∧chr b i≤122)∨(65≤chr b i∧chr b i≤90)→true=zc8 (chr b i):=by
    intro h;generalize chr b i=c at h;unfold zc8;rcases h with ⟨h1,h2⟩|⟨h1,h2⟩<;>simp[h1,h2]
   have lu:¬((97≤chr b i∧chr b i≤122)∨(65≤chr b i∧chr b i≤90))→(chr b i==95)=zc8 (chr b i):=by
    intro h;generalize chr b i=c at h ⊢;unfold zc8;have h1:(decide (97≤c)&&decide (c≤122))=false:=by
     rw[←Bool.decide_and];exact decide_eq_false fun h'=>h (.inl h')
    have h2:(decide (65≤c)&&decide (c≤90))=false:=by
     rw[←Bool.decide_and];exact decide_eq_false fun h'=>h (.inr h')
    rw[h1,h2];rfl
   refine zbs Tk Tryz.func45 rfl (fun h2=>?_) (fun h2=>?_)
   ·have h2:chr b i≥97:=of_decide_eq_true h2;refine zbs Tk Tryz.func45 rfl (fun h3=>?_) (fun h3=>?_)
    ·have h3:chr b i≤122:=of_decide_eq_true h3;refine zbs Tk Tryz.func45 rfl (fun _=>?_) (fun h=>by cases h);refine zc7 H ⟨rfl,rfl,rfl,fin rfl ?_,rfl,rfl,trivial⟩;exact lt (by omega)
    ·have h3:¬chr b i≤122:=of_decide_eq_false h3;refine zbs Tk Tryz.func45 rfl (fun h4=>?_) (fun h4=>?_)
     ·have h4:chr b i≥65:=of_decide_eq_true h4;refine zbs Tk Tryz.func45 rfl (fun h5=>?_) (fun h5=>?_)
      ·have h5:chr b i≤90:=of_decide_eq_true h5;refine zc7 H ⟨rfl,rfl,rfl,fin rfl ?_,rfl,rfl,trivial⟩;exact lt (by omega)
      ·have h5:¬chr b i≤90:=of_decide_eq_false h5;refine zc7 H ⟨rfl,rfl,rfl,fin rfl ?_,rfl,rfl,trivial⟩;exact lu (by omega)
     ·have h4:¬chr b i≥65:=of_decide_eq_false h4;refine zbs Tk Tryz.func45 rfl (fun h=>by cases h) (fun _=>?_);refine zc7 H ⟨rfl,rfl,rfl,fin rfl ?_,rfl,rfl,trivial⟩;exact lu (by omega)
   ·have h2:¬chr b i≥97:=of_decide_eq_false h2;refine zbs Tk Tryz.func45 rfl (fun h=>by cases h) (fun _=>?_);refine zbs Tk Tryz.func45 rfl (fun h4=>?_) (fun h4=>?_)
    ·have h4:chr b i≥65:=of_decide_eq_true h4;refine zbs Tk Tryz.func45 rfl (fun h5=>?_) (fun h5=>?_)
     ·have h5:chr b i≤90:=of_decide_eq_true h5;refine zc7 H ⟨rfl,rfl,rfl,fin rfl ?_,rfl,rfl,trivial⟩;exact lt (by omega)
     ·have h5:¬chr b i≤90:=of_decide_eq_false h5;refine zc7 H ⟨rfl,rfl,rfl,fin rfl ?_,rfl,rfl,trivial⟩;exact lu (by omega)
    ·have h4:¬chr b i≥65:=of_decide_eq_false h4;refine zbs Tk Tryz.func45 rfl (fun h=>by cases h) (fun _=>?_);refine zc7 H ⟨rfl,rfl,rfl,fin rfl ?_,rfl,rfl,trivial⟩;exact lu (by omega)
  ·refine zaZ Tk Tryz.func45 ?_;refine m_go Tk Tryz.func45 ?_;have hbad:zgc i (chr b i)=false→zaW b=false:=by
    intro h;unfold zaW;have:(List.range b.size).all (fun i=>zgc i (chr b i))=false:=by
     rw[List.all_eq_false];exact⟨i,List.mem_range.2 h1,by rw[h];simp⟩
    rw[this];rfl
   have hgood:zgc i (chr b i)=true→∀j,j<i+1→zgc j (chr b j)=true:=by
    intro h j hj
    by_cases e:j=i
    ·subst e;exact h
    ·exact hno j (by omega)
   refine zbs Tk Tryz.func45 rfl (fun h2=>?_) (fun h2=>?_)
   ·have h2:zc8 (chr b i)=false:=by simpa using h2
    refine zbs Tk Tryz.func45 rfl (fun h3=>?_) (fun h3=>?_)
    ·have h3:i=0:=by simpa using h3
     refine zbs Tk Tryz.func45 rfl (fun _=>?_) (fun h=>by cases h);refine za2 Tk Tryz.func45 rfl (fun _=>?_) (fun h=>by cases h);refine zaF (hT:=Tk) (r:=bb _) rfl rfl rfl trivial rfl rfl ?_;rw[hbad (by unfold zgc;rw[h2,h3];rfl)]
    ·have h3:i≠0:=by simpa using h3
     refine zbs Tk Tryz.func45 rfl (fun h4=>?_) (fun h4=>?_)
     ·have h4:chr b i<48:=of_decide_eq_true h4;refine za2 Tk Tryz.func45 rfl (fun _=>?_) (fun h=>by cases h);refine zaF (hT:=Tk) (r:=bb _) rfl rfl rfl trivial rfl rfl ?_;rw[hbad (by unfold zgc;rw[h2];simp;omega)]
     ·have h4:¬chr b i<48:=of_decide_eq_false h4;refine za2 Tk Tryz.func45 rfl (fun h5=>?_) (fun h5=>?_)
      ·have h5:chr b i>57:=of_decide_eq_true h5;refine zaF (hT:=Tk) (r:=bb _) rfl rfl rfl trivial rfl rfl ?_;rw[hbad (by unfold zgc;rw[h2];simp;omega)]
      ·have h5:¬chr b i>57:=of_decide_eq_false h5;refine ih (i+1) _ ⟨h1,hgood ?_⟩ (by omega) ⟨rfl,rfl,congrArg ii (zaC h1 hl),trivial⟩ rfl rfl;unfold zgc;rw[h2];simp[h3];omega
   ·have h2:zc8 (chr b i)=true:=by simpa using h2
    refine za2 Tk Tryz.func45 rfl (fun h=>by cases h) (fun _=>?_);refine ih (i+1) _ ⟨h1,hgood ?_⟩ (by omega) ⟨rfl,rfl,congrArg ii (zaC h1 hl),trivial⟩ rfl rfl;unfold zgc;rw[h2];rfl
 ·have h1:b.size≤i:=by simpa using h1
  have hall:(List.range b.size).all (fun i=>zgc i (chr b i))=true:=by
   rw[List.all_eq_true];intro j hj;rw[List.mem_range] at hj;exact hno j (by omega)
  refine zbs Tk Tryz.func45 rfl (fun h2=>?_) (fun h2=>?_)
  ·have h2:0<b.size:=by simpa using h2
   refine zaF (hT:=Tk) (r:=bb _) rfl rfl rfl trivial rfl rfl ?_;refine congrArg bb ?_;unfold zaW;rw[hall,decide_eq_true h2];exact decide_eq_decide.2 (by omega)
  ·have h2:¬0<b.size:=by simpa using h2
   refine zaF (hT:=Tk) (r:=bb _) rfl rfl rfl trivial rfl rfl ?_;refine congrArg bb ?_;unfold zaW;rw[decide_eq_false h2];simp
structure Vr where
 name:ByteArray
 low:Int
 high:Int
 init:Int
abbrev vrI (v:Vr):List I:=[strI v.name,vi v.low,vi v.high,vi v.init]
abbrev vrD (v:Vr):D:=.agg [.i (strI v.name),ii v.low,ii v.high,ii v.init]
abbrev vrsI (l:List Vr):I:=.sl 4 l.length (l.map vrI)
abbrev vrs (l:List Vr):D:=.i (vrsI l)
abbrev zso (l:List (List Int)):I:=.sl 1 l.length (l.map fun x=>[zdj x])
theorem zlt (O:List Heap) (l:List Vr) (f d nm:Nat) (p:Vr→Bool) (hl:l.length≤zar) (hp:∀x∈l,zao Tryz.prog f [vrD x,.own (d+1) nm 0 0] ([]::O) (bb (p x)) [] ([]::O)) :
  zao Tryz.prog 240 [vrs l,.fn (.func f) [] [.own d nm 0 0]] O (ii (zaw p l 0)) [] O:=by
 refine zaa Tk Tryz.func240 rfl Tryz.call240 Tryz.ntmps240 (Nat.le_of_ble_eq_true rfl) fun E=>?_;refine zaZ Tk Tryz.func240 ?_;refine zb0 (fun i:Nat=>[(0,vrs l),(1,.fn (.func f) [] [.own (d+1) nm 0 0]),(6,vrs l),(7,ii l.length),(8,ii i)]) (fun _=>[]::O) 19 (fun i=>i≤l.length∧zaw p l 0=zaw p (l.drop i) i) (fun i=>l.length-i) 0 ⟨Nat.zero_le _,rfl⟩ ⟨rfl,rfl,rfl,rfl,rfl,trivial⟩ rfl rfl ?_;intro i ⟨hi,hno⟩ ih;rw[hno];rw[hno] at ih;refine zaZ Tk Tryz.func240 ?_;refine za2 Tk Tryz.func240 rfl (fun h1=>?_) (fun h1=>?_)
 ·have h1:i<l.length:=by simpa using h1
  have hd:l.drop i=l[i]::l.drop (i+1):=(List.drop_eq_getElem_cons h1);refine zc0 Tk Tryz.func240 (by omega) ?_;refine zeu Tk Tryz.func240 (zan h1) ?_;refine zc1 Tk Tryz.func240 (hp l[i] (List.getElem_mem h1)) rfl rfl rfl rfl rfl ?_;refine za2 Tk Tryz.func240 rfl (fun h2=>?_) (fun h2=>?_)
  ·refine zaF (hT:=Tk) (r:=ii _) rfl rfl rfl trivial rfl rfl ?_;rw[hd];simp only[zaw];rw[if_pos h2]
  ·refine ih (i+1) _ ⟨h1,?_⟩ (by omega) ⟨rfl,rfl,rfl,rfl,congrArg ii (zaC h1 hl),trivial⟩ rfl rfl;rw[hd];simp only[zaw];rw[if_neg (by rw[h2];simp)]
 ·have h1:l.length≤i:=by simpa using h1
  refine zaF (hT:=Tk) (r:=ii _) rfl rfl rfl trivial rfl rfl ?_;rw[List.drop_eq_nil_of_le h1];rfl
theorem zhJ (O:List Heap) (l:List Vr) (f d nm:Nat) (p:Vr→Bool) (hl:l.length≤zar) (hp:∀x∈l,zao Tryz.prog f [vrD x,.own (d+2) nm 0 0] ([]::[]::O) (bb (p x)) [] ([]::[]::O)) :
  zao Tryz.prog 200 [vrs l,.fn (.func f) [] [.own d nm 0 0]] O (bb (l.any p)) [] O:=by
 refine zaa Tk Tryz.func200 rfl Tryz.call200 Tryz.ntmps200 (Nat.le_of_ble_eq_true rfl) fun E=>?_;refine zaZ Tk Tryz.func200 ?_;refine zc1 Tk Tryz.func200 (zlt _ l f (d+1) nm p hl hp) rfl rfl rfl rfl rfl ?_;refine zaF (hT:=Tk) (r:=bb _) rfl rfl rfl trivial rfl rfl ?_;exact congrArg bb (zbq p l 0)
theorem zpC (O:List Heap) (x v:Vr) (d nm:Nat) (ho:zab O d nm=some (.box [.i (strI v.name),ii v.low,ii v.high,ii v.init])):zao Tryz.prog 201 [vrD x,.own d nm 0 0] O (bb (x.name.toList==v.name.toList)) [] O:=by
 refine zaa Tk Tryz.func201 rfl Tryz.call201 Tryz.ntmps201 (Nat.le_of_ble_eq_true rfl) fun E=>?_;refine zaZ Tk Tryz.func201 ?_;refine zu5 Tk Tryz.func201 (ob:=.box [.i (strI v.name),ii v.low,ii v.high,ii v.init]) ho ?_;refine zaF (hT:=Tk) (r:=bb _) rfl rfl rfl trivial rfl rfl ?_;rfl
def checkVr (ds:List Vr) (v:Vr):Option Int:=
 if zaW v.name=false then some 7
 else if ds.any (fun x=>x.name.toList==v.name.toList) then some 8
 else if large v.low||large v.high then some 2
 else if v.low>v.high then some 5
 else if v.init<v.low∨v.init>v.high then some 2
 else none
where large (a:Int):Bool:=decide (65536<a)||decide (a < -65536)
def zbh (all:List Vr):List Vr→Nat→Int
 |[],_=>0
 |v::r,i=>match checkVr (all.take i) v with
  |some e=>e
  |none=>zbh all r (i+1)
theorem zlk (O:List Heap) (a b:Int):zao Tryz.prog 202 [ii a,ii b] O (bb (decide (b<a)||decide (a<IntKind.i64.wrap (0-b)))) [] O:=by
 refine zaa Tk Tryz.func202 rfl Tryz.call202 Tryz.ntmps202 (Nat.le_of_ble_eq_true rfl) fun E=>?_;refine zaZ Tk Tryz.func202 ?_;refine zbs Tk Tryz.func202 rfl (fun h1=>?_) (fun h1=>?_)
 ·have h1:b<a:=of_decide_eq_true h1;refine zaF (hT:=Tk) (r:=bb _) rfl rfl rfl trivial rfl rfl ?_;simp[h1]
 ·have h1:¬b<a:=of_decide_eq_false h1;refine zaF (hT:=Tk) (r:=bb _) rfl rfl rfl trivial rfl rfl ?_;simp only[decide_eq_false h1,Bool.false_or]
theorem zuo {l:List Vr} {i:Nat} (h:i≤l.length):vrs (l.take i)=.i (.sl 4 (i:Int).toNat ((l.map vrI).take (i:Int).toNat)):=by
 simp[vrs,vrsI,List.map_take,Nat.min_eq_left h]
theorem zlW (O:List Heap) (l:List Vr) (hl:l.length≤zar) (hn:∀v∈l,v.name.size≤zar):zao Tryz.prog 145 [vrs l] O (ii (if l.length>16 then 3 else zbh l l 0)) [] O:=by
 refine zaa Tk Tryz.func145 rfl Tryz.call145 Tryz.ntmps145 (Nat.le_of_ble_eq_true rfl) fun E=>?_;refine zaZ Tk Tryz.func145 ?_;refine za2 Tk Tryz.func145 rfl (fun h1=>?_) (fun h1=>?_)
 ·have h1:(16:Int)<l.length:=by simpa using h1
  have h1:l.length>16:=by omega
  refine zaF (hT:=Tk) (r:=ii _) rfl rfl rfl trivial rfl rfl ?_;rw[if_pos h1]
 have h1:(l.length:Int)≤16:=by simpa using h1
 have h1:¬l.length>16:=by omega
 rw[if_neg h1];refine zak (fun i:Nat=>[(0,vrs l),(8,vrs l),(9,ii l.length),(10,ii i)]) (fun _=>[]) (fun _=>O) 55 (fun i=>i≤l.length∧zbh l l 0=zbh l (l.drop i) i) (fun i=>l.length-i) 0 ⟨Nat.zero_le _,rfl⟩ ⟨rfl,rfl,rfl,rfl,trivial⟩ rfl trivial rfl rfl ?_;intro i ⟨hi,hno⟩ ih;rw[hno];rw[hno] at ih;refine zaZ Tk Tryz.func145 ?_;refine za2 Tk Tryz.func145 rfl (fun h2=>?_) (fun h2=>?_)
 ·have h2:i<l.length:=by simpa using h2
  have hd:l.drop i=l[i]::l.drop (i+1):=(List.drop_eq_getElem_cons h2);have hm:=List.getElem_mem h2;generalize hv:l[i]=v at hd hm;refine zc0 Tk Tryz.func145 (by omega) ?_;refine zeu Tk Tryz.func145 (d:=vrI v) (by rw[←hv];exact zan (f:=vrI) h2) ?_;refine zc1 Tk Tryz.func145 (zdv _ v.name (hn v hm)) rfl rfl rfl rfl rfl ?_;refine za2 Tk Tryz.func145 rfl (fun h3=>?_) (fun h3=>?_)
  ·have h3:zaW v.name=false:=by simpa using h3
   refine zaF (hT:=Tk) (r:=ii _) rfl rfl rfl trivial rfl rfl ?_;rw[hd];simp only[zbh,checkVr];rw[if_pos h3]
  have h3:¬zaW v.name=false:=by simpa using h3
  refine zc0 Tk Tryz.func145 (by omega) ?_;have hs:=zhJ ([(4,.box [.i (strI v.name),ii v.low,ii v.high,ii v.init]),(4,.box [.i (strI ⟨#[]⟩),ii 0,ii 0,ii 0])]::O) (l.take i) 201 0 4 (fun x=>x.name.toList==v.name.toList) (by rw[List.length_take];omega) fun x _=>zpC _ x v 2 4 rfl;rw[zuo hi] at hs;refine zc1 Tk Tryz.func145 hs rfl rfl rfl rfl rfl ?_;refine za2 Tk Tryz.func145 rfl (fun h4=>?_) (fun h4=>?_)
  ·refine zaF (hT:=Tk) (r:=ii _) rfl rfl rfl trivial rfl rfl ?_;rw[hd];simp only[zbh,checkVr];rw[if_neg h3,if_pos h4]
  have h4:¬((l.take i).any fun x=>x.name.toList==v.name.toList)=true:=by rw[h4];simp
  refine zc1 Tk Tryz.func145 (zlk _ v.low 65536) rfl rfl rfl rfl rfl ?_;have fin2:(checkVr.large v.low||checkVr.large v.high)=true→zbh l (l.drop i) i=2:=by
   intro h;rw[hd];simp only[zbh,checkVr];rw[if_neg h3,if_neg h4,if_pos h]
  have rest:(checkVr.large v.low||checkVr.large v.high)=false→zbh l (l.drop i) i=if v.low>v.high then 5 else if v.init<v.low∨v.init>v.high then 2 else zbh l (l.drop (i+1)) (i+1):=by
   intro h;rw[hd];simp only[zbh,checkVr];rw[if_neg h3,if_neg h4,if_neg (by rw[h];simp)]
   by_cases a1:v.low>v.high
   ·simp only[if_pos a1]
   ·simp only[if_neg a1]
    by_cases a2:v.init<v.low∨v.init>v.high
    ·simp only[if_pos a2]
    ·simp only[if_neg a2]
  refine zbs Tk Tryz.func145 rfl (fun h5=>?_) (fun h5=>?_)
  ·have h5:checkVr.large v.low=true:=h5;refine za2 Tk Tryz.func145 rfl (fun _=>?_) (fun h=>by cases h);refine zaF (hT:=Tk) (r:=ii _) rfl rfl rfl trivial rfl rfl ?_;rw[fin2 (by rw[h5];rfl)]
  have h5:checkVr.large v.low=false:=h5;refine zc1 Tk Tryz.func145 (zlk _ v.high 65536) rfl rfl rfl rfl rfl ?_;refine za2 Tk Tryz.func145 rfl (fun h6=>?_) (fun h6=>?_)
  ·have h6:checkVr.large v.high=true:=h6;refine zaF (hT:=Tk) (r:=ii _) rfl rfl rfl trivial rfl rfl ?_;rw[fin2 (by rw[h6,h5];rfl)]
  have h6:checkVr.large v.high=false:=h6;have rest:=rest (by rw[h5,h6];rfl);refine za2 Tk Tryz.func145 rfl (fun h7=>?_) (fun h7=>?_)
  ·have h7:v.low>v.high:=of_decide_eq_true h7;refine zaF (hT:=Tk) (r:=ii _) rfl rfl rfl trivial rfl rfl ?_;rw[rest,if_pos h7]
  have h7:¬v.low>v.high:=of_decide_eq_false h7;rw[if_neg h7] at rest;refine zbs Tk Tryz.func145 rfl (fun h8=>?_) (fun h8=>?_)
  ·have h8:v.init<v.low:=of_decide_eq_true h8;refine za2 Tk Tryz.func145 rfl (fun _=>?_) (fun h=>by cases h);refine zaF (hT:=Tk) (r:=ii _) rfl rfl rfl trivial rfl rfl ?_;rw[rest,if_pos (.inl h8)]
  have h8:¬v.init<v.low:=of_decide_eq_false h8;refine za2 Tk Tryz.func145 rfl (fun h9=>?_) (fun h9=>?_)
  ·have h9:v.init>v.high:=of_decide_eq_true h9;refine zaF (hT:=Tk) (r:=ii _) rfl rfl rfl trivial rfl rfl ?_;rw[rest,if_pos (.inr h9)]
  have h9:¬v.init>v.high:=of_decide_eq_false h9;rw[if_neg (by omega)] at rest;refine ih (i+1) _ _ ⟨h2,rest⟩ (by omega) ⟨rfl,rfl,rfl,congrArg ii (zaC h2 hl),trivial⟩ rfl trivial rfl rfl
 ·have h2:l.length≤i:=by simpa using h2
  refine zaF (hT:=Tk) (r:=ii _) rfl rfl rfl trivial rfl rfl ?_;rw[List.drop_eq_nil_of_le h2];rfl
inductive Ex where
 |mk (op val idx:Int) (args:List Ex)
mutual
def exI:Ex→List I
 |.mk op v i args=>[vi op,vi v,vi i,.sl 4 args.length (exIs args)]
def exIs:List Ex→List (List I)
 |[]=>[]
 |e::r=>exI e::exIs r
end
theorem zja:∀l:List Ex,exIs l=l.map exI
 |[]=>by simp[exIs]
 |e::r=>by simp[exIs,zja r]
def exD:Ex→D
 |.mk op v i args=>.agg [ii op,ii v,ii i,.i (.sl 4 args.length (exIs args))]
def zhx:Ex:=.mk 0 0 0 []
def trueE:Ex:=.mk 6 0 0 [zhx,zhx]
theorem zyg (O:List Heap):zao Tryz.prog 117 [] O (exD (.mk 6 0 0 [zhx,zhx])) [] O:=by
 refine zaa Tk Tryz.func117 rfl Tryz.call117 Tryz.ntmps117 (Nat.le_of_ble_eq_true rfl) fun E=>?_;refine zaZ Tk Tryz.func117 ?_;refine znD (hT:=Tk) (r:=.agg [ii 6,ii 0,ii 0,.i (.sl 4 2 [[vi 0,vi 0,vi 0,.v (.slice none 0 0)],[vi 0,vi 0,vi 0,.v (.slice none 0 0)]])]) rfl rfl rfl trivial rfl rfl ?_;show CoD _ (.agg [ii 6,ii 0,ii 0,.i (.sl 4 2 (exIs [zhx,zhx]))]);have hz:CoL [vi 0,vi 0,vi 0,.v (.slice none 0 0)] (exI zhx):=by
  simp only[zhx,exI];exact .cons (.refl _) (.cons (.refl _) (.cons (.refl _) (.cons zbd .nil)))
 refine zbu (.cons (.refl _) (.cons (.refl _) (.cons (.refl _) (.cons (zcv (zcB ?_)) .nil))));simp only[exIs];exact .cons hz (.cons hz .nil)
abbrev exs (l:List Ex):D:=.i (.sl 4 l.length (exIs l))
theorem zgn {l:List Ex} {i:Nat} (h:i<l.length):(exIs l)[(i:Int).toNat]? = some (exI l[i]):=by
 rw[zja];exact zan (f:=exI) h
mutual
def exOk:Ex→Prop
 |.mk _ _ _ a=>a.length≤zar∧zkA a
def zkA:List Ex→Prop
 |[]=>True
 |x::xs=>exOk x∧zkA xs
end
theorem zkz:∀{l:List Ex},zkA l→∀x∈l,exOk x
 |[],_,x,h=>by simp at h
 |y::r,h,x,hx=>by
  simp only[zkA] at h;rcases List.mem_cons.1 hx with rfl|hx
  ·exact h.1
  ·exact zkz h.2 x hx
def arity (x:Int):Int×Bool:=
 if x=0 then (0,true) else
 if x=1 then (0,true) else
 if x=5 then (1,true) else
 if x=10 then (1,true) else
 if x=2 then (2,true) else
 if x=3 then (2,true) else
 if x=4 then (2,true) else
 if x=6 then (2,true) else
 if x=7 then (2,true) else
 if x=8 then (2,true) else
 if x=9 then (2,true) else
 if x=11 then (2,true) else
 if x=12 then (2,true) else
 if x=13 then (3,true) else
 (0,false)
theorem zl2 (O:List Heap) (x:Int):zao Tryz.prog 272 [ii x] O (.tup [ii (arity x).1,bb (arity x).2]) [] O:=by
 refine zaa Tk Tryz.func272 rfl Tryz.call272 Tryz.ntmps272 (Nat.le_of_ble_eq_true rfl) fun E=>?_;refine zaZ Tk Tryz.func272 ?_;refine za2 Tk Tryz.func272 rfl (fun h=>?_) (fun h0=>?_)
 ·have h:x=0:=by simpa using h
  refine za2 Tk Tryz.func272 rfl (fun _=>?_) (fun h'=>by rw[h] at h';cases h');refine zaF (hT:=Tk) (r:=.tup [ii 0,bb true]) rfl rfl rfl trivial rfl rfl ?_;subst h;rfl
 have h0:x≠0:=by simpa using h0
 refine za2 Tk Tryz.func272 rfl (fun h=>?_) (fun h1=>?_)
 ·have h:x=1:=by simpa using h
  refine zaF (hT:=Tk) (r:=.tup [ii 0,bb true]) rfl rfl rfl trivial rfl rfl ?_;subst h;rfl
 have h1:x≠1:=by simpa using h1
 refine za2 Tk Tryz.func272 rfl (fun h=>?_) (fun h5=>?_)
 ·have h:x=5:=by simpa using h
  refine za2 Tk Tryz.func272 rfl (fun _=>?_) (fun h'=>by rw[h] at h';cases h');refine zaF (hT:=Tk) (r:=.tup [ii 1,bb true]) rfl rfl rfl trivial rfl rfl ?_;subst h;rfl
 have h5:x≠5:=by simpa using h5
 refine za2 Tk Tryz.func272 rfl (fun h=>?_) (fun h10=>?_)
 ·have h:x=10:=by simpa using h
  refine zaF (hT:=Tk) (r:=.tup [ii 1,bb true]) rfl rfl rfl trivial rfl rfl ?_;subst h;rfl
 have h10:x≠10:=by simpa using h10
 refine za2 Tk Tryz.func272 rfl (fun h=>?_) (fun h2=>?_)
 ·have h:x=2:=by simpa using h
  refine za2 Tk Tryz.func272 rfl (fun _=>?_) (fun h'=>by rw[h] at h';cases h');refine zaF (hT:=Tk) (r:=.tup [ii 2,bb true]) rfl rfl rfl trivial rfl rfl ?_;subst h;rfl
 have h2:x≠2:=by simpa using h2
 refine za2 Tk Tryz.func272 rfl (fun h=>?_) (fun h3=>?_)
 ·have h:x=3:=by simpa using h
  refine za2 Tk Tryz.func272 rfl (fun _=>?_) (fun h'=>by rw[h] at h';cases h');refine zaF (hT:=Tk) (r:=.tup [ii 2,bb true]) rfl rfl rfl trivial rfl rfl ?_;subst h;rfl
 have h3:x≠3:=by simpa using h3
 refine za2 Tk Tryz.func272 rfl (fun h=>?_) (fun h4=>?_)
 ·have h:x=4:=by simpa using h
  refine za2 Tk Tryz.func272 rfl (fun _=>?_) (fun h'=>by rw[h] at h';cases h');refine zaF (hT:=Tk) (r:=.tup [ii 2,bb true]) rfl rfl rfl trivial rfl rfl ?_;subst h;rfl
 have h4:x≠4:=by simpa using h4
 refine za2 Tk Tryz.func272 rfl (fun h=>?_) (fun h6=>?_)
 ·have h:x=6:=by simpa using h
  refine za2 Tk Tryz.func272 rfl (fun _=>?_) (fun h'=>by rw[h] at h';cases h');refine zaF (hT:=Tk) (r:=.tup [ii 2,bb true]) rfl rfl rfl trivial rfl rfl ?_;subst h;rfl
 have h6:x≠6:=by simpa using h6
 refine za2 Tk Tryz.func272 rfl (fun h=>?_) (fun h7=>?_)
 ·have h:x=7:=by simpa using h
  refine za2 Tk Tryz.func272 rfl (fun _=>?_) (fun h'=>by rw[h] at h';cases h');refine zaF (hT:=Tk) (r:=.tup [ii 2,bb true]) rfl rfl rfl trivial rfl rfl ?_;subst h;rfl
 have h7:x≠7:=by simpa using h7
 refine za2 Tk Tryz.func272 rfl (fun h=>?_) (fun h8=>?_)
 ·have h:x=8:=by simpa using h
  refine za2 Tk Tryz.func272 rfl (fun _=>?_) (fun h'=>by rw[h] at h';cases h');refine zaF (hT:=Tk) (r:=.tup [ii 2,bb true]) rfl rfl rfl trivial rfl rfl ?_;subst h;rfl
 have h8:x≠8:=by simpa using h8
 refine za2 Tk Tryz.func272 rfl (fun h=>?_) (fun h9=>?_)
 ·have h:x=9:=by simpa using h
  refine za2 Tk Tryz.func272 rfl (fun _=>?_) (fun h'=>by rw[h] at h';cases h');refine zaF (hT:=Tk) (r:=.tup [ii 2,bb true]) rfl rfl rfl trivial rfl rfl ?_;subst h;rfl
 have h9:x≠9:=by simpa using h9
 refine za2 Tk Tryz.func272 rfl (fun h=>?_) (fun h11=>?_)
 ·have h:x=11:=by simpa using h
  refine za2 Tk Tryz.func272 rfl (fun _=>?_) (fun h'=>by rw[h] at h';cases h');refine zaF (hT:=Tk) (r:=.tup [ii 2,bb true]) rfl rfl rfl trivial rfl rfl ?_;subst h;rfl
 have h11:x≠11:=by simpa using h11
 refine za2 Tk Tryz.func272 rfl (fun h=>?_) (fun h12=>?_)
 ·have h:x=12:=by simpa using h
  refine zaF (hT:=Tk) (r:=.tup [ii 2,bb true]) rfl rfl rfl trivial rfl rfl ?_;subst h;rfl
 have h12:x≠12:=by simpa using h12
 refine za2 Tk Tryz.func272 rfl (fun h=>?_) (fun h13=>?_)
 ·have h:x=13:=by simpa using h
  refine zaF (hT:=Tk) (r:=.tup [ii 3,bb true]) rfl rfl rfl trivial rfl rfl ?_;subst h;rfl
 have h13:x≠13:=by simpa using h13
 refine zaF (hT:=Tk) (r:=.tup [ii 0,bb false]) rfl rfl rfl trivial rfl rfl ?_;have e:arity x=(0,false):=by
  unfold arity;rw[if_neg h0];rw[if_neg h1];rw[if_neg h5];rw[if_neg h10];rw[if_neg h2];rw[if_neg h3];rw[if_neg h4];rw[if_neg h6];rw[if_neg h7];rw[if_neg h8];rw[if_neg h9];rw[if_neg h11];rw[if_neg h12];rw[if_neg h13]
 rw[e]
theorem ziv (O:List Heap) (b:Bool):zao Tryz.prog 275 [bb b] O (ii (if b then 1 else 0)) [] O:=by
 refine zaa Tk Tryz.func275 rfl Tryz.call275 Tryz.ntmps275 (Nat.le_of_ble_eq_true rfl) fun E=>?_;refine zaZ Tk Tryz.func275 ?_;refine za2 Tk Tryz.func275 rfl (fun h=>?_) (fun h=>?_)
 ·refine zaF (hT:=Tk) (r:=ii 1) rfl rfl rfl trivial rfl rfl ?_;rw[if_pos h]
 ·refine zaF (hT:=Tk) (r:=ii 0) rfl rfl rfl trivial rfl rfl ?_;rw[h];rfl
def within (l:List Vr) (xs:List Int):Bool:=match l,xs with
 |[],[]=>true
 |v::r,x::ys=>decide (v.low≤x)&&decide (x≤v.high)&&within r ys
 |_,_=>false
theorem zhO:∀(l:List Vr) (xs:List Int),l.length≠xs.length→within l xs=false
 |[],[],h=>absurd rfl h
 |[],_::_,_=>rfl
 |_::_,[],_=>rfl
 |v::r,x::ys,h=>by
  simp only[within];rw[zhO r ys (by simpa using h),Bool.and_false]
theorem zun (O:List Heap) (l:List Vr) (xs:List Int) (hl:l.length≤zar):zao Tryz.prog 88 [vrs l,ints xs] O (bb (within l xs)) [] O:=by
 refine zaa Tk Tryz.func88 rfl Tryz.call88 Tryz.ntmps88 (Nat.le_of_ble_eq_true rfl) fun E=>?_;refine zaZ Tk Tryz.func88 ?_;refine za2 Tk Tryz.func88 rfl (fun h1=>?_) (fun h1=>?_)
 ·refine zaF (hT:=Tk) (r:=bb _) rfl rfl rfl trivial rfl rfl ?_;have h1:(l.length:Int)≠xs.length:=by simpa using h1
  rw[zhO l xs (fun e=>h1 (by rw[e]))]
 have hlen:l.length=xs.length:=by
  have:(l.length:Int)=xs.length:=by simpa using h1
  omega
 refine zak (fun i:Nat=>[(0,vrs l),(1,ints xs),(12,vrs l),(13,ii l.length),(14,ii i)]) (fun _=>[]) (fun _=>O) 36 (fun i=>i≤l.length∧within l xs=within (l.drop i) (xs.drop i)) (fun i=>l.length-i) 0 ⟨Nat.zero_le _,rfl⟩ ⟨rfl,rfl,rfl,rfl,rfl,trivial⟩ rfl trivial rfl rfl ?_;intro i ⟨hi,hno⟩ ih;rw[hno];rw[hno] at ih;refine zaZ Tk Tryz.func88 ?_;refine za2 Tk Tryz.func88 rfl (fun h1=>?_) (fun h1=>?_)
 ·have h1:i<l.length:=by simpa using h1
  have h1':i<xs.length:=by omega
  have hd:l.drop i=l[i]::l.drop (i+1):=(List.drop_eq_getElem_cons h1);have hd':xs.drop i=xs[i]::xs.drop (i+1):=(List.drop_eq_getElem_cons h1');have g1:(l.map vrI)[(i:Int).toNat]? = some (vrI l[i]):=zan h1;have g2:(xs.map fun x=>[vi x])[(i:Int).toNat]? = some [vi xs[i]]:=zan (f:=fun x=>[vi x]) h1';generalize l[i]=v at hd g1;generalize xs[i]=x at hd' g2;refine zc0 Tk Tryz.func88 (by omega) ?_;refine zeu Tk Tryz.func88 (d:=vrI v) g1 ?_;refine znE Tk zaz rfl ?_;refine zas Tk (by omega) ?_;refine zaE Tk g2 ?_;refine zbS Tk (fun h2=>?_) (fun h2=>?_)
  ·have h2:x<v.low:=of_decide_eq_true h2;refine zrD Tk Tryz.func88 (by kernel_rfl) ?_;refine za2 Tk Tryz.func88 rfl (fun _=>?_) (fun h=>by cases h);refine zaF (hT:=Tk) (r:=bb _) rfl rfl rfl trivial rfl rfl ?_;rw[hd,hd'];simp only[within];rw[decide_eq_false (by omega:¬v.low≤x)];rfl
  ·have h2:¬x<v.low:=of_decide_eq_false h2;refine zas Tk (by omega) ?_;refine zaE Tk g2 ?_;refine zrD Tk Tryz.func88 (by kernel_rfl) ?_;refine za2 Tk Tryz.func88 rfl (fun h3=>?_) (fun h3=>?_)
   ·have h3:x>v.high:=of_decide_eq_true h3;refine zaF (hT:=Tk) (r:=bb _) rfl rfl rfl trivial rfl rfl ?_;rw[hd,hd'];simp only[within];rw[decide_eq_false (by omega:¬x≤v.high),Bool.and_false];rfl
   ·have h3:¬x>v.high:=of_decide_eq_false h3;refine ih (i+1) _ _ ⟨h1,?_⟩ (by omega) ⟨rfl,rfl,rfl,rfl,congrArg ii (zaC h1 hl),trivial⟩ rfl trivial rfl rfl;rw[hd,hd'];simp only[within];rw[decide_eq_true (by omega:v.low≤x),decide_eq_true (by omega:x≤v.high)];rfl
 ·have h1:l.length≤i:=by simpa using h1
  refine zaF (hT:=Tk) (r:=bb _) rfl rfl rfl trivial rfl rfl ?_;rw[List.drop_eq_nil_of_le h1,List.drop_eq_nil_of_le (by omega)];rfl
end Go.AI
namespace Go.AI
theorem zdQ:∀{S:List Heap} {d nm:Nat} {ob:Ob} (d' n':Nat),zab (setAt S d nm ob) d' n'=if d=d'∧nm=n'∧d<S.length then some ob else zab S d' n'
 |[],d,nm,ob,d',n'=>by simp[setAt]
 |H::S,0,nm,ob,d',n'=>by
  cases d' with
  |zero=>
   simp only[setAt,zab,List.getElem?_cons_zero,zac]
   by_cases h:nm=n'<;>simp[h]
  |succ d'=>simp[setAt,zab]
 |H::S,d+1,nm,ob,d',n'=>by
  cases d' with
  |zero=>simp[setAt,zab]
  |succ d'=>
   have:=zdQ (S:=S) (d:=d) (nm:=nm) (ob:=ob) d' n';simp only[zab] at this;simp only[setAt,zab,List.getElem?_cons_succ,this];simp
theorem ziM {S:List Heap} {d nm:Nat} {ob:Ob} (h:zab S d nm=some ob):d<S.length:=by
 unfold zab at h
 cases e:S[d]? with
 |none=>simp[e] at h
 |some H=>exact (List.getElem?_eq_some_iff.1 e).1
theorem length_set:∀{S:List Heap} {d nm:Nat} {ob:Ob},(setAt S d nm ob).length=S.length
 |[],d,nm,ob=>by simp[setAt]
 |H::S,0,nm,ob=>rfl
 |H::S,d+1,nm,ob=>by simp[setAt,length_set]
theorem zaf {S:List Heap} {d nm:Nat} {ob ob':Ob} (h:zab S d nm=some ob):zab (setAt S d nm ob') d nm=some ob':=by
 rw[zdQ,if_pos ⟨rfl,rfl,ziM h⟩]
theorem zbM {S:List Heap} {d nm:Nat} {a b:Ob} (d' n':Nat):zab (setAt S d nm b) d' n'=zab (setAt (setAt S d nm a) d nm b) d' n':=by
 simp only[zdQ,length_set]
 by_cases h:d=d'∧nm=n'∧d<S.length
 ·rw[if_pos h,if_pos h]
 ·rw[if_neg h,if_neg h,if_neg h]
theorem zbl {S:List Heap} {d nm:Nat} {a:Ob} (h:zab S d nm=some a) (d' n':Nat):zab (setAt S d nm a) d' n'=zab S d' n':=by
 rw[zdQ]
 by_cases e:d=d'∧nm=n'∧d<S.length
 ·obtain⟨rfl,rfl,_⟩:=e;rw[if_pos ⟨rfl,rfl,ziM h⟩,h]
 ·rw[if_neg e]
theorem zaU {S:List Heap} {d nm:Nat} {ob ob':Ob} (h:zab S d nm=some ob) (hs:ob'.sh=ob.sh):shape (setAt S d nm ob')=shape S:=by
 funext d' n';simp only[shape,zdQ]
 by_cases e:d=d'∧nm=n'∧d<S.length
 ·obtain⟨rfl,rfl,_⟩:=e;rw[if_pos ⟨rfl,rfl,ziM h⟩,h];simp[hs]
 ·rw[if_neg e]
theorem zcj {c:Cx} {todo:List Item} {s:St} {l:List (Nat×D)} {S':List Heap} {n':Nat} (h:Rch c todo {σ:=l,S:=S',n:=n' }) (hs:Sub s l) (hS:s.S=S') (hn:s.n=n'):Rch c todo s:=by
 subst hS;subst hn;exact zc7 h hs
theorem zau {c:Cx} {todo:List Item} {s:St} {l:List (Nat×D)} {H Hv:Heap} {O:List Heap} {n:Nat} (h:Rch c todo {σ:=l,S:=Hv::O,n:=n}) (hs:Sub s l) (hS:s.S=H::O) (hH:SubH H Hv) (hok:zgS l Hv=true) (hn:s.n=n):Rch c todo s:=zdq hs hS hH hok hn h
theorem zbK {c:Cx} {todo:List Item} {s6:St} {G P:Prop} (h1:(P→Rch c todo s6)→G) (h2:P→Rch c todo s6):G:=h1 h2
theorem zv9 {c:Cx} {todo:List Item} {G:Prop} {α:Type} {P:α→Prop} {s6:α→St} (h1:(∀a,P a→Rch c todo (s6 a))→G) (h2:∀a,P a→Rch c todo (s6 a)):G:=h1 h2
theorem ziw {α β:Type} {f:α→β} {l:List α} {i:Nat} (h:i<l.length):(l.take (i+1)).map f=(l.take i).map f++[f l[i]]:=by
 rw[List.take_add_one,List.getElem?_eq_getElem h,List.map_append];rfl
theorem beqT {a b:Int} (h:(a==b)=true):a=b:=by simpa using h
theorem beqF {a b:Int} (h:(a==b)=false):a≠b:=by simpa using h
theorem bneT {a b:Int} (h:(a != b)=true):a≠b:=by simpa using h
theorem bneF {a b:Int} (h:(a != b)=false):a=b:=by simpa using h
theorem notT {b:Bool} (h:(!b)=true):b=false:=by simpa using h
theorem notF {b:Bool} (h:(!b)=false):b=true:=by simpa using h
theorem zay {H:Heap} {S:List Heap} {d nm:Nat} {o:Ob} (h:zab S d nm=some o):zab (H::S) (d+1) nm=some o:=h
theorem zaG {H:Heap} {S S':List Heap} (h:∀d n,zab S' d n=zab S d n) (d n:Nat):zab (H::S') d n=zab (H::S) d n:=by
 cases d with
 |zero=>rfl
 |succ d=>have:=h d n;simpa [zab] using this
theorem za1 {H:Heap} {S S':List Heap} (h:shape S'=shape S):shape (H::S')=shape (H::S):=by
 funext d n
 cases d with
 |zero=>simp[shape,zab]
 |succ d=>
  have:=congrFun (congrFun h d) n;simpa [shape,zab] using this
end Go.AI
