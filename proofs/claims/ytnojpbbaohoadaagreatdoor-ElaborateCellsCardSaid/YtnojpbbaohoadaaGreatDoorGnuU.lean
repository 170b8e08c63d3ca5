/- The layer of abstract runs, part 21. -/
import Derived.Test.YtnojpbbaohoadaaGreatDoorGnuT
import Derived.Test.YtnojpbbaohoadaaGreatDoorProg
import Derived.KernelRfl
set_option linter.unusedSimpArgs false
set_option linter.unusedVariables false
set_option linter.all false
set_option maxRecDepth 20000
set_option maxHeartbeats 4000000
namespace Go.AI
open Go.Proofs
def zxp:TI:={ size:=1,bytes:=8,k:=.sc,zero:=[.nilFunc]}
def zxo:TI:={ size:=1,bytes:=8,k:=.int .i64,zero:=[.int .i64 0]}
def zxn:TI:={ size:=1,bytes:=8,k:=.int .i64,zero:=[.int .i64 0]}
def zxm:TI:={ size:=1,bytes:=1,k:=.bool,zero:=[.bool false]}
def zxl:TI:={ size:=1,bytes:=1,k:=.int .u8,zero:=[.int .u8 0]}
def zxk:TI:={ size:=1,bytes:=16,k:=.str,zero:=[.string ⟨#[]⟩]}
def zu9:TI:={ size:=1,bytes:=8,k:=.int .u64,zero:=[.int .u64 0]}
def zu7:TI:={ size:=1,bytes:=4,k:=.int .i32,zero:=[.int .i32 0]}
def zu6:TI:={ size:=1,bytes:=24,k:=.slice 141,zero:=[.slice none 0 0]}
def zu5:TI:={ size:=1,bytes:=24,k:=.slice 143,zero:=[.slice none 0 0]}
def zu4:TI:={ size:=1,bytes:=24,k:=.slice 147,zero:=[.slice none 0 0]}
def zu3:TI:={ size:=1,bytes:=1,k:=.int .i8,zero:=[.int .i8 0]}
def zu2:TI:={ size:=4,bytes:=80,k:=.struct [(0,1,false),(1,1,false),(2,1,false),(3,1,false)],zero:=[.slice none 0 0,.slice none 0 0,.slice none 0 0,.int .i8 0]}
def zu0:TI:={ size:=1,bytes:=24,k:=.slice 101,zero:=[.slice none 0 0]}
def zuZ:TI:={ size:=1,bytes:=24,k:=.slice 87,zero:=[.slice none 0 0]}
def zuY:TI:={ size:=1,bytes:=24,k:=.slice 107,zero:=[.slice none 0 0]}
def zuX:TI:={ size:=1,bytes:=24,k:=.slice 91,zero:=[.slice none 0 0]}
def zuW:TI:={ size:=1,bytes:=24,k:=.slice 96,zero:=[.slice none 0 0]}
def zuV:TI:={ size:=7,bytes:=160,k:=.struct [(0,1,false),(1,1,false),(2,1,false),(3,1,false),(4,1,false),(5,1,false),(6,1,false)],zero:=[.string ⟨#[]⟩,.slice none 0 0,.slice none 0 0,.slice none 0 0,.slice none 0 0,.slice none 0 0,.slice none 0 0]}
def zuT:TI:={ size:=2,bytes:=16,k:=.struct [(0,1,false),(1,1,false)],zero:=[.int .i64 0,.int .i64 0],cmp:=[.int .i64,.int .i64]}
def zuS:TI:={ size:=1,bytes:=8,k:=.int .i64,zero:=[.int .i64 0]}
def zuR:TI:={ size:=1,bytes:=8,k:=.sc,zero:=[.nilFunc]}
def zuQ:TI:={ size:=1,bytes:=24,k:=.slice 76,zero:=[.slice none 0 0]}
def zjQ:TI:={ size:=1,bytes:=24,k:=.slice 126,zero:=[.slice none 0 0]}
def zuP:TI:={ size:=1,bytes:=24,k:=.slice 158,zero:=[.slice none 0 0]}
def zuO:TI:={ size:=5,bytes:=120,k:=.struct [(0,1,false),(1,1,false),(2,1,false),(3,1,false),(4,1,false)],zero:=[.slice none 0 0,.slice none 0 0,.slice none 0 0,.slice none 0 0,.slice none 0 0]}
def zuM:TI:={ size:=1,bytes:=24,k:=.slice 3,zero:=[.slice none 0 0]}
def zuL:TI:={ size:=1,bytes:=24,k:=.slice 115,zero:=[.slice none 0 0]}
def zuK:TI:={ size:=1,bytes:=24,k:=.slice 187,zero:=[.slice none 0 0]}
def zuJ:TI:={ size:=6,bytes:=112,k:=.struct [(0,1,false),(1,1,false),(2,1,false),(3,1,false),(4,1,false),(5,1,false)],zero:=[.slice none 0 0,.int .i64 0,.int .i64 0,.slice none 0 0,.slice none 0 0,.slice none 0 0]}
def zuH:TI:={ size:=1,bytes:=24,k:=.slice 68,zero:=[.slice none 0 0]}
def zuG:TI:={ size:=2,bytes:=32,k:=.struct [(0,1,false),(1,1,false)],zero:=[.int .i64 0,.slice none 0 0]}
def zuF:TI:={ size:=1,bytes:=24,k:=.slice 5,zero:=[.slice none 0 0]}
def zuE:TI:={ size:=1,bytes:=24,k:=.slice 129,zero:=[.slice none 0 0]}
def zuD:TI:={ size:=4,bytes:=80,k:=.struct [(0,1,false),(1,1,false),(2,1,false),(3,1,false)],zero:=[.slice none 0 0,.int .i64 0,.slice none 0 0,.slice none 0 0]}
def zuC:TI:={ size:=5,bytes:=96,k:=.struct [(0,1,false),(1,4,true)],zero:=[.string ⟨#[]⟩,.slice none 0 0,.int .i64 0,.slice none 0 0,.slice none 0 0]}
def zuB:TI:={ size:=1,bytes:=24,k:=.slice 9,zero:=[.slice none 0 0]}
def zuA:TI:={ size:=9,bytes:=176,k:=.struct [(0,1,false),(1,1,false),(2,1,false),(3,6,true)],zero:=[.string ⟨#[]⟩,.slice none 0 0,.slice none 0 0,.slice none 0 0,.int .i64 0,.int .i64 0,.slice none 0 0,.slice none 0 0,.slice none 0 0]}
def zuz:TI:={ size:=1,bytes:=24,k:=.slice 103,zero:=[.slice none 0 0]}
def zuy:TI:={ size:=2,bytes:=40,k:=.struct [(0,1,false),(1,1,false)],zero:=[.string ⟨#[]⟩,.slice none 0 0]}
def zux:TI:={ size:=2,bytes:=24,k:=.struct [(0,1,false),(1,1,false)],zero:=[.string ⟨#[]⟩,.int .i64 0],cmp:=[.str,.int .i64]}
def zuw:TI:={ size:=1,bytes:=24,k:=.slice 93,zero:=[.slice none 0 0]}
def zuv:TI:={ size:=3,bytes:=48,k:=.struct [(0,1,false),(1,1,false),(2,1,false)],zero:=[.string ⟨#[]⟩,.slice none 0 0,.int .i64 0]}
def zp5:TI:={ size:=5,bytes:=32,k:=.struct [(0,1,false),(1,1,false),(2,1,false),(3,1,false),(4,1,false)],zero:=[.string ⟨#[]⟩,.bool false,.bool false,.bool false,.int .i64 0],cmp:=[.str,.bool,.bool,.bool,.int .i64]}
def zp4:TI:={ size:=2,bytes:=32,k:=.struct [(0,1,false),(1,1,false)],zero:=[.string ⟨#[]⟩,.string ⟨#[]⟩],cmp:=[.str,.str]}
def zp3:TI:={ size:=3,bytes:=56,k:=.struct [(0,1,false),(1,1,false),(2,1,false)],zero:=[.string ⟨#[]⟩,.string ⟨#[]⟩,.slice none 0 0]}
def zp2:TI:={ size:=4,bytes:=40,k:=.struct [(0,1,false),(1,1,false),(2,1,false),(3,1,false)],zero:=[.string ⟨#[]⟩,.int .i64 0,.int .i64 0,.int .i64 0],cmp:=[.str,.int .i64,.int .i64,.int .i64]}
def zp1:TI:={ size:=1,bytes:=24,k:=.slice 131,zero:=[.slice none 0 0]}
def zjR:TI:={ size:=2,bytes:=40,k:=.struct [(0,1,false),(1,1,false)],zero:=[.string ⟨#[]⟩,.slice none 0 0]}
def zp0:TI:={ size:=3,bytes:=24,k:=.struct [(0,1,false),(1,1,false),(2,1,false)],zero:=[.int .i64 0,.int .i64 0,.int .i64 0],cmp:=[.int .i64,.int .i64,.int .i64]}
def zpZ:TI:={ size:=2,bytes:=16,k:=.struct [(0,1,false),(1,1,false)],zero:=[.int .i64 0,.int .i64 0],cmp:=[.int .i64,.int .i64]}
def zpY:TI:={ size:=1,bytes:=24,k:=.slice 288,zero:=[.slice none 0 0]}
def zpX:TI:={ size:=1,bytes:=24,k:=.slice 229,zero:=[.slice none 0 0]}
def zpW:TI:={ size:=4,bytes:=56,k:=.struct [(0,1,false),(1,1,false),(2,1,false),(3,1,false)],zero:=[.int .u8 0,.int .u8 0,.slice none 0 0,.slice none 0 0]}
def zpV:TI:={ size:=3,bytes:=3,k:=.struct [(0,1,false),(1,1,false),(2,1,false)],zero:=[.int .u8 0,.int .u8 0,.bool false]}
def zpU:TI:={ size:=2,bytes:=2,k:=.struct [(0,1,false),(1,1,false)],zero:=[.int .u8 0,.int .u8 0]}
def zpT:TI:={ size:=4,bytes:=4,k:=.arr 2 146,zero:=[.int .u8 0,.int .u8 0,.int .u8 0,.int .u8 0]}
def zpS:TI:={ size:=1,bytes:=8,k:=.sc,zero:=[.nilFunc]}
def zpR:TI:={ size:=1,bytes:=24,k:=.slice 44,zero:=[.slice none 0 0]}
def zpQ:TI:={ size:=1,bytes:=24,k:=.slice 62,zero:=[.slice none 0 0]}
def zpP:TI:={ size:=1,bytes:=24,k:=.slice 160,zero:=[.slice none 0 0]}
def zpO:TI:={ size:=3,bytes:=48,k:=.struct [(0,1,false),(1,1,false),(2,1,false)],zero:=[.string ⟨#[]⟩,.slice none 0 0,.int .i64 0]}
def zpN:TI:={ size:=2,bytes:=16,k:=.struct [(0,1,false),(1,1,false)],zero:=[.int .i64 0,.int .i64 0],cmp:=[.int .i64,.int .i64]}
def zpM:TI:={ size:=1,bytes:=8,k:=.sc,zero:=[.nilFunc]}
def zpL:TI:={ size:=1,bytes:=8,k:=.sc,zero:=[.nilFunc]}
def zpK:TI:={ size:=1,bytes:=24,k:=.slice 184,zero:=[.slice none 0 0]}
def zpJ:TI:={ size:=4,bytes:=48,k:=.struct [(0,1,false),(1,1,false),(2,1,false),(3,1,false)],zero:=[.int .i64 0,.int .i64 0,.int .i64 0,.slice none 0 0]}
def zpI:TI:={ size:=1,bytes:=24,k:=.slice 189,zero:=[.slice none 0 0]}
def zpH:TI:={ size:=8,bytes:=96,k:=.struct [(0,1,false),(1,1,false),(2,1,false),(3,4,true),(7,1,false)],zero:=[.int .i64 0,.int .i64 0,.int .i64 0,.int .i64 0,.int .i64 0,.int .i64 0,.slice none 0 0,.slice none 0 0]}
def zpG:TI:={ size:=5,bytes:=56,k:=.struct [(0,1,false),(1,4,true)],zero:=[.int .i64 0,.int .i64 0,.int .i64 0,.int .i64 0,.slice none 0 0]}
def zpF:TI:={ size:=1,bytes:=8,k:=.ptr 49,zero:=[.pointer none]}
def zpE:TI:={ size:=1,bytes:=8,k:=.sc,zero:=[.nilFunc]}
def zpD:TI:={ size:=1,bytes:=8,k:=.sc,zero:=[.nilFunc]}
def zpC:TI:={ size:=1,bytes:=8,k:=.sc,zero:=[.nilFunc]}
def zpB:TI:={ size:=1,bytes:=8,k:=.sc,zero:=[.nilFunc]}
def zpA:TI:={ size:=1,bytes:=8,k:=.sc,zero:=[.nilFunc]}
def zpz:TI:={ size:=1,bytes:=8,k:=.sc,zero:=[.nilFunc]}
def zpy:TI:={ size:=1,bytes:=8,k:=.sc,zero:=[.nilFunc]}
def zpx:TI:={ size:=1,bytes:=8,k:=.sc,zero:=[.nilFunc]}
def zpw:TI:={ size:=3,bytes:=3,k:=.arr 3 5,zero:=[.int .u8 0,.int .u8 0,.int .u8 0]}
def zpv:TI:={ size:=5,bytes:=56,k:=.struct [(0,3,true),(3,1,false),(4,1,false)],zero:=[.int .u8 0,.int .u8 0,.int .u8 0,.slice none 0 0,.slice none 0 0]}
def zpu:TI:={ size:=1,bytes:=8,k:=.map 9 4,zero:=[.map none]}
def zpt:TI:={ size:=1,bytes:=24,k:=.slice 4,zero:=[.slice none 0 0]}
def zps:TI:={ size:=1,bytes:=8,k:=.sc,zero:=[.nilFunc]}
def zpr:TI:={ size:=1,bytes:=8,k:=.sc,zero:=[.nilFunc]}
def zpq:TI:={ size:=1,bytes:=8,k:=.sc,zero:=[.nilFunc]}
def zpp:TI:={ size:=1,bytes:=8,k:=.int .u64,zero:=[.int .u64 0]}
def zpo:TI:={ size:=1,bytes:=8,k:=.ptr 187,zero:=[.pointer none]}
def zpn:TI:={ size:=1,bytes:=24,k:=.slice 124,zero:=[.slice none 0 0]}
def zpm:TI:={ size:=1,bytes:=24,k:=.slice 55,zero:=[.slice none 0 0]}
def zpl:TI:={ size:=1,bytes:=8,k:=.ptr 277,zero:=[.pointer none]}
def zpk:TI:={ size:=2,bytes:=32,k:=.struct [(0,1,false),(1,1,false)],zero:=[.pointer none,.slice none 0 0]}
def zpj:TI:={ size:=1,bytes:=16,k:=.sc,zero:=[.nilIface]}
def zpi:TI:={ size:=1,bytes:=8,k:=.map 9 3,zero:=[.map none]}
def zph:TI:={ size:=2,bytes:=2,k:=.arr 2 25,zero:=[.int .i8 0,.int .i8 0]}
def zpg:TI:={ size:=1,bytes:=8,k:=.ptr 291,zero:=[.pointer none]}
def zpf:TI:={ size:=3,bytes:=40,k:=.struct [(0,1,false),(1,1,false),(2,1,false)],zero:=[.slice none 0 0,.int .i64 0,.int .i64 0]}
def zpe:TI:={ size:=1,bytes:=8,k:=.sc,zero:=[.nilFunc]}
def zpd:TI:={ size:=1,bytes:=8,k:=.sc,zero:=[.nilFunc]}
def zpc:TI:={ size:=1,bytes:=24,k:=.slice 304,zero:=[.slice none 0 0]}
def zpb:TI:={ size:=2,bytes:=32,k:=.struct [(0,1,false),(1,1,false)],zero:=[.int .i64 0,.slice none 0 0]}
def zpa:TI:={ size:=1,bytes:=8,k:=.sc,zero:=[.nilFunc]}
def zo9:TI:={ size:=1,bytes:=8,k:=.sc,zero:=[.nilFunc]}
def zo8:TI:={ size:=1,bytes:=8,k:=.int .i64,zero:=[.int .i64 0]}
def zo7:TI:={ size:=1,bytes:=4,k:=.int .u32,zero:=[.int .u32 0]}
def zo6:TI:={ size:=1,bytes:=8,k:=.int .u64,zero:=[.int .u64 0]}
def zo5:TI:={ size:=1,bytes:=8,k:=.sc,zero:=[.nilFunc]}
def zo4:TI:={ size:=24,bytes:=24,k:=.arr 24 5,zero:=[.int .u8 0,.int .u8 0,.int .u8 0,.int .u8 0,.int .u8 0,.int .u8 0,.int .u8 0,.int .u8 0,.int .u8 0,.int .u8 0,.int .u8 0,.int .u8 0,.int .u8 0,.int .u8 0,.int .u8 0,.int .u8 0,.int .u8 0,.int .u8 0,.int .u8 0,.int .u8 0,.int .u8 0,.int .u8 0,.int .u8 0,.int .u8 0]}
def zo3:TI:={ size:=1,bytes:=8,k:=.int .u64,zero:=[.int .u64 0]}
def zo2:TI:={ size:=1,bytes:=8,k:=.ptr 3,zero:=[.pointer none]}
def zo1:TI:={ size:=20,bytes:=160,k:=.arr 20 321,zero:=[.int .u64 0,.int .u64 0,.int .u64 0,.int .u64 0,.int .u64 0,.int .u64 0,.int .u64 0,.int .u64 0,.int .u64 0,.int .u64 0,.int .u64 0,.int .u64 0,.int .u64 0,.int .u64 0,.int .u64 0,.int .u64 0,.int .u64 0,.int .u64 0,.int .u64 0,.int .u64 0]}
def zo0:TI:={ size:=65,bytes:=65,k:=.arr 65 5,zero:=[.int .u8 0,.int .u8 0,.int .u8 0,.int .u8 0,.int .u8 0,.int .u8 0,.int .u8 0,.int .u8 0,.int .u8 0,.int .u8 0,.int .u8 0,.int .u8 0,.int .u8 0,.int .u8 0,.int .u8 0,.int .u8 0,.int .u8 0,.int .u8 0,.int .u8 0,.int .u8 0,.int .u8 0,.int .u8 0,.int .u8 0,.int .u8 0,.int .u8 0,.int .u8 0,.int .u8 0,.int .u8 0,.int .u8 0,.int .u8 0,.int .u8 0,.int .u8 0,.int .u8 0,.int .u8 0,.int .u8 0,.int .u8 0,.int .u8 0,.int .u8 0,.int .u8 0,.int .u8 0,.int .u8 0,.int .u8 0,.int .u8 0,.int .u8 0,.int .u8 0,.int .u8 0,.int .u8 0,.int .u8 0,.int .u8 0,.int .u8 0,.int .u8 0,.int .u8 0,.int .u8 0,.int .u8 0,.int .u8 0,.int .u8 0,.int .u8 0,.int .u8 0,.int .u8 0,.int .u8 0,.int .u8 0,.int .u8 0,.int .u8 0,.int .u8 0,.int .u8 0]}
def zoZ:TI:={ size:=1,bytes:=8,k:=.ptr 353,zero:=[.pointer none]}
def zoY:TI:={ size:=32,bytes:=32,k:=.arr 32 5,zero:=[.int .u8 0,.int .u8 0,.int .u8 0,.int .u8 0,.int .u8 0,.int .u8 0,.int .u8 0,.int .u8 0,.int .u8 0,.int .u8 0,.int .u8 0,.int .u8 0,.int .u8 0,.int .u8 0,.int .u8 0,.int .u8 0,.int .u8 0,.int .u8 0,.int .u8 0,.int .u8 0,.int .u8 0,.int .u8 0,.int .u8 0,.int .u8 0,.int .u8 0,.int .u8 0,.int .u8 0,.int .u8 0,.int .u8 0,.int .u8 0,.int .u8 0,.int .u8 0]}
def zoX:TI:={ size:=64,bytes:=64,k:=.arr 64 5,zero:=[.int .u8 0,.int .u8 0,.int .u8 0,.int .u8 0,.int .u8 0,.int .u8 0,.int .u8 0,.int .u8 0,.int .u8 0,.int .u8 0,.int .u8 0,.int .u8 0,.int .u8 0,.int .u8 0,.int .u8 0,.int .u8 0,.int .u8 0,.int .u8 0,.int .u8 0,.int .u8 0,.int .u8 0,.int .u8 0,.int .u8 0,.int .u8 0,.int .u8 0,.int .u8 0,.int .u8 0,.int .u8 0,.int .u8 0,.int .u8 0,.int .u8 0,.int .u8 0,.int .u8 0,.int .u8 0,.int .u8 0,.int .u8 0,.int .u8 0,.int .u8 0,.int .u8 0,.int .u8 0,.int .u8 0,.int .u8 0,.int .u8 0,.int .u8 0,.int .u8 0,.int .u8 0,.int .u8 0,.int .u8 0,.int .u8 0,.int .u8 0,.int .u8 0,.int .u8 0,.int .u8 0,.int .u8 0,.int .u8 0,.int .u8 0,.int .u8 0,.int .u8 0,.int .u8 0,.int .u8 0,.int .u8 0,.int .u8 0,.int .u8 0,.int .u8 0]}
theorem zu8:TIok Tryz.prog 1 zxp:=tiok Tryz.type1 rfl rfl rfl rfl (by intro h;first|rfl|cases h) ⟨_,Tryz.underlying1,(by intro x h;cases h),(by intro x y h;cases h)⟩ (by decide) rfl (by decide) (.inl rfl)
theorem zu1:TIok Tryz.prog 2 zxo:=tiok Tryz.type2 rfl rfl rfl rfl (by intro h;first|rfl|cases h) Tryz.underlying2 (by decide) rfl (by decide) (.inl rfl)
theorem zuU:TIok Tryz.prog 3 zxn:=tiok Tryz.type3 rfl rfl rfl rfl (by intro h;first|rfl|cases h) Tryz.underlying3 (by decide) rfl (by decide) (.inl rfl)
theorem zuN:TIok Tryz.prog 4 zxm:=tiok Tryz.type4 rfl rfl rfl rfl (by intro h;first|rfl|cases h) Tryz.underlying4 (by decide) rfl (by decide) (.inl rfl)
theorem zuI:TIok Tryz.prog 5 zxl:=tiok Tryz.type5 rfl rfl rfl rfl (by intro h;first|rfl|cases h) Tryz.underlying5 (by decide) rfl (by decide) (.inl rfl)
theorem zuu:TIok Tryz.prog 9 zxk:=tiok Tryz.type9 rfl rfl rfl rfl (by intro h;first|rfl|cases h) Tryz.underlying9 (by decide) rfl (by decide) (.inl rfl)
theorem zrY:TIok Tryz.prog 12 zu9:=tiok Tryz.type12 rfl rfl rfl rfl (by intro h;first|rfl|cases h) Tryz.underlying12 (by decide) rfl (by decide) (.inl rfl)
theorem zrX:TIok Tryz.prog 21 zu7:=tiok Tryz.type21 rfl rfl rfl rfl (by intro h;first|rfl|cases h) Tryz.underlying21 (by decide) rfl (by decide) (.inl rfl)
theorem zrW:TIok Tryz.prog 22 zu6:=tiok Tryz.type22 rfl rfl rfl rfl (by intro h;first|rfl|cases h) Tryz.underlying22 (by decide) rfl (by decide) (.inl rfl)
theorem zrV:TIok Tryz.prog 23 zu5:=tiok Tryz.type23 rfl rfl rfl rfl (by intro h;first|rfl|cases h) Tryz.underlying23 (by decide) rfl (by decide) (.inl rfl)
theorem zrU:TIok Tryz.prog 24 zu4:=tiok Tryz.type24 rfl rfl rfl rfl (by intro h;first|rfl|cases h) Tryz.underlying24 (by decide) rfl (by decide) (.inl rfl)
theorem zrT:TIok Tryz.prog 25 zu3:=tiok Tryz.type25 rfl rfl rfl rfl (by intro h;first|rfl|cases h) Tryz.underlying25 (by decide) rfl (by decide) (.inl rfl)
theorem zrS:TIok Tryz.prog 27 zu2:=tiok Tryz.type27 rfl rfl rfl rfl (by intro h;first|rfl|cases h) (zaw Tryz.underlying27 (.cons ⟨rfl,⟨_,Tryz.type22,rfl⟩,by decide,Tryz.isAgg22⟩ (.cons ⟨rfl,⟨_,Tryz.type23,rfl⟩,by decide,Tryz.isAgg23⟩ (.cons ⟨rfl,⟨_,Tryz.type24,rfl⟩,by decide,Tryz.isAgg24⟩ (.cons ⟨rfl,⟨_,Tryz.type25,rfl⟩,by decide,Tryz.isAgg25⟩ .nil))))) (by decide) rfl (by decide) (.inl rfl)
theorem zrR:TIok Tryz.prog 31 zu0:=tiok Tryz.type31 rfl rfl rfl rfl (by intro h;first|rfl|cases h) Tryz.underlying31 (by decide) rfl (by decide) (.inl rfl)
theorem zrQ:TIok Tryz.prog 32 zuZ:=tiok Tryz.type32 rfl rfl rfl rfl (by intro h;first|rfl|cases h) Tryz.underlying32 (by decide) rfl (by decide) (.inl rfl)
theorem zrP:TIok Tryz.prog 33 zuY:=tiok Tryz.type33 rfl rfl rfl rfl (by intro h;first|rfl|cases h) Tryz.underlying33 (by decide) rfl (by decide) (.inl rfl)
theorem zrO:TIok Tryz.prog 34 zuX:=tiok Tryz.type34 rfl rfl rfl rfl (by intro h;first|rfl|cases h) Tryz.underlying34 (by decide) rfl (by decide) (.inl rfl)
theorem zrN:TIok Tryz.prog 35 zuW:=tiok Tryz.type35 rfl rfl rfl rfl (by intro h;first|rfl|cases h) Tryz.underlying35 (by decide) rfl (by decide) (.inl rfl)
theorem zrM:TIok Tryz.prog 37 zuV:=tiok Tryz.type37 rfl rfl rfl rfl (by intro h;first|rfl|cases h) (zaw Tryz.underlying37 (.cons ⟨rfl,⟨_,Tryz.type9,rfl⟩,by decide,Tryz.isAgg9⟩ (.cons ⟨rfl,⟨_,Tryz.type31,rfl⟩,by decide,Tryz.isAgg31⟩ (.cons ⟨rfl,⟨_,Tryz.type32,rfl⟩,by decide,Tryz.isAgg32⟩ (.cons ⟨rfl,⟨_,Tryz.type33,rfl⟩,by decide,Tryz.isAgg33⟩ (.cons ⟨rfl,⟨_,Tryz.type33,rfl⟩,by decide,Tryz.isAgg33⟩ (.cons ⟨rfl,⟨_,Tryz.type34,rfl⟩,by decide,Tryz.isAgg34⟩ (.cons ⟨rfl,⟨_,Tryz.type35,rfl⟩,by decide,Tryz.isAgg35⟩ .nil)))))))) (by decide) rfl (by decide) (.inl rfl)
theorem zrL:TIok Tryz.prog 41 zuT:=tiok Tryz.type41 rfl rfl rfl rfl (by intro h;first|rfl|cases h) (zaw Tryz.underlying41 (.cons ⟨rfl,⟨_,Tryz.type3,rfl⟩,by decide,Tryz.isAgg3⟩ (.cons ⟨rfl,⟨_,Tryz.type3,rfl⟩,by decide,Tryz.isAgg3⟩ .nil))) (by decide) rfl (by decide) (.inr (.inl ⟨Tryz.underlying41,by kernel_rfl,Tryz.eqGuardType41,⟨by decide,rfl,Tryz.underlying3,⟨by decide,rfl,Tryz.underlying3,trivial⟩⟩⟩))
theorem zrK:TIok Tryz.prog 42 zuS:=tiok Tryz.type42 rfl rfl rfl rfl (by intro h;first|rfl|cases h) Tryz.underlying42 (by decide) rfl (by decide) (.inl rfl)
theorem zrJ:TIok Tryz.prog 44 zuR:=tiok Tryz.type44 rfl rfl rfl rfl (by intro h;first|rfl|cases h) ⟨_,Tryz.underlying44,(by intro x h;cases h),(by intro x y h;cases h)⟩ (by decide) rfl (by decide) (.inl rfl)
theorem zrI:TIok Tryz.prog 45 zuQ:=tiok Tryz.type45 rfl rfl rfl rfl (by intro h;first|rfl|cases h) Tryz.underlying45 (by decide) rfl (by decide) (.inl rfl)
theorem zrH:TIok Tryz.prog 46 zjQ:=tiok Tryz.type46 rfl rfl rfl rfl (by intro h;first|rfl|cases h) Tryz.underlying46 (by decide) rfl (by decide) (.inl rfl)
theorem zrG:TIok Tryz.prog 47 zuP:=tiok Tryz.type47 rfl rfl rfl rfl (by intro h;first|rfl|cases h) Tryz.underlying47 (by decide) rfl (by decide) (.inl rfl)
theorem zrF:TIok Tryz.prog 49 zuO:=tiok Tryz.type49 rfl rfl rfl rfl (by intro h;first|rfl|cases h) (zaw Tryz.underlying49 (.cons ⟨rfl,⟨_,Tryz.type31,rfl⟩,by decide,Tryz.isAgg31⟩ (.cons ⟨rfl,⟨_,Tryz.type45,rfl⟩,by decide,Tryz.isAgg45⟩ (.cons ⟨rfl,⟨_,Tryz.type45,rfl⟩,by decide,Tryz.isAgg45⟩ (.cons ⟨rfl,⟨_,Tryz.type46,rfl⟩,by decide,Tryz.isAgg46⟩ (.cons ⟨rfl,⟨_,Tryz.type47,rfl⟩,by decide,Tryz.isAgg47⟩ .nil)))))) (by decide) rfl (by decide) (.inl rfl)
theorem zrE:TIok Tryz.prog 55 zuM:=tiok Tryz.type55 rfl rfl rfl rfl (by intro h;first|rfl|cases h) Tryz.underlying55 (by decide) rfl (by decide) (.inl rfl)
theorem zrD:TIok Tryz.prog 56 zuL:=tiok Tryz.type56 rfl rfl rfl rfl (by intro h;first|rfl|cases h) Tryz.underlying56 (by decide) rfl (by decide) (.inl rfl)
theorem zrC:TIok Tryz.prog 57 zuK:=tiok Tryz.type57 rfl rfl rfl rfl (by intro h;first|rfl|cases h) Tryz.underlying57 (by decide) rfl (by decide) (.inl rfl)
theorem zrB:TIok Tryz.prog 59 zuJ:=tiok Tryz.type59 rfl rfl rfl rfl (by intro h;first|rfl|cases h) (zaw Tryz.underlying59 (.cons ⟨rfl,⟨_,Tryz.type55,rfl⟩,by decide,Tryz.isAgg55⟩ (.cons ⟨rfl,⟨_,Tryz.type3,rfl⟩,by decide,Tryz.isAgg3⟩ (.cons ⟨rfl,⟨_,Tryz.type3,rfl⟩,by decide,Tryz.isAgg3⟩ (.cons ⟨rfl,⟨_,Tryz.type55,rfl⟩,by decide,Tryz.isAgg55⟩ (.cons ⟨rfl,⟨_,Tryz.type56,rfl⟩,by decide,Tryz.isAgg56⟩ (.cons ⟨rfl,⟨_,Tryz.type57,rfl⟩,by decide,Tryz.isAgg57⟩ .nil))))))) (by decide) rfl (by decide) (.inl rfl)
theorem zrA:TIok Tryz.prog 62 zuH:=tiok Tryz.type62 rfl rfl rfl rfl (by intro h;first|rfl|cases h) Tryz.underlying62 (by decide) rfl (by decide) (.inl rfl)
theorem zrz:TIok Tryz.prog 68 zuG:=tiok Tryz.type68 rfl rfl rfl rfl (by intro h;first|rfl|cases h) (zaw Tryz.underlying68 (.cons ⟨rfl,⟨_,Tryz.type3,rfl⟩,by decide,Tryz.isAgg3⟩ (.cons ⟨rfl,⟨_,Tryz.type55,rfl⟩,by decide,Tryz.isAgg55⟩ .nil))) (by decide) rfl (by decide) (.inl rfl)
theorem zry:TIok Tryz.prog 71 zuF:=tiok Tryz.type71 rfl rfl rfl rfl (by intro h;first|rfl|cases h) Tryz.underlying71 (by decide) rfl (by decide) (.inl rfl)
theorem zrx:TIok Tryz.prog 72 zuE:=tiok Tryz.type72 rfl rfl rfl rfl (by intro h;first|rfl|cases h) Tryz.underlying72 (by decide) rfl (by decide) (.inl rfl)
theorem zrw:TIok Tryz.prog 74 zuD:=tiok Tryz.type74 rfl rfl rfl rfl (by intro h;first|rfl|cases h) (zaw Tryz.underlying74 (.cons ⟨rfl,⟨_,Tryz.type55,rfl⟩,by decide,Tryz.isAgg55⟩ (.cons ⟨rfl,⟨_,Tryz.type3,rfl⟩,by decide,Tryz.isAgg3⟩ (.cons ⟨rfl,⟨_,Tryz.type55,rfl⟩,by decide,Tryz.isAgg55⟩ (.cons ⟨rfl,⟨_,Tryz.type72,rfl⟩,by decide,Tryz.isAgg72⟩ .nil))))) (by decide) rfl (by decide) (.inl rfl)
theorem zrv:TIok Tryz.prog 76 zuC:=tiok Tryz.type76 rfl rfl rfl rfl (by intro h;first|rfl|cases h) (zaw Tryz.underlying76 (.cons ⟨rfl,⟨_,Tryz.type9,rfl⟩,by decide,Tryz.isAgg9⟩ (.cons ⟨rfl,⟨_,Tryz.type74,rfl⟩,by decide,Tryz.isAgg74⟩ .nil))) (by decide) rfl (by decide) (.inl rfl)
theorem zru:TIok Tryz.prog 85 zuB:=tiok Tryz.type85 rfl rfl rfl rfl (by intro h;first|rfl|cases h) Tryz.underlying85 (by decide) rfl (by decide) (.inl rfl)
theorem zrt:TIok Tryz.prog 87 zuA:=tiok Tryz.type87 rfl rfl rfl rfl (by intro h;first|rfl|cases h) (zaw Tryz.underlying87 (.cons ⟨rfl,⟨_,Tryz.type9,rfl⟩,by decide,Tryz.isAgg9⟩ (.cons ⟨rfl,⟨_,Tryz.type85,rfl⟩,by decide,Tryz.isAgg85⟩ (.cons ⟨rfl,⟨_,Tryz.type85,rfl⟩,by decide,Tryz.isAgg85⟩ (.cons ⟨rfl,⟨_,Tryz.type59,rfl⟩,by decide,Tryz.isAgg59⟩ .nil))))) (by decide) rfl (by decide) (.inl rfl)
theorem zrs:TIok Tryz.prog 89 zuz:=tiok Tryz.type89 rfl rfl rfl rfl (by intro h;first|rfl|cases h) Tryz.underlying89 (by decide) rfl (by decide) (.inl rfl)
theorem zrr:TIok Tryz.prog 91 zuy:=tiok Tryz.type91 rfl rfl rfl rfl (by intro h;first|rfl|cases h) (zaw Tryz.underlying91 (.cons ⟨rfl,⟨_,Tryz.type9,rfl⟩,by decide,Tryz.isAgg9⟩ (.cons ⟨rfl,⟨_,Tryz.type89,rfl⟩,by decide,Tryz.isAgg89⟩ .nil))) (by decide) rfl (by decide) (.inl rfl)
theorem zrq:TIok Tryz.prog 93 zux:=tiok Tryz.type93 rfl rfl rfl rfl (by intro h;first|rfl|cases h) (zaw Tryz.underlying93 (.cons ⟨rfl,⟨_,Tryz.type9,rfl⟩,by decide,Tryz.isAgg9⟩ (.cons ⟨rfl,⟨_,Tryz.type3,rfl⟩,by decide,Tryz.isAgg3⟩ .nil))) (by decide) rfl (by decide) (.inr (.inl ⟨Tryz.underlying93,by kernel_rfl,Tryz.eqGuardType93,⟨by decide,rfl,Tryz.underlying9,⟨by decide,rfl,Tryz.underlying3,trivial⟩⟩⟩))
theorem zrp:TIok Tryz.prog 94 zuw:=tiok Tryz.type94 rfl rfl rfl rfl (by intro h;first|rfl|cases h) Tryz.underlying94 (by decide) rfl (by decide) (.inl rfl)
theorem zro:TIok Tryz.prog 96 zuv:=tiok Tryz.type96 rfl rfl rfl rfl (by intro h;first|rfl|cases h) (zaw Tryz.underlying96 (.cons ⟨rfl,⟨_,Tryz.type9,rfl⟩,by decide,Tryz.isAgg9⟩ (.cons ⟨rfl,⟨_,Tryz.type94,rfl⟩,by decide,Tryz.isAgg94⟩ (.cons ⟨rfl,⟨_,Tryz.type3,rfl⟩,by decide,Tryz.isAgg3⟩ .nil)))) (by decide) rfl (by decide) (.inl rfl)
theorem znR:TIok Tryz.prog 101 zp5:=tiok Tryz.type101 rfl rfl rfl rfl (by intro h;first|rfl|cases h) (zaw Tryz.underlying101 (.cons ⟨rfl,⟨_,Tryz.type9,rfl⟩,by decide,Tryz.isAgg9⟩ (.cons ⟨rfl,⟨_,Tryz.type4,rfl⟩,by decide,Tryz.isAgg4⟩ (.cons ⟨rfl,⟨_,Tryz.type4,rfl⟩,by decide,Tryz.isAgg4⟩ (.cons ⟨rfl,⟨_,Tryz.type4,rfl⟩,by decide,Tryz.isAgg4⟩ (.cons ⟨rfl,⟨_,Tryz.type3,rfl⟩,by decide,Tryz.isAgg3⟩ .nil)))))) (by decide) rfl (by decide) (.inr (.inl ⟨Tryz.underlying101,by kernel_rfl,Tryz.eqGuardType101,⟨by decide,rfl,Tryz.underlying9,⟨by decide,rfl,Tryz.underlying4,⟨by decide,rfl,Tryz.underlying4,⟨by decide,rfl,Tryz.underlying4,⟨by decide,rfl,Tryz.underlying3,trivial⟩⟩⟩⟩⟩⟩))
theorem znQ:TIok Tryz.prog 103 zp4:=tiok Tryz.type103 rfl rfl rfl rfl (by intro h;first|rfl|cases h) (zaw Tryz.underlying103 (.cons ⟨rfl,⟨_,Tryz.type9,rfl⟩,by decide,Tryz.isAgg9⟩ (.cons ⟨rfl,⟨_,Tryz.type9,rfl⟩,by decide,Tryz.isAgg9⟩ .nil))) (by decide) rfl (by decide) (.inr (.inl ⟨Tryz.underlying103,by kernel_rfl,Tryz.eqGuardType103,⟨by decide,rfl,Tryz.underlying9,⟨by decide,rfl,Tryz.underlying9,trivial⟩⟩⟩))
theorem znP:TIok Tryz.prog 107 zp3:=tiok Tryz.type107 rfl rfl rfl rfl (by intro h;first|rfl|cases h) (zaw Tryz.underlying107 (.cons ⟨rfl,⟨_,Tryz.type9,rfl⟩,by decide,Tryz.isAgg9⟩ (.cons ⟨rfl,⟨_,Tryz.type9,rfl⟩,by decide,Tryz.isAgg9⟩ (.cons ⟨rfl,⟨_,Tryz.type85,rfl⟩,by decide,Tryz.isAgg85⟩ .nil)))) (by decide) rfl (by decide) (.inl rfl)
theorem znO:TIok Tryz.prog 115 zp2:=tiok Tryz.type115 rfl rfl rfl rfl (by intro h;first|rfl|cases h) (zaw Tryz.underlying115 (.cons ⟨rfl,⟨_,Tryz.type9,rfl⟩,by decide,Tryz.isAgg9⟩ (.cons ⟨rfl,⟨_,Tryz.type3,rfl⟩,by decide,Tryz.isAgg3⟩ (.cons ⟨rfl,⟨_,Tryz.type3,rfl⟩,by decide,Tryz.isAgg3⟩ (.cons ⟨rfl,⟨_,Tryz.type3,rfl⟩,by decide,Tryz.isAgg3⟩ .nil))))) (by decide) rfl (by decide) (.inr (.inl ⟨Tryz.underlying115,by kernel_rfl,Tryz.eqGuardType115,⟨by decide,rfl,Tryz.underlying9,⟨by decide,rfl,Tryz.underlying3,⟨by decide,rfl,Tryz.underlying3,⟨by decide,rfl,Tryz.underlying3,trivial⟩⟩⟩⟩⟩))
theorem znN:TIok Tryz.prog 124 zp1:=tiok Tryz.type124 rfl rfl rfl rfl (by intro h;first|rfl|cases h) Tryz.underlying124 (by decide) rfl (by decide) (.inl rfl)
theorem znM:TIok Tryz.prog 126 zjR:=tiok Tryz.type126 rfl rfl rfl rfl (by intro h;first|rfl|cases h) (zaw Tryz.underlying126 (.cons ⟨rfl,⟨_,Tryz.type9,rfl⟩,by decide,Tryz.isAgg9⟩ (.cons ⟨rfl,⟨_,Tryz.type124,rfl⟩,by decide,Tryz.isAgg124⟩ .nil))) (by decide) rfl (by decide) (.inl rfl)
theorem znL:TIok Tryz.prog 129 zp0:=tiok Tryz.type129 rfl rfl rfl rfl (by intro h;first|rfl|cases h) (zaw Tryz.underlying129 (.cons ⟨rfl,⟨_,Tryz.type3,rfl⟩,by decide,Tryz.isAgg3⟩ (.cons ⟨rfl,⟨_,Tryz.type3,rfl⟩,by decide,Tryz.isAgg3⟩ (.cons ⟨rfl,⟨_,Tryz.type3,rfl⟩,by decide,Tryz.isAgg3⟩ .nil)))) (by decide) rfl (by decide) (.inr (.inl ⟨Tryz.underlying129,by kernel_rfl,Tryz.eqGuardType129,⟨by decide,rfl,Tryz.underlying3,⟨by decide,rfl,Tryz.underlying3,⟨by decide,rfl,Tryz.underlying3,trivial⟩⟩⟩⟩))
theorem znK:TIok Tryz.prog 131 zpZ:=tiok Tryz.type131 rfl rfl rfl rfl (by intro h;first|rfl|cases h) (zaw Tryz.underlying131 (.cons ⟨rfl,⟨_,Tryz.type3,rfl⟩,by decide,Tryz.isAgg3⟩ (.cons ⟨rfl,⟨_,Tryz.type3,rfl⟩,by decide,Tryz.isAgg3⟩ .nil))) (by decide) rfl (by decide) (.inr (.inl ⟨Tryz.underlying131,by kernel_rfl,Tryz.eqGuardType131,⟨by decide,rfl,Tryz.underlying3,⟨by decide,rfl,Tryz.underlying3,trivial⟩⟩⟩))
theorem znJ:TIok Tryz.prog 138 zpY:=tiok Tryz.type138 rfl rfl rfl rfl (by intro h;first|rfl|cases h) Tryz.underlying138 (by decide) rfl (by decide) (.inl rfl)
theorem znI:TIok Tryz.prog 139 zpX:=tiok Tryz.type139 rfl rfl rfl rfl (by intro h;first|rfl|cases h) Tryz.underlying139 (by decide) rfl (by decide) (.inl rfl)
theorem znH:TIok Tryz.prog 141 zpW:=tiok Tryz.type141 rfl rfl rfl rfl (by intro h;first|rfl|cases h) (zaw Tryz.underlying141 (.cons ⟨rfl,⟨_,Tryz.type5,rfl⟩,by decide,Tryz.isAgg5⟩ (.cons ⟨rfl,⟨_,Tryz.type5,rfl⟩,by decide,Tryz.isAgg5⟩ (.cons ⟨rfl,⟨_,Tryz.type138,rfl⟩,by decide,Tryz.isAgg138⟩ (.cons ⟨rfl,⟨_,Tryz.type139,rfl⟩,by decide,Tryz.isAgg139⟩ .nil))))) (by decide) rfl (by decide) (.inl rfl)
theorem znG:TIok Tryz.prog 143 zpV:=tiok Tryz.type143 rfl rfl rfl rfl (by intro h;first|rfl|cases h) (zaw Tryz.underlying143 (.cons ⟨rfl,⟨_,Tryz.type5,rfl⟩,by decide,Tryz.isAgg5⟩ (.cons ⟨rfl,⟨_,Tryz.type5,rfl⟩,by decide,Tryz.isAgg5⟩ (.cons ⟨rfl,⟨_,Tryz.type4,rfl⟩,by decide,Tryz.isAgg4⟩ .nil)))) (by decide) rfl (by decide) (.inl rfl)
theorem znF:TIok Tryz.prog 146 zpU:=tiok Tryz.type146 rfl rfl rfl rfl (by intro h;first|rfl|cases h) (zaw Tryz.underlying146 (.cons ⟨rfl,⟨_,Tryz.type5,rfl⟩,by decide,Tryz.isAgg5⟩ (.cons ⟨rfl,⟨_,Tryz.type5,rfl⟩,by decide,Tryz.isAgg5⟩ .nil))) (by decide) rfl (by decide) (.inl rfl)
theorem znE:TIok Tryz.prog 147 zpT:=tiok Tryz.type147 rfl rfl rfl rfl (by intro h;first|rfl|cases h) Tryz.underlying147 (by decide) rfl (by decide) (.inl rfl)
theorem znD:TIok Tryz.prog 148 zpS:=tiok Tryz.type148 rfl rfl rfl rfl (by intro h;first|rfl|cases h) ⟨_,Tryz.underlying148,(by intro x h;cases h),(by intro x y h;cases h)⟩ (by decide) rfl (by decide) (.inl rfl)
theorem znC:TIok Tryz.prog 150 zpR:=tiok Tryz.type150 rfl rfl rfl rfl (by intro h;first|rfl|cases h) Tryz.underlying150 (by decide) rfl (by decide) (.inl rfl)
theorem znB:TIok Tryz.prog 153 zpQ:=tiok Tryz.type153 rfl rfl rfl rfl (by intro h;first|rfl|cases h) Tryz.underlying153 (by decide) rfl (by decide) (.inl rfl)
theorem znA:TIok Tryz.prog 156 zpP:=tiok Tryz.type156 rfl rfl rfl rfl (by intro h;first|rfl|cases h) Tryz.underlying156 (by decide) rfl (by decide) (.inl rfl)
theorem znz:TIok Tryz.prog 158 zpO:=tiok Tryz.type158 rfl rfl rfl rfl (by intro h;first|rfl|cases h) (zaw Tryz.underlying158 (.cons ⟨rfl,⟨_,Tryz.type9,rfl⟩,by decide,Tryz.isAgg9⟩ (.cons ⟨rfl,⟨_,Tryz.type156,rfl⟩,by decide,Tryz.isAgg156⟩ (.cons ⟨rfl,⟨_,Tryz.type3,rfl⟩,by decide,Tryz.isAgg3⟩ .nil)))) (by decide) rfl (by decide) (.inl rfl)
theorem zny:TIok Tryz.prog 160 zpN:=tiok Tryz.type160 rfl rfl rfl rfl (by intro h;first|rfl|cases h) (zaw Tryz.underlying160 (.cons ⟨rfl,⟨_,Tryz.type3,rfl⟩,by decide,Tryz.isAgg3⟩ (.cons ⟨rfl,⟨_,Tryz.type3,rfl⟩,by decide,Tryz.isAgg3⟩ .nil))) (by decide) rfl (by decide) (.inr (.inl ⟨Tryz.underlying160,by kernel_rfl,Tryz.eqGuardType160,⟨by decide,rfl,Tryz.underlying3,⟨by decide,rfl,Tryz.underlying3,trivial⟩⟩⟩))
theorem znx:TIok Tryz.prog 163 zpM:=tiok Tryz.type163 rfl rfl rfl rfl (by intro h;first|rfl|cases h) ⟨_,Tryz.underlying163,(by intro x h;cases h),(by intro x y h;cases h)⟩ (by decide) rfl (by decide) (.inl rfl)
theorem znw:TIok Tryz.prog 179 zpL:=tiok Tryz.type179 rfl rfl rfl rfl (by intro h;first|rfl|cases h) ⟨_,Tryz.underlying179,(by intro x h;cases h),(by intro x y h;cases h)⟩ (by decide) rfl (by decide) (.inl rfl)
theorem znv:TIok Tryz.prog 182 zpK:=tiok Tryz.type182 rfl rfl rfl rfl (by intro h;first|rfl|cases h) Tryz.underlying182 (by decide) rfl (by decide) (.inl rfl)
theorem znu:TIok Tryz.prog 184 zpJ:=tiok Tryz.type184 rfl rfl rfl rfl (by intro h;first|rfl|cases h) (zaw Tryz.underlying184 (.cons ⟨rfl,⟨_,Tryz.type3,rfl⟩,by decide,Tryz.isAgg3⟩ (.cons ⟨rfl,⟨_,Tryz.type3,rfl⟩,by decide,Tryz.isAgg3⟩ (.cons ⟨rfl,⟨_,Tryz.type3,rfl⟩,by decide,Tryz.isAgg3⟩ (.cons ⟨rfl,⟨_,Tryz.type182,rfl⟩,by decide,Tryz.isAgg182⟩ .nil))))) (by decide) rfl (by decide) (.inl rfl)
theorem znt:TIok Tryz.prog 185 zpI:=tiok Tryz.type185 rfl rfl rfl rfl (by intro h;first|rfl|cases h) Tryz.underlying185 (by decide) rfl (by decide) (.inl rfl)
theorem zns:TIok Tryz.prog 187 zpH:=tiok Tryz.type187 rfl rfl rfl rfl (by intro h;first|rfl|cases h) (zaw Tryz.underlying187 (.cons ⟨rfl,⟨_,Tryz.type3,rfl⟩,by decide,Tryz.isAgg3⟩ (.cons ⟨rfl,⟨_,Tryz.type3,rfl⟩,by decide,Tryz.isAgg3⟩ (.cons ⟨rfl,⟨_,Tryz.type3,rfl⟩,by decide,Tryz.isAgg3⟩ (.cons ⟨rfl,⟨_,Tryz.type184,rfl⟩,by decide,Tryz.isAgg184⟩ (.cons ⟨rfl,⟨_,Tryz.type185,rfl⟩,by decide,Tryz.isAgg185⟩ .nil)))))) (by decide) rfl (by decide) (.inl rfl)
theorem znr:TIok Tryz.prog 189 zpG:=tiok Tryz.type189 rfl rfl rfl rfl (by intro h;first|rfl|cases h) (zaw Tryz.underlying189 (.cons ⟨rfl,⟨_,Tryz.type3,rfl⟩,by decide,Tryz.isAgg3⟩ (.cons ⟨rfl,⟨_,Tryz.type184,rfl⟩,by decide,Tryz.isAgg184⟩ .nil))) (by decide) rfl (by decide) (.inl rfl)
theorem znq:TIok Tryz.prog 191 zpF:=tiok Tryz.type191 rfl rfl rfl rfl (by intro h;first|rfl|cases h) Tryz.underlying191 (by decide) rfl (by decide) (.inl rfl)
theorem znp:TIok Tryz.prog 195 zpE:=tiok Tryz.type195 rfl rfl rfl rfl (by intro h;first|rfl|cases h) ⟨_,Tryz.underlying195,(by intro x h;cases h),(by intro x y h;cases h)⟩ (by decide) rfl (by decide) (.inl rfl)
theorem zno:TIok Tryz.prog 196 zpD:=tiok Tryz.type196 rfl rfl rfl rfl (by intro h;first|rfl|cases h) ⟨_,Tryz.underlying196,(by intro x h;cases h),(by intro x y h;cases h)⟩ (by decide) rfl (by decide) (.inl rfl)
theorem znn:TIok Tryz.prog 197 zpC:=tiok Tryz.type197 rfl rfl rfl rfl (by intro h;first|rfl|cases h) ⟨_,Tryz.underlying197,(by intro x h;cases h),(by intro x y h;cases h)⟩ (by decide) rfl (by decide) (.inl rfl)
theorem znm:TIok Tryz.prog 216 zpB:=tiok Tryz.type216 rfl rfl rfl rfl (by intro h;first|rfl|cases h) ⟨_,Tryz.underlying216,(by intro x h;cases h),(by intro x y h;cases h)⟩ (by decide) rfl (by decide) (.inl rfl)
theorem znl:TIok Tryz.prog 218 zpA:=tiok Tryz.type218 rfl rfl rfl rfl (by intro h;first|rfl|cases h) ⟨_,Tryz.underlying218,(by intro x h;cases h),(by intro x y h;cases h)⟩ (by decide) rfl (by decide) (.inl rfl)
theorem znk:TIok Tryz.prog 220 zpz:=tiok Tryz.type220 rfl rfl rfl rfl (by intro h;first|rfl|cases h) ⟨_,Tryz.underlying220,(by intro x h;cases h),(by intro x y h;cases h)⟩ (by decide) rfl (by decide) (.inl rfl)
theorem znj:TIok Tryz.prog 222 zpy:=tiok Tryz.type222 rfl rfl rfl rfl (by intro h;first|rfl|cases h) ⟨_,Tryz.underlying222,(by intro x h;cases h),(by intro x y h;cases h)⟩ (by decide) rfl (by decide) (.inl rfl)
theorem zni:TIok Tryz.prog 224 zpx:=tiok Tryz.type224 rfl rfl rfl rfl (by intro h;first|rfl|cases h) ⟨_,Tryz.underlying224,(by intro x h;cases h),(by intro x y h;cases h)⟩ (by decide) rfl (by decide) (.inl rfl)
theorem znh:TIok Tryz.prog 227 zpw:=tiok Tryz.type227 rfl rfl rfl rfl (by intro h;first|rfl|cases h) Tryz.underlying227 (by decide) rfl (by decide) (.inl rfl)
theorem zng:TIok Tryz.prog 229 zpv:=tiok Tryz.type229 rfl rfl rfl rfl (by intro h;first|rfl|cases h) (zaw Tryz.underlying229 (.cons ⟨rfl,⟨_,Tryz.type227,rfl⟩,by decide,Tryz.isAgg227⟩ (.cons ⟨rfl,⟨_,Tryz.type71,rfl⟩,by decide,Tryz.isAgg71⟩ (.cons ⟨rfl,⟨_,Tryz.type71,rfl⟩,by decide,Tryz.isAgg71⟩ .nil)))) (by decide) rfl (by decide) (.inl rfl)
theorem znf:TIok Tryz.prog 232 zpu:=tiok Tryz.type232 rfl rfl rfl rfl (by intro h;first|rfl|cases h) Tryz.underlying232 (by decide) rfl (by decide) (.inl rfl)
theorem zne:TIok Tryz.prog 241 zpt:=tiok Tryz.type241 rfl rfl rfl rfl (by intro h;first|rfl|cases h) Tryz.underlying241 (by decide) rfl (by decide) (.inl rfl)
theorem znd:TIok Tryz.prog 246 zps:=tiok Tryz.type246 rfl rfl rfl rfl (by intro h;first|rfl|cases h) ⟨_,Tryz.underlying246,(by intro x h;cases h),(by intro x y h;cases h)⟩ (by decide) rfl (by decide) (.inl rfl)
theorem znc:TIok Tryz.prog 250 zpr:=tiok Tryz.type250 rfl rfl rfl rfl (by intro h;first|rfl|cases h) ⟨_,Tryz.underlying250,(by intro x h;cases h),(by intro x y h;cases h)⟩ (by decide) rfl (by decide) (.inl rfl)
theorem znb:TIok Tryz.prog 254 zpq:=tiok Tryz.type254 rfl rfl rfl rfl (by intro h;first|rfl|cases h) ⟨_,Tryz.underlying254,(by intro x h;cases h),(by intro x y h;cases h)⟩ (by decide) rfl (by decide) (.inl rfl)
theorem zna:TIok Tryz.prog 257 zpp:=tiok Tryz.type257 rfl rfl rfl rfl (by intro h;first|rfl|cases h) Tryz.underlying257 (by decide) rfl (by decide) (.inl rfl)
theorem zm9:TIok Tryz.prog 263 zpo:=tiok Tryz.type263 rfl rfl rfl rfl (by intro h;first|rfl|cases h) Tryz.underlying263 (by decide) rfl (by decide) (.inl rfl)
theorem zm8:TIok Tryz.prog 273 zpn:=tiok Tryz.type273 rfl rfl rfl rfl (by intro h;first|rfl|cases h) Tryz.underlying273 (by decide) rfl (by decide) (.inl rfl)
theorem zm7:TIok Tryz.prog 274 zpm:=tiok Tryz.type274 rfl rfl rfl rfl (by intro h;first|rfl|cases h) Tryz.underlying274 (by decide) rfl (by decide) (.inl rfl)
theorem zm6:TIok Tryz.prog 275 zpl:=tiok Tryz.type275 rfl rfl rfl rfl (by intro h;first|rfl|cases h) Tryz.underlying275 (by decide) rfl (by decide) (.inl rfl)
theorem zm5:TIok Tryz.prog 277 zpk:=tiok Tryz.type277 rfl rfl rfl rfl (by intro h;first|rfl|cases h) (zaw Tryz.underlying277 (.cons ⟨rfl,⟨_,Tryz.type275,rfl⟩,by decide,Tryz.isAgg275⟩ (.cons ⟨rfl,⟨_,Tryz.type71,rfl⟩,by decide,Tryz.isAgg71⟩ .nil))) (by decide) rfl (by decide) (.inl rfl)
theorem zm4:TIok Tryz.prog 279 zpj:=tiok Tryz.type279 rfl rfl rfl rfl (by intro h;first|rfl|cases h) ⟨_,Tryz.underlying279,(by intro x h;cases h),(by intro x y h;cases h)⟩ (by decide) rfl (by decide) (.inl rfl)
theorem zm3:TIok Tryz.prog 284 zpi:=tiok Tryz.type284 rfl rfl rfl rfl (by intro h;first|rfl|cases h) Tryz.underlying284 (by decide) rfl (by decide) (.inl rfl)
theorem zm2:TIok Tryz.prog 288 zph:=tiok Tryz.type288 rfl rfl rfl rfl (by intro h;first|rfl|cases h) Tryz.underlying288 (by decide) rfl (by decide) (.inl rfl)
theorem zm1:TIok Tryz.prog 289 zpg:=tiok Tryz.type289 rfl rfl rfl rfl (by intro h;first|rfl|cases h) Tryz.underlying289 (by decide) rfl (by decide) (.inl rfl)
theorem zm0:TIok Tryz.prog 291 zpf:=tiok Tryz.type291 rfl rfl rfl rfl (by intro h;first|rfl|cases h) (zaw Tryz.underlying291 (.cons ⟨rfl,⟨_,Tryz.type71,rfl⟩,by decide,Tryz.isAgg71⟩ (.cons ⟨rfl,⟨_,Tryz.type3,rfl⟩,by decide,Tryz.isAgg3⟩ (.cons ⟨rfl,⟨_,Tryz.type3,rfl⟩,by decide,Tryz.isAgg3⟩ .nil)))) (by decide) rfl (by decide) (.inl rfl)
theorem zmZ:TIok Tryz.prog 295 zpe:=tiok Tryz.type295 rfl rfl rfl rfl (by intro h;first|rfl|cases h) ⟨_,Tryz.underlying295,(by intro x h;cases h),(by intro x y h;cases h)⟩ (by decide) rfl (by decide) (.inl rfl)
theorem zmY:TIok Tryz.prog 298 zpd:=tiok Tryz.type298 rfl rfl rfl rfl (by intro h;first|rfl|cases h) ⟨_,Tryz.underlying298,(by intro x h;cases h),(by intro x y h;cases h)⟩ (by decide) rfl (by decide) (.inl rfl)
theorem zmX:TIok Tryz.prog 301 zpc:=tiok Tryz.type301 rfl rfl rfl rfl (by intro h;first|rfl|cases h) Tryz.underlying301 (by decide) rfl (by decide) (.inl rfl)
theorem zmW:TIok Tryz.prog 304 zpb:=tiok Tryz.type304 rfl rfl rfl rfl (by intro h;first|rfl|cases h) (zaw Tryz.underlying304 (.cons ⟨rfl,⟨_,Tryz.type3,rfl⟩,by decide,Tryz.isAgg3⟩ (.cons ⟨rfl,⟨_,Tryz.type55,rfl⟩,by decide,Tryz.isAgg55⟩ .nil))) (by decide) rfl (by decide) (.inl rfl)
theorem zmV:TIok Tryz.prog 306 zpa:=tiok Tryz.type306 rfl rfl rfl rfl (by intro h;first|rfl|cases h) ⟨_,Tryz.underlying306,(by intro x h;cases h),(by intro x y h;cases h)⟩ (by decide) rfl (by decide) (.inl rfl)
theorem zmU:TIok Tryz.prog 308 zo9:=tiok Tryz.type308 rfl rfl rfl rfl (by intro h;first|rfl|cases h) ⟨_,Tryz.underlying308,(by intro x h;cases h),(by intro x y h;cases h)⟩ (by decide) rfl (by decide) (.inl rfl)
theorem zmT:TIok Tryz.prog 312 zo8:=tiok Tryz.type312 rfl rfl rfl rfl (by intro h;first|rfl|cases h) Tryz.underlying312 (by decide) rfl (by decide) (.inl rfl)
theorem zmS:TIok Tryz.prog 319 zo7:=tiok Tryz.type319 rfl rfl rfl rfl (by intro h;first|rfl|cases h) Tryz.underlying319 (by decide) rfl (by decide) (.inl rfl)
theorem zmR:TIok Tryz.prog 321 zo6:=tiok Tryz.type321 rfl rfl rfl rfl (by intro h;first|rfl|cases h) Tryz.underlying321 (by decide) rfl (by decide) (.inl rfl)
theorem zmQ:TIok Tryz.prog 328 zo5:=tiok Tryz.type328 rfl rfl rfl rfl (by intro h;first|rfl|cases h) ⟨_,Tryz.underlying328,(by intro x h;cases h),(by intro x y h;cases h)⟩ (by decide) rfl (by decide) (.inl rfl)
theorem zmP:TIok Tryz.prog 336 zo4:=tiok Tryz.type336 rfl rfl rfl rfl (by intro h;first|rfl|cases h) Tryz.underlying336 (by decide) rfl (by decide) (.inl rfl)
theorem zmO:TIok Tryz.prog 353 zo3:=tiok Tryz.type353 rfl rfl rfl rfl (by intro h;first|rfl|cases h) Tryz.underlying353 (by decide) rfl (by decide) (.inl rfl)
theorem zmN:TIok Tryz.prog 357 zo2:=tiok Tryz.type357 rfl rfl rfl rfl (by intro h;first|rfl|cases h) Tryz.underlying357 (by decide) rfl (by decide) (.inl rfl)
theorem zmM:TIok Tryz.prog 369 zo1:=tiok Tryz.type369 rfl rfl rfl rfl (by intro h;first|rfl|cases h) Tryz.underlying369 (by decide) rfl (by decide) (.inl rfl)
theorem zmL:TIok Tryz.prog 370 zo0:=tiok Tryz.type370 rfl rfl rfl rfl (by intro h;first|rfl|cases h) Tryz.underlying370 (by decide) rfl (by decide) (.inl rfl)
theorem zmK:TIok Tryz.prog 384 zoZ:=tiok Tryz.type384 rfl rfl rfl rfl (by intro h;first|rfl|cases h) Tryz.underlying384 (by decide) rfl (by decide) (.inl rfl)
theorem zmJ:TIok Tryz.prog 392 zoY:=tiok Tryz.type392 rfl rfl rfl rfl (by intro h;first|rfl|cases h) Tryz.underlying392 (by decide) rfl (by decide) (.inl rfl)
theorem zmI:TIok Tryz.prog 393 zoX:=tiok Tryz.type393 rfl rfl rfl rfl (by intro h;first|rfl|cases h) Tryz.underlying393 (by decide) rfl (by decide) (.inl rfl)
def zAb:TT:=[
 (1,zxp),
 (2,zxo),
 (3,zxn),
 (4,zxm),
 (5,zxl),
 (9,zxk),
 (12,zu9),
 (21,zu7),
 (22,zu6),
 (23,zu5),
 (24,zu4),
 (25,zu3),
 (27,zu2),
 (31,zu0),
 (32,zuZ),
 (33,zuY),
 (34,zuX),
 (35,zuW),
 (37,zuV),
 (41,zuT),
 (42,zuS),
 (44,zuR),
 (45,zuQ),
 (46,zjQ),
 (47,zuP),
 (49,zuO),
 (55,zuM),
 (56,zuL),
 (57,zuK),
 (59,zuJ),
 (62,zuH),
 (68,zuG),
 (71,zuF),
 (72,zuE),
 (74,zuD),
 (76,zuC),
 (85,zuB),
 (87,zuA),
 (89,zuz),
 (91,zuy),
 (93,zux),
 (94,zuw),
 (96,zuv),
 (101,zp5),
 (103,zp4),
 (107,zp3),
 (115,zp2),
 (124,zp1),
 (126,zjR),
 (129,zp0),
 (131,zpZ),
 (138,zpY),
 (139,zpX),
 (141,zpW),
 (143,zpV),
 (146,zpU),
 (147,zpT),
 (148,zpS),
 (150,zpR),
 (153,zpQ),
 (156,zpP),
 (158,zpO),
 (160,zpN),
 (163,zpM),
 (179,zpL),
 (182,zpK),
 (184,zpJ),
 (185,zpI),
 (187,zpH),
 (189,zpG),
 (191,zpF),
 (195,zpE),
 (196,zpD),
 (197,zpC),
 (216,zpB),
 (218,zpA),
 (220,zpz),
 (222,zpy),
 (224,zpx),
 (227,zpw),
 (229,zpv),
 (232,zpu),
 (241,zpt),
 (246,zps),
 (250,zpr),
 (254,zpq),
 (257,zpp),
 (263,zpo),
 (273,zpn),
 (274,zpm),
 (275,zpl),
 (277,zpk),
 (279,zpj),
 (284,zpi),
 (288,zph),
 (289,zpg),
 (291,zpf),
 (295,zpe),
 (298,zpd),
 (301,zpc),
 (304,zpb),
 (306,zpa),
 (308,zo9),
 (312,zo8),
 (319,zo7),
 (321,zo6),
 (328,zo5),
 (336,zo4),
 (353,zo3),
 (357,zo2),
 (369,zo1),
 (370,zo0),
 (384,zoZ),
 (392,zoY),
 (393,zoX)]
theorem Tk:TOk Tryz.prog zAb:=zwV ⟨zu8,zu1,zuU,zuN,zuI,zuu,zrY,zrX,zrW,zrV,zrU,zrT,zrS,zrR,zrQ,zrP,zrO,zrN,zrM,zrL,zrK,zrJ,zrI,zrH,zrG,zrF,zrE,zrD,zrC,zrB,zrA,zrz,zry,zrx,zrw,zrv,zru,zrt,zrs,zrr,zrq,zrp,zro,znR,znQ,znP,znO,znN,znM,znL,znK,znJ,znI,znH,znG,znF,znE,znD,znC,znB,znA,znz,zny,znx,znw,znv,znu,znt,zns,znr,znq,znp,zno,znn,znm,znl,znk,znj,zni,znh,zng,znf,zne,znd,znc,znb,zna,zm9,zm8,zm7,zm6,zm5,zm4,zm3,zm2,zm1,zm0,zmZ,zmY,zmX,zmW,zmV,zmU,zmT,zmS,zmR,zmQ,zmP,zmO,zmN,zmM,zmL,zmK,zmJ,zmI,trivial⟩
end Go.AI
namespace Go.AI
open Go.Proofs
set_option maxRecDepth 20000
theorem zax:Tryz.prog.follows .mixedOrders=true:=rfl
theorem ztg (O:List Heap) (a:Int):zan Tryz.prog 142 [ii a] O (bb false) [] O:=by
 refine zaa Tk Tryz.func142 rfl Tryz.call142 Tryz.ntmps142 (Nat.le_of_ble_eq_true rfl) fun E=>?_;refine zaW Tk Tryz.func142 ?_;refine zaH (hT:=Tk) (r:=bb _) rfl rfl rfl trivial rfl rfl ?_;simp
theorem zyC (O:List Heap) (a:Int):zan Tryz.prog 205 [ii a] O (bb false) [] O:=by
 refine zaa Tk Tryz.func205 rfl Tryz.call205 Tryz.ntmps205 (Nat.le_of_ble_eq_true rfl) fun E=>?_;refine zaW Tk Tryz.func205 ?_;refine zaH (hT:=Tk) (r:=bb _) rfl rfl rfl trivial rfl rfl ?_;simp
theorem zzr (O:List Heap) (a b:Int):zan Tryz.prog 204 [ii a,ii b] O (bb (decide (a<b))) [] O:=by
 refine zaa Tk Tryz.func204 rfl Tryz.call204 Tryz.ntmps204 (Nat.le_of_ble_eq_true rfl) fun E=>?_;refine zaW Tk Tryz.func204 ?_;refine zcY Tk Tryz.func204 (ztg _ a) rfl rfl rfl rfl rfl ?_;refine zbt Tk Tryz.func204 rfl (fun h1=>by cases h1) (fun _=>?_);refine zbt Tk Tryz.func204 rfl (fun h1=>by cases h1) (fun _=>?_);refine zaH (hT:=Tk) (r:=bb _) rfl rfl rfl trivial rfl rfl ?_;rfl
theorem zzZ {a b:Nat} (ha:a≤zap) (hb:b≤zap):IntKind.i64.wrap (IntKind.u64.wrap (IntKind.i64.wrap ((a:Int)+b))/2 ^ (1:Int).toNat)=((a+b)/2:Nat):=by
 simp only[zap] at ha hb;have h1:IntKind.u64.wrap (IntKind.i64.wrap ((a:Int)+b))=(a:Int)+b:=by
  simp only[IntKind.wrap,IntKind.bits,IntKind.signed];simp;omega
 rw[h1,w64]
 ·simp
 ·simp;omega
 ·simp;omega
def lows (l:List Int) (x:Int):Nat:=(l.filter (· < x)).length
theorem zyq {l:List Int} {x:Int} {i:Nat} (hi:i≤l.length) (h1:∀k (h:k<l.length),k<i→l[k]<x) (h2:∀k (h:k<l.length),i≤k→x≤l[k]):lows l x=i:=by
 have e:l=l.take i++l.drop i:=(List.take_append_drop i l).symm;unfold lows;rw[e,List.filter_append];have a1:(l.take i).filter (fun y=>decide (y<x))=l.take i:=by
  rw[List.filter_eq_self];intro y hy;obtain⟨k,hk,rfl⟩:=List.getElem_of_mem hy;simp only[List.length_take] at hk;have:=h1 k (by omega) (by omega);simpa using this
 have a2:(l.drop i).filter (fun y=>decide (y<x))=[]:=by
  rw[List.filter_eq_nil_iff];intro y hy;obtain⟨k,hk,rfl⟩:=List.getElem_of_mem hy;simp only[List.length_drop] at hk;have:=h2 (i+k) (by omega) (by omega);simpa using this
 rw[a1,a2];simp;omega
theorem zuj (O:List Heap) (l:List Int) (x:Int) (hl:l.length≤zap) (hs:l.Pairwise (· < ·)):zan Tryz.prog 147 [ints l,ii x] O (.tup [ii (lows l x),bb (decide (x∈l))]) [] O:=by
 have hsort:∀i j (hi:i<l.length) (hj:j<l.length),i<j→l[i]<l[j]:=fun i j hi hj h=>List.pairwise_iff_getElem.1 hs i j hi hj h;refine zaa Tk Tryz.func147 rfl Tryz.call147 Tryz.ntmps147 (Nat.le_of_ble_eq_true rfl) fun E=>?_;refine zaW Tk Tryz.func147 ?_;refine zag (fun p:Nat×Nat=>[(0,ints l),(1,ii x),(6,ii l.length),(7,ii p.1),(8,ii p.2)]) (fun _=>[]) (fun _=>O) 54
  (fun p=>p.1≤p.2∧p.2≤l.length∧(∀k (h:k<l.length),k<p.1→l[k]<x)∧∀k (h:k<l.length),p.2≤k→x≤l[k]) (fun p=>p.2-p.1) (0,l.length)
  ⟨Nat.zero_le _,Nat.le_refl _,fun k h h'=>by simp at h',fun k h h'=>by simp at h';omega⟩ ⟨rfl,rfl,rfl,rfl,rfl,trivial⟩ rfl trivial rfl rfl ?_
 rintro ⟨i,j⟩ ⟨hij,hj,hlo,hhi⟩ ih;simp only at hij hj hlo hhi;have hlj:j≤zap:=Nat.le_trans hj hl;refine zaW Tk Tryz.func147 ?_;refine za2 Tk Tryz.func147 rfl (fun h1=>?_) (fun h1=>?_)
 ·have h1:i<j:=by simpa using h1
  refine zcX Tk Tryz.func147 (by simp[IntKind.bits]) ?_;have hm:=zzZ (Nat.le_trans hij hlj) hlj;have hmj:(i+j)/2<j:=by omega
  refine zcX Tk Tryz.func147 (by rw[hm];omega) ?_;refine zeA Tk Tryz.func147 (d:=[vi (l[(i+j)/2]'(by omega))]) (by rw[hm];exact zal (f:=fun x=>[vi x]) (by omega)) ?_;refine zcY Tk Tryz.func147 (zzr _ _ _) rfl rfl rfl rfl rfl ?_;refine za2 Tk Tryz.func147 rfl (fun h2=>?_) (fun h2=>?_)
  ·have h2:l[(i+j)/2]<x:=by simpa using h2
   refine ih ((i+j)/2+1,j) _ _ ⟨by show (i+j)/2+1≤j;omega,hj,fun k h h'=>?_,hhi⟩ (by simp only;omega) ⟨rfl,rfl,rfl,?_,rfl,trivial⟩ rfl trivial rfl rfl
   ·by_cases e:k=(i+j)/2
    ·subst e;exact h2
    ·have h':k<(i+j)/2+1:=h';have:=hsort k ((i+j)/2) h (by omega) (by omega);omega
   ·show D.i (.v (.int .i64 _))=_;rw[hm];exact congrArg ii (zav (n:=j) (by omega) hlj)
  ·have h2:x≤l[(i+j)/2]:=by simpa using h2
   refine ih (i,(i+j)/2) _ _ ⟨by show i≤(i+j)/2;omega,by show (i+j)/2≤l.length;omega,hlo,fun k h h'=>?_⟩ (by simp only;omega) ⟨rfl,rfl,rfl,rfl,?_,trivial⟩ rfl trivial rfl rfl
   ·have h':(i+j)/2≤k:=h'
    by_cases e:k=(i+j)/2
    ·subst e;exact h2
    ·have:=hsort ((i+j)/2) k (by omega) h (by omega);omega
   ·show D.i (.v (.int .i64 _))=_;rw[hm]
 ·have h1:j≤i:=by simpa using h1
  have hij:i=j:=by omega
  subst hij;have hlow:lows l x=i:=zyq hj hlo hhi;rw[hlow];have hnot:∀(hi:i<l.length),l[i]≠x→x ∉ l:=by
   intro hi hne hm;obtain⟨k,hk,e⟩:=List.getElem_of_mem hm
   by_cases h3:k<i
   ·have:=hlo k hk h3;omega
   ·by_cases h4:k=i
    ·subst h4;exact hne e
    ·have:=hsort i k hi hk (by omega);have:=hhi i hi (Nat.le_refl _);omega
  refine zbt Tk Tryz.func147 rfl (fun h1=>?_) (fun h1=>?_)
  ·have h1:i<l.length:=by simpa using h1
   refine zcX Tk Tryz.func147 (by omega) ?_;refine zeA Tk Tryz.func147 (zal h1) ?_;refine zbt Tk Tryz.func147 rfl (fun h2=>?_) (fun h2=>?_)
   ·have h2:l[i]=x:=by simpa using h2
    refine zaH (hT:=Tk) (r:=.tup [ii _,bb _]) rfl rfl rfl trivial rfl rfl ?_;have:x∈l:=by rw[←h2];simp
    simp[this]
   ·have h2:l[i]≠x:=by simpa using h2
    refine zcX Tk Tryz.func147 (by omega) ?_;refine zeA Tk Tryz.func147 (zal h1) ?_;refine zcY Tk Tryz.func147 (zyC _ _) rfl rfl rfl rfl rfl ?_;refine zbt Tk Tryz.func147 rfl (fun h1=>by cases h1) (fun _=>?_);refine zaH (hT:=Tk) (r:=.tup [ii _,bb _]) rfl rfl rfl trivial rfl rfl ?_;simp[hnot h1 h2]
  ·have h1:l.length≤i:=by simpa using h1
   refine zaH (hT:=Tk) (r:=.tup [ii _,bb _]) rfl rfl rfl trivial rfl rfl ?_;have:x ∉ l:=by
    intro hm;obtain⟨k,hk,e⟩:=List.getElem_of_mem hm;have:=hlo k hk (by omega);omega
   simp[this]
theorem ziJ (O:List Heap) (l:List Int) (x:Int) (hl:l.length≤zap) (hs:l.Pairwise (· < ·)):zan Tryz.prog 69 [ints l,ii x] O (bb (decide (x∈l))) [] O:=by
 refine zaa Tk Tryz.func69 rfl Tryz.call69 Tryz.ntmps69 (Nat.le_of_ble_eq_true rfl) fun E=>?_;refine zaW Tk Tryz.func69 ?_;refine zcY Tk Tryz.func69 (zuj _ l x hl hs) rfl rfl rfl rfl rfl ?_;refine zaH (hT:=Tk) (r:=bb _) rfl rfl rfl trivial rfl rfl ?_;rfl
abbrev big:Nat:=140737488355328
abbrev zb5 (l:List Int):Ob:=.arr 3 1 l.length (l.map fun x=>[vi x]) true
theorem zg0 (H:Heap) (nm:Nat) (ob:Ob):D.ret H [(nm,ob)] (.osl 0 nm)=.osl 0 nm:=by
 simp[D.ret,D.ret2,D.ret1,memH,zac]
theorem zj2 (nm:Nat) (ob ob':Ob) (Hr:Heap) (h:ob'=ob.ret [(nm,ob)] Hr):ze9 [(nm,ob)] Hr [(nm,ob')]:=⟨⟨ob,by simp[look],h⟩,trivial⟩
theorem zyT (nm:Nat) (O:List Heap) (l:List Int) (hl:l.length*8≤big):zan Tryz.prog 86 [ints l] O (.osl 0 nm) [(nm,zb5 l)] O:=by
 refine zaa Tk Tryz.func86 rfl Tryz.call86 Tryz.ntmps86 (Nat.le_of_ble_eq_true rfl) fun E=>?_;refine zaW Tk Tryz.func86 ?_;refine zw6 Tk Tryz.func86 rfl rfl fun b hb=>?_;refine za2 Tk Tryz.func86 rfl (fun h1=>?_) (fun h1=>?_)
 ·have hl0:l=[]:=List.eq_nil_of_length_eq_zero (hb h1);subst hl0;refine zn4 (zbk 2 nm 3 1 rfl rfl rfl) ?_;exact zaH (hT:=Tk) (r:=.osl 0 nm) rfl rfl rfl (zj2 _ _ _ _ rfl) (zg0 _ _ _) rfl rfl
 ·refine zcX Tk Tryz.func86 ⟨?_,?_⟩ ?_
  ·show (0+l.length)*8≤140737488355328;simp only[big] at hl;omega
  ·simp only[big] at hl;omega
  refine zn4 (zc9 (l:=[(2,.osl 0 7)]) (Hv:=[(7,.arr 3 1 (0+l.length) ([]++l.map fun x=>[vi x]) true)]) ⟨rfl,trivial⟩ rfl ⟨rfl,trivial⟩ rfl rfl) ?_;refine zn4 (zr0 7 nm rfl rfl) ?_;refine zaH (hT:=Tk) (r:=.osl 0 nm) rfl rfl rfl (zj2 _ _ _ _ ?_) (zg0 _ _ _) rfl rfl;rw[Nat.zero_add];rfl
theorem ztZ (O:List Heap) (l r:List Int) (hl:l.length≤zap):zan Tryz.prog 67 [ints l,ints r] O (bb (decide (l=r))) [] O:=by
 refine zaa Tk Tryz.func67 rfl Tryz.call67 Tryz.ntmps67 (Nat.le_of_ble_eq_true rfl) fun E=>?_;refine zaW Tk Tryz.func67 ?_;refine za2 Tk Tryz.func67 rfl (fun h1=>?_) (fun h1=>?_)
 ·refine zaH (hT:=Tk) (r:=bb _) rfl rfl rfl trivial rfl rfl ?_;have h1:(l.length:Int)≠r.length:=by simpa using h1
  have:l≠r:=fun e=>h1 (by rw[e]);simp[this]
 have hlen:l.length=r.length:=by
  have:(l.length:Int)=r.length:=by simpa using h1
  omega
 refine zb2 (fun i:Nat=>[(0,ints l),(1,ints r),(4,bb false),(12,ii l.length),(13,ii i)]) (fun _=>[]::O) 26 (fun i=>i≤l.length∧∀j (h:j<l.length),j<i→l[j]=r[j]) (fun i=>l.length-i) 0 ⟨Nat.zero_le _,fun j h h'=>by omega⟩ ⟨rfl,rfl,rfl,rfl,rfl,trivial⟩ rfl rfl ?_;intro i ⟨hi,hno⟩ ih;refine zaW Tk Tryz.func67 ?_;refine za2 Tk Tryz.func67 rfl (fun h1=>?_) (fun h1=>?_)
 ·have h1:i<l.length:=by simpa using h1
  have h1':i<r.length:=by omega
  refine zyn Tk Tryz.func67 zax rfl ?_;refine zeD Tk (by omega) ?_;refine zxf Tk (zal h1) ?_;refine zeD Tk (by omega) ?_;refine zxf Tk (zal h1') ?_;refine zla Tk Tryz.func67 (by kernel_rfl) ?_;refine za2 Tk Tryz.func67 rfl (fun h2=>?_) (fun h2=>?_)
  ·refine zaH (hT:=Tk) (r:=bb _) rfl rfl rfl trivial rfl rfl ?_;have h2:l[i]≠r[i]:=by simpa using h2
   have:l≠r:=fun e=>h2 (by subst e;rfl);simp[this]
  ·have h2:l[i]=r[i]:=by simpa using h2
   refine ih (i+1) _ ?_ ?_ ⟨rfl,rfl,rfl,rfl,congrArg ii (zav h1 hl),trivial⟩ rfl rfl
   ·refine⟨h1,fun j h h'=>?_⟩
    by_cases e:j=i
    ·subst e;exact h2
    ·exact hno j h (by omega)
   ·omega
 ·have h1:l.length≤i:=by simpa using h1
  refine zaH (hT:=Tk) (r:=bb _) rfl rfl rfl trivial rfl rfl ?_;have:l=r:=List.ext_getElem hlen fun j h h'=>hno j h (by omega);simp[this]
def zaM (n:Int):List Int→Option Int→Int
 |[],_=>0
 |x::r,prev=>if x<0∨x≥n then 2 else if prev.any (x ≤ ·) then 5 else zaM n r (some x)
theorem ziL (O:List Heap) (l:List Int) (n:Int) (hl:l.length≤zap):zan Tryz.prog 144 [ints l,ii n] O (ii (zaM n l none)) [] O:=by
 refine zaa Tk Tryz.func144 rfl Tryz.call144 Tryz.ntmps144 (Nat.le_of_ble_eq_true rfl) fun E=>?_;refine zaW Tk Tryz.func144 ?_
 let prev:Nat→Option Int:=fun i=>if i=0 then none else l[i-1]?
 refine zb2 (fun i:Nat=>[(0,ints l),(1,ii n),(7,ints l),(8,ii l.length),(9,ii i)]) (fun _=>[]::O) 33 (fun i=>i≤l.length∧zaM n l none=zaM n (l.drop i) (prev i)) (fun i=>l.length-i) 0 ⟨Nat.zero_le _,rfl⟩ ⟨rfl,rfl,rfl,rfl,rfl,trivial⟩ rfl rfl ?_;intro i ⟨hi,hno⟩ ih;rw[hno];refine zaW Tk Tryz.func144 ?_;refine za2 Tk Tryz.func144 rfl (fun h1=>?_) (fun h1=>?_)
 ·have h1:i<l.length:=by simpa using h1
  rw[hno] at ih;have hd:l.drop i=l[i]::l.drop (i+1):=(List.drop_eq_getElem_cons h1);have hnext:prev (i+1)=some l[i]:=by simp[prev,h1]
  refine zcX Tk Tryz.func144 (by omega) ?_;refine zeA Tk Tryz.func144 (zal h1) ?_;refine zbt Tk Tryz.func144 rfl (fun h2=>?_) (fun h2=>?_)
  ·have h2:l[i]<0:=by simpa using h2
   refine za2 Tk Tryz.func144 rfl (fun _=>?_) (fun h=>by cases h);refine zaH (hT:=Tk) (r:=ii _) rfl rfl rfl trivial rfl rfl ?_;rw[hd];simp only[zaM];rw[if_pos (.inl h2)]
  have h2:¬l[i]<0:=by simpa using h2
  refine za2 Tk Tryz.func144 rfl (fun h3=>?_) (fun h3=>?_)
  ·have h3:l[i]≥n:=by simpa using h3
   refine zaH (hT:=Tk) (r:=ii _) rfl rfl rfl trivial rfl rfl ?_;rw[hd];simp only[zaM];rw[if_pos (.inr h3)]
  have h3:¬l[i]≥n:=by simpa using h3
  refine zbt Tk Tryz.func144 rfl (fun h4=>?_) (fun h4=>?_)
  ·have h4:0<i:=by simpa using h4
   have hw:IntKind.i64.wrap ((i:Int)-1)=((i-1:Nat):Int):=by
    simp only[zap] at hl;rw[w64 (by omega) (by omega)];omega
   have hp:prev i=some (l[i-1]'(by omega)):=by
    simp only[prev,if_neg (show ¬i=0 by omega)];exact List.getElem?_eq_getElem (by omega)
   refine zcX Tk Tryz.func144 (by rw[hw];omega) ?_;refine zeA Tk Tryz.func144 (by rw[hw];exact zal (f:=fun x=>[vi x]) (show i-1<l.length by omega)) ?_;refine za2 Tk Tryz.func144 rfl (fun h5=>?_) (fun h5=>?_)
   ·have h5:l[i]≤l[i-1]:=by simpa using h5
    refine zaH (hT:=Tk) (r:=ii _) rfl rfl rfl trivial rfl rfl ?_;rw[hd,hp];simp only[zaM];rw[if_neg (by omega),if_pos (by simpa using h5)]
   ·have h5:¬l[i]≤l[i-1]:=by simpa using h5
    refine ih (i+1) _ ⟨h1,?_⟩ (by omega) ⟨rfl,rfl,rfl,rfl,congrArg ii (zav h1 hl),trivial⟩ rfl rfl;rw[hnext,hd,hp];simp only[zaM];rw[if_neg (by omega),if_neg (by simpa using h5)]
  ·have h4:i=0:=by
    have:¬0<i:=by simpa using h4
    omega
   refine za2 Tk Tryz.func144 rfl (fun h=>by cases h) (fun _=>?_);refine ih (i+1) _ ⟨h1,?_⟩ (by omega) ⟨rfl,rfl,rfl,rfl,congrArg ii (zav h1 hl),trivial⟩ rfl rfl;rw[hnext,hd];have hp:prev i=none:=by simp[prev,h4]
   rw[hp];simp only[zaM];rw[if_neg (by omega)];simp
 ·have h1:l.length≤i:=by simpa using h1
  refine zaH (hT:=Tk) (r:=ii _) rfl rfl rfl trivial rfl rfl ?_;rw[List.drop_eq_nil_of_le h1];rfl
def zau {α:Type} (p:α→Bool):List α→Nat→Int
 |[],_=>-1
 |x::r,i=>if p x then (i:Int) else zau p r (i+1)
theorem zl7 (O:List Heap) (l:List Int) (f d nm:Nat) (p:Int→Bool) (hl:l.length≤zap) (hp:∀x∈l,zan Tryz.prog f [ii x,.own (d+1) nm 0 0] ([]::O) (bb (p x)) [] ([]::O)) :
  zan Tryz.prog 151 [ints l,.fn (.func f) [] [.own d nm 0 0]] O (ii (zau p l 0)) [] O:=by
 refine zaa Tk Tryz.func151 rfl Tryz.call151 Tryz.ntmps151 (Nat.le_of_ble_eq_true rfl) fun E=>?_;refine zaW Tk Tryz.func151 ?_;refine zb2 (fun i:Nat=>[(0,ints l),(1,.fn (.func f) [] [.own (d+1) nm 0 0]),(6,ints l),(7,ii l.length),(8,ii i)]) (fun _=>[]::O) 19 (fun i=>i≤l.length∧zau p l 0=zau p (l.drop i) i) (fun i=>l.length-i) 0 ⟨Nat.zero_le _,rfl⟩ ⟨rfl,rfl,rfl,rfl,rfl,trivial⟩ rfl rfl ?_;intro i ⟨hi,hno⟩ ih;rw[hno];rw[hno] at ih;refine zaW Tk Tryz.func151 ?_;refine za2 Tk Tryz.func151 rfl (fun h1=>?_) (fun h1=>?_)
 ·have h1:i<l.length:=by simpa using h1
  have hd:l.drop i=l[i]::l.drop (i+1):=(List.drop_eq_getElem_cons h1);refine zcX Tk Tryz.func151 (by omega) ?_;refine zeA Tk Tryz.func151 (zal h1) ?_;refine zcY Tk Tryz.func151 (hp l[i] (List.getElem_mem h1)) rfl rfl rfl rfl rfl ?_;refine za2 Tk Tryz.func151 rfl (fun h2=>?_) (fun h2=>?_)
  ·refine zaH (hT:=Tk) (r:=ii _) rfl rfl rfl trivial rfl rfl ?_;rw[hd];simp only[zau];rw[if_pos h2]
  ·refine ih (i+1) _ ⟨h1,?_⟩ (by omega) ⟨rfl,rfl,rfl,rfl,congrArg ii (zav h1 hl),trivial⟩ rfl rfl;rw[hd];simp only[zau];rw[if_neg (by rw[h2];simp)]
 ·have h1:l.length≤i:=by simpa using h1
  refine zaH (hT:=Tk) (r:=ii _) rfl rfl rfl trivial rfl rfl ?_;rw[List.drop_eq_nil_of_le h1];rfl
theorem zbr {α:Type} (p:α→Bool):∀(l:List α) (i:Nat),decide (zau p l i≥0)=l.any p
 |[],i=>by simp[zau]
 |x::r,i=>by
  by_cases h:p x=true
  ·have e:zau p (x::r) i=(i:Int):=if_pos h;rw[List.any_cons,h,Bool.true_or,decide_eq_true_iff,e];omega
  ·have e:zau p (x::r) i=zau p r (i+1):=if_neg h;have h':p x=false:=by simpa using h
   rw[List.any_cons,h',Bool.false_or,←zbr p r (i+1)];exact decide_eq_decide.2 (by rw[e])
theorem zh2 (O:List Heap) (l:List Int) (f d nm:Nat) (p:Int→Bool) (hl:l.length≤zap) (hp:∀x∈l,zan Tryz.prog f [ii x,.own (d+2) nm 0 0] ([]::[]::O) (bb (p x)) [] ([]::[]::O)) :
  zan Tryz.prog 73 [ints l,.fn (.func f) [] [.own d nm 0 0]] O (bb (l.any p)) [] O:=by
 refine zaa Tk Tryz.func73 rfl Tryz.call73 Tryz.ntmps73 (Nat.le_of_ble_eq_true rfl) fun E=>?_;refine zaW Tk Tryz.func73 ?_;refine zcY Tk Tryz.func73 (zl7 _ l f (d+1) nm p hl hp) rfl rfl rfl rfl rfl ?_;refine zaH (hT:=Tk) (r:=bb _) rfl rfl rfl trivial rfl rfl ?_;exact congrArg bb (zbr p l 0)
theorem zyy (O:List Heap) (x k:Int) (d nm:Nat) (ho:zab O d nm=some (.box [ii k])):zan Tryz.prog 274 [ii x,.own d nm 0 0] O (bb (decide (x≠k))) [] O:=by
 refine zaa Tk Tryz.func274 rfl Tryz.call274 Tryz.ntmps274 (Nat.le_of_ble_eq_true rfl) fun E=>?_;refine zaW Tk Tryz.func274 ?_;refine zv2 Tk Tryz.func274 (ob:=.box [ii k]) ho ?_;refine zaH (hT:=Tk) (r:=bb _) rfl rfl rfl trivial rfl rfl ?_
 by_cases h:x=k<;>simp[h]
theorem ztd (O:List Heap) (k:Int) (l:List Int) (d nm:Nat) (hl:l.length≤zap) (ho:zab O d nm=some (.box [ints l])):zan Tryz.prog 273 [ii k,.own d nm 0 0] O (bb (l.all (· = k))) [] O:=by
 refine zaa Tk Tryz.func273 rfl Tryz.call273 Tryz.ntmps273 (Nat.le_of_ble_eq_true rfl) fun E=>?_;refine zaW Tk Tryz.func273 ?_;refine zv2 Tk Tryz.func273 (ob:=.box [ints l]) ho ?_;refine zcY Tk Tryz.func273 (zh2 _ l 274 0 2 (fun x=>decide (x≠k)) hl fun x _=>zyy _ x k _ _ rfl) rfl rfl rfl rfl rfl ?_;refine zaH (hT:=Tk) (r:=bb _) rfl rfl rfl trivial rfl rfl ?_;refine congrArg bb ?_;clear hl ho
 induction l with
 |nil=>rfl
 |cons y r ih=>
  rw[List.all_cons,←ih,List.any_cons]
  by_cases h:y=k<;>simp[h]
abbrev strI (b:ByteArray):I:=.v (.string b)
def chr (b:ByteArray) (i:Nat):Int:=((b.data.toList.getD i 0).toNat:Int)
def zc5 (c:Int):Bool:=(decide (97≤c)&&decide (c≤122))||(decide (65≤c)&&decide (c≤90))||decide (c=95)
def zgv (i:Nat) (c:Int):Bool:=zc5 c||(decide (i≠0)&&decide (48≤c)&&decide (c≤57))
def zaT (b:ByteArray):Bool:=(List.range b.size).all (fun i=>zgv i (chr b i))&&decide (0<b.size)&&decide (b.size≤32)
theorem zv5 {c:Cx} {todo:List Item} {s6:St} {G:Prop} (h1:Rch c todo s6→G) (h2:Rch c todo s6):G:=h1 h2
theorem zdy (O:List Heap) (b:ByteArray) (hl:b.size≤zap):zan Tryz.prog 45 [.i (strI b)] O (bb (zaT b)) [] O:=by
 refine zaN [6] Tk Tryz.func45 rfl Tryz.call45 Tryz.ntmps45 (Nat.le_of_ble_eq_true rfl) fun E=>?_;refine zaW Tk Tryz.func45 ?_;refine zb2 (fun i:Nat=>[(0,.i (strI b)),(7,ii b.size),(8,ii i)]) (fun _=>[]::O) 55 (fun i=>i≤b.size∧∀j,j<i→zgv j (chr b j)=true) (fun i=>b.size-i) 0 ⟨Nat.zero_le _,fun j h=>by omega⟩ ⟨rfl,rfl,rfl,trivial⟩ rfl rfl ?_;intro i ⟨hi,hno⟩ ih;refine zaW Tk Tryz.func45 ?_;refine za2 Tk Tryz.func45 rfl (fun h1=>?_) (fun h1=>?_)
 ·have h1:i<b.size:=by simpa using h1
  refine zcX Tk Tryz.func45 (by omega) ?_
  apply zv5 (s6:={ σ:=[(0,.i (strI b)),(3,ii i),(4,.i (.v (.int .u8 (chr b i)))),(5,bb (zc5 (chr b i))),(7,ii b.size),(8,ii i)],S:=[]::O,n:=55})
  ·intro H;have fin:∀{s:St} {t:Bool},s.get 5=bb t→t=zc5 (chr b i)→s.get 5=bb (zc5 (chr b i)):=fun h e=>h.trans (congrArg bb e);have lt:(97≤chr b i∧chr b i≤122)∨(65≤chr b i∧chr b i≤90)→true=zc5 (chr b i):=by
    intro h;generalize chr b i=c at h;unfold zc5;rcases h with ⟨h1,h2⟩|⟨h1,h2⟩<;>simp[h1,h2]
   have lu:¬((97≤chr b i∧chr b i≤122)∨(65≤chr b i∧chr b i≤90))→(chr b i==95)=zc5 (chr b i):=by
    intro h;generalize chr b i=c at h ⊢;unfold zc5;have h1:(decide (97≤c)&&decide (c≤122))=false:=by
     rw[←Bool.decide_and];exact decide_eq_false fun h'=>h (.inl h')
    have h2:(decide (65≤c)&&decide (c≤90))=false:=by
     rw[←Bool.decide_and];exact decide_eq_false fun h'=>h (.inr h')
    rw[h1,h2];rfl
   refine zbt Tk Tryz.func45 rfl (fun h2=>?_) (fun h2=>?_)
   ·have h2:chr b i≥97:=of_decide_eq_true h2;refine zbt Tk Tryz.func45 rfl (fun h3=>?_) (fun h3=>?_)
    ·have h3:chr b i≤122:=of_decide_eq_true h3;refine zbt Tk Tryz.func45 rfl (fun _=>?_) (fun h=>by cases h);refine zc4 H ⟨rfl,rfl,rfl,fin rfl ?_,rfl,rfl,trivial⟩;exact lt (by omega)
    ·have h3:¬chr b i≤122:=of_decide_eq_false h3;refine zbt Tk Tryz.func45 rfl (fun h4=>?_) (fun h4=>?_)
     ·have h4:chr b i≥65:=of_decide_eq_true h4;refine zbt Tk Tryz.func45 rfl (fun h5=>?_) (fun h5=>?_)
      ·have h5:chr b i≤90:=of_decide_eq_true h5;refine zc4 H ⟨rfl,rfl,rfl,fin rfl ?_,rfl,rfl,trivial⟩;exact lt (by omega)
      ·have h5:¬chr b i≤90:=of_decide_eq_false h5;refine zc4 H ⟨rfl,rfl,rfl,fin rfl ?_,rfl,rfl,trivial⟩;exact lu (by omega)
     ·have h4:¬chr b i≥65:=of_decide_eq_false h4;refine zbt Tk Tryz.func45 rfl (fun h=>by cases h) (fun _=>?_);refine zc4 H ⟨rfl,rfl,rfl,fin rfl ?_,rfl,rfl,trivial⟩;exact lu (by omega)
   ·have h2:¬chr b i≥97:=of_decide_eq_false h2;refine zbt Tk Tryz.func45 rfl (fun h=>by cases h) (fun _=>?_);refine zbt Tk Tryz.func45 rfl (fun h4=>?_) (fun h4=>?_)
    ·have h4:chr b i≥65:=of_decide_eq_true h4;refine zbt Tk Tryz.func45 rfl (fun h5=>?_) (fun h5=>?_)
     ·have h5:chr b i≤90:=of_decide_eq_true h5;refine zc4 H ⟨rfl,rfl,rfl,fin rfl ?_,rfl,rfl,trivial⟩;exact lt (by omega)
     ·have h5:¬chr b i≤90:=of_decide_eq_false h5;refine zc4 H ⟨rfl,rfl,rfl,fin rfl ?_,rfl,rfl,trivial⟩;exact lu (by omega)
    ·have h4:¬chr b i≥65:=of_decide_eq_false h4;refine zbt Tk Tryz.func45 rfl (fun h=>by cases h) (fun _=>?_);refine zc4 H ⟨rfl,rfl,rfl,fin rfl ?_,rfl,rfl,trivial⟩;exact lu (by omega)
  ·refine zaW Tk Tryz.func45 ?_;refine m_go Tk Tryz.func45 ?_;have hbad:zgv i (chr b i)=false→zaT b=false:=by
    intro h;unfold zaT;have:(List.range b.size).all (fun i=>zgv i (chr b i))=false:=by
     rw[List.all_eq_false];exact⟨i,List.mem_range.2 h1,by rw[h];simp⟩
    rw[this];rfl
   have hgood:zgv i (chr b i)=true→∀j,j<i+1→zgv j (chr b j)=true:=by
    intro h j hj
    by_cases e:j=i
    ·subst e;exact h
    ·exact hno j (by omega)
   refine zbt Tk Tryz.func45 rfl (fun h2=>?_) (fun h2=>?_)
   ·have h2:zc5 (chr b i)=false:=by simpa using h2
    refine zbt Tk Tryz.func45 rfl (fun h3=>?_) (fun h3=>?_)
    ·have h3:i=0:=by simpa using h3
     refine zbt Tk Tryz.func45 rfl (fun _=>?_) (fun h=>by cases h);refine za2 Tk Tryz.func45 rfl (fun _=>?_) (fun h=>by cases h);refine zaH (hT:=Tk) (r:=bb _) rfl rfl rfl trivial rfl rfl ?_;rw[hbad (by unfold zgv;rw[h2,h3];rfl)]
    ·have h3:i≠0:=by simpa using h3
     refine zbt Tk Tryz.func45 rfl (fun h4=>?_) (fun h4=>?_)
     ·have h4:chr b i<48:=of_decide_eq_true h4;refine za2 Tk Tryz.func45 rfl (fun _=>?_) (fun h=>by cases h);refine zaH (hT:=Tk) (r:=bb _) rfl rfl rfl trivial rfl rfl ?_;rw[hbad (by unfold zgv;rw[h2];simp;omega)]
     ·have h4:¬chr b i<48:=of_decide_eq_false h4;refine za2 Tk Tryz.func45 rfl (fun h5=>?_) (fun h5=>?_)
      ·have h5:chr b i>57:=of_decide_eq_true h5;refine zaH (hT:=Tk) (r:=bb _) rfl rfl rfl trivial rfl rfl ?_;rw[hbad (by unfold zgv;rw[h2];simp;omega)]
      ·have h5:¬chr b i>57:=of_decide_eq_false h5;refine ih (i+1) _ ⟨h1,hgood ?_⟩ (by omega) ⟨rfl,rfl,congrArg ii (zav h1 hl),trivial⟩ rfl rfl;unfold zgv;rw[h2];simp[h3];omega
   ·have h2:zc5 (chr b i)=true:=by simpa using h2
    refine za2 Tk Tryz.func45 rfl (fun h=>by cases h) (fun _=>?_);refine ih (i+1) _ ⟨h1,hgood ?_⟩ (by omega) ⟨rfl,rfl,congrArg ii (zav h1 hl),trivial⟩ rfl rfl;unfold zgv;rw[h2];rfl
 ·have h1:b.size≤i:=by simpa using h1
  have hall:(List.range b.size).all (fun i=>zgv i (chr b i))=true:=by
   rw[List.all_eq_true];intro j hj;rw[List.mem_range] at hj;exact hno j (by omega)
  refine zbt Tk Tryz.func45 rfl (fun h2=>?_) (fun h2=>?_)
  ·have h2:0<b.size:=by simpa using h2
   refine zaH (hT:=Tk) (r:=bb _) rfl rfl rfl trivial rfl rfl ?_;refine congrArg bb ?_;unfold zaT;rw[hall,decide_eq_true h2];exact decide_eq_decide.2 (by omega)
  ·have h2:¬0<b.size:=by simpa using h2
   refine zaH (hT:=Tk) (r:=bb _) rfl rfl rfl trivial rfl rfl ?_;refine congrArg bb ?_;unfold zaT;rw[decide_eq_false h2];simp
structure Vr where
 name:ByteArray
 low:Int
 high:Int
 init:Int
abbrev vrI (v:Vr):List I:=[strI v.name,vi v.low,vi v.high,vi v.init]
abbrev vrD (v:Vr):D:=.agg [.i (strI v.name),ii v.low,ii v.high,ii v.init]
abbrev vrsI (l:List Vr):I:=.sl 4 l.length (l.map vrI)
abbrev vrs (l:List Vr):D:=.i (vrsI l)
abbrev ztk (l:List (List Int)):I:=.sl 1 l.length (l.map fun x=>[zdJ x])
theorem zl6 (O:List Heap) (l:List Vr) (f d nm:Nat) (p:Vr→Bool) (hl:l.length≤zap) (hp:∀x∈l,zan Tryz.prog f [vrD x,.own (d+1) nm 0 0] ([]::O) (bb (p x)) [] ([]::O)) :
  zan Tryz.prog 240 [vrs l,.fn (.func f) [] [.own d nm 0 0]] O (ii (zau p l 0)) [] O:=by
 refine zaa Tk Tryz.func240 rfl Tryz.call240 Tryz.ntmps240 (Nat.le_of_ble_eq_true rfl) fun E=>?_;refine zaW Tk Tryz.func240 ?_;refine zb2 (fun i:Nat=>[(0,vrs l),(1,.fn (.func f) [] [.own (d+1) nm 0 0]),(6,vrs l),(7,ii l.length),(8,ii i)]) (fun _=>[]::O) 19 (fun i=>i≤l.length∧zau p l 0=zau p (l.drop i) i) (fun i=>l.length-i) 0 ⟨Nat.zero_le _,rfl⟩ ⟨rfl,rfl,rfl,rfl,rfl,trivial⟩ rfl rfl ?_;intro i ⟨hi,hno⟩ ih;rw[hno];rw[hno] at ih;refine zaW Tk Tryz.func240 ?_;refine za2 Tk Tryz.func240 rfl (fun h1=>?_) (fun h1=>?_)
 ·have h1:i<l.length:=by simpa using h1
  have hd:l.drop i=l[i]::l.drop (i+1):=(List.drop_eq_getElem_cons h1);refine zcX Tk Tryz.func240 (by omega) ?_;refine zeA Tk Tryz.func240 (zal h1) ?_;refine zcY Tk Tryz.func240 (hp l[i] (List.getElem_mem h1)) rfl rfl rfl rfl rfl ?_;refine za2 Tk Tryz.func240 rfl (fun h2=>?_) (fun h2=>?_)
  ·refine zaH (hT:=Tk) (r:=ii _) rfl rfl rfl trivial rfl rfl ?_;rw[hd];simp only[zau];rw[if_pos h2]
  ·refine ih (i+1) _ ⟨h1,?_⟩ (by omega) ⟨rfl,rfl,rfl,rfl,congrArg ii (zav h1 hl),trivial⟩ rfl rfl;rw[hd];simp only[zau];rw[if_neg (by rw[h2];simp)]
 ·have h1:l.length≤i:=by simpa using h1
  refine zaH (hT:=Tk) (r:=ii _) rfl rfl rfl trivial rfl rfl ?_;rw[List.drop_eq_nil_of_le h1];rfl
theorem zh1 (O:List Heap) (l:List Vr) (f d nm:Nat) (p:Vr→Bool) (hl:l.length≤zap) (hp:∀x∈l,zan Tryz.prog f [vrD x,.own (d+2) nm 0 0] ([]::[]::O) (bb (p x)) [] ([]::[]::O)) :
  zan Tryz.prog 200 [vrs l,.fn (.func f) [] [.own d nm 0 0]] O (bb (l.any p)) [] O:=by
 refine zaa Tk Tryz.func200 rfl Tryz.call200 Tryz.ntmps200 (Nat.le_of_ble_eq_true rfl) fun E=>?_;refine zaW Tk Tryz.func200 ?_;refine zcY Tk Tryz.func200 (zl6 _ l f (d+1) nm p hl hp) rfl rfl rfl rfl rfl ?_;refine zaH (hT:=Tk) (r:=bb _) rfl rfl rfl trivial rfl rfl ?_;exact congrArg bb (zbr p l 0)
theorem zqv (O:List Heap) (x v:Vr) (d nm:Nat) (ho:zab O d nm=some (.box [.i (strI v.name),ii v.low,ii v.high,ii v.init])):zan Tryz.prog 201 [vrD x,.own d nm 0 0] O (bb (x.name.toList==v.name.toList)) [] O:=by
 refine zaa Tk Tryz.func201 rfl Tryz.call201 Tryz.ntmps201 (Nat.le_of_ble_eq_true rfl) fun E=>?_;refine zaW Tk Tryz.func201 ?_;refine zv2 Tk Tryz.func201 (ob:=.box [.i (strI v.name),ii v.low,ii v.high,ii v.init]) ho ?_;refine zaH (hT:=Tk) (r:=bb _) rfl rfl rfl trivial rfl rfl ?_;rfl
def checkVr (ds:List Vr) (v:Vr):Option Int:=
 if zaT v.name=false then some 7
 else if ds.any (fun x=>x.name.toList==v.name.toList) then some 8
 else if large v.low||large v.high then some 2
 else if v.low>v.high then some 5
 else if v.init<v.low∨v.init>v.high then some 2
 else none
where large (a:Int):Bool:=decide (65536<a)||decide (a < -65536)
def zbg (all:List Vr):List Vr→Nat→Int
 |[],_=>0
 |v::r,i=>match checkVr (all.take i) v with
  |some e=>e
  |none=>zbg all r (i+1)
theorem zlY (O:List Heap) (a b:Int):zan Tryz.prog 202 [ii a,ii b] O (bb (decide (b<a)||decide (a<IntKind.i64.wrap (0-b)))) [] O:=by
 refine zaa Tk Tryz.func202 rfl Tryz.call202 Tryz.ntmps202 (Nat.le_of_ble_eq_true rfl) fun E=>?_;refine zaW Tk Tryz.func202 ?_;refine zbt Tk Tryz.func202 rfl (fun h1=>?_) (fun h1=>?_)
 ·have h1:b<a:=of_decide_eq_true h1;refine zaH (hT:=Tk) (r:=bb _) rfl rfl rfl trivial rfl rfl ?_;simp[h1]
 ·have h1:¬b<a:=of_decide_eq_false h1;refine zaH (hT:=Tk) (r:=bb _) rfl rfl rfl trivial rfl rfl ?_;simp only[decide_eq_false h1,Bool.false_or]
theorem zvi {l:List Vr} {i:Nat} (h:i≤l.length):vrs (l.take i)=.i (.sl 4 (i:Int).toNat ((l.map vrI).take (i:Int).toNat)):=by
 simp[vrs,vrsI,List.map_take,Nat.min_eq_left h]
theorem zmz (O:List Heap) (l:List Vr) (hl:l.length≤zap) (hn:∀v∈l,v.name.size≤zap):zan Tryz.prog 145 [vrs l] O (ii (if l.length>16 then 3 else zbg l l 0)) [] O:=by
 refine zaa Tk Tryz.func145 rfl Tryz.call145 Tryz.ntmps145 (Nat.le_of_ble_eq_true rfl) fun E=>?_;refine zaW Tk Tryz.func145 ?_;refine za2 Tk Tryz.func145 rfl (fun h1=>?_) (fun h1=>?_)
 ·have h1:(16:Int)<l.length:=by simpa using h1
  have h1:l.length>16:=by omega
  refine zaH (hT:=Tk) (r:=ii _) rfl rfl rfl trivial rfl rfl ?_;rw[if_pos h1]
 have h1:(l.length:Int)≤16:=by simpa using h1
 have h1:¬l.length>16:=by omega
 rw[if_neg h1];refine zag (fun i:Nat=>[(0,vrs l),(8,vrs l),(9,ii l.length),(10,ii i)]) (fun _=>[]) (fun _=>O) 55 (fun i=>i≤l.length∧zbg l l 0=zbg l (l.drop i) i) (fun i=>l.length-i) 0 ⟨Nat.zero_le _,rfl⟩ ⟨rfl,rfl,rfl,rfl,trivial⟩ rfl trivial rfl rfl ?_;intro i ⟨hi,hno⟩ ih;rw[hno];rw[hno] at ih;refine zaW Tk Tryz.func145 ?_;refine za2 Tk Tryz.func145 rfl (fun h2=>?_) (fun h2=>?_)
 ·have h2:i<l.length:=by simpa using h2
  have hd:l.drop i=l[i]::l.drop (i+1):=(List.drop_eq_getElem_cons h2);have hm:=List.getElem_mem h2;generalize hv:l[i]=v at hd hm;refine zcX Tk Tryz.func145 (by omega) ?_;refine zeA Tk Tryz.func145 (d:=vrI v) (by rw[←hv];exact zal (f:=vrI) h2) ?_;refine zcY Tk Tryz.func145 (zdy _ v.name (hn v hm)) rfl rfl rfl rfl rfl ?_;refine za2 Tk Tryz.func145 rfl (fun h3=>?_) (fun h3=>?_)
  ·have h3:zaT v.name=false:=by simpa using h3
   refine zaH (hT:=Tk) (r:=ii _) rfl rfl rfl trivial rfl rfl ?_;rw[hd];simp only[zbg,checkVr];rw[if_pos h3]
  have h3:¬zaT v.name=false:=by simpa using h3
  refine zcX Tk Tryz.func145 (by omega) ?_;have hs:=zh1 ([(4,.box [.i (strI v.name),ii v.low,ii v.high,ii v.init]),(4,.box [.i (strI ⟨#[]⟩),ii 0,ii 0,ii 0])]::O) (l.take i) 201 0 4 (fun x=>x.name.toList==v.name.toList) (by rw[List.length_take];omega) fun x _=>zqv _ x v 2 4 rfl;rw[zvi hi] at hs;refine zcY Tk Tryz.func145 hs rfl rfl rfl rfl rfl ?_;refine za2 Tk Tryz.func145 rfl (fun h4=>?_) (fun h4=>?_)
  ·refine zaH (hT:=Tk) (r:=ii _) rfl rfl rfl trivial rfl rfl ?_;rw[hd];simp only[zbg,checkVr];rw[if_neg h3,if_pos h4]
  have h4:¬((l.take i).any fun x=>x.name.toList==v.name.toList)=true:=by rw[h4];simp
  refine zcY Tk Tryz.func145 (zlY _ v.low 65536) rfl rfl rfl rfl rfl ?_;have fin2:(checkVr.large v.low||checkVr.large v.high)=true→zbg l (l.drop i) i=2:=by
   intro h;rw[hd];simp only[zbg,checkVr];rw[if_neg h3,if_neg h4,if_pos h]
  have rest:(checkVr.large v.low||checkVr.large v.high)=false→zbg l (l.drop i) i=if v.low>v.high then 5 else if v.init<v.low∨v.init>v.high then 2 else zbg l (l.drop (i+1)) (i+1):=by
   intro h;rw[hd];simp only[zbg,checkVr];rw[if_neg h3,if_neg h4,if_neg (by rw[h];simp)]
   by_cases a1:v.low>v.high
   ·simp only[if_pos a1]
   ·simp only[if_neg a1]
    by_cases a2:v.init<v.low∨v.init>v.high
    ·simp only[if_pos a2]
    ·simp only[if_neg a2]
  refine zbt Tk Tryz.func145 rfl (fun h5=>?_) (fun h5=>?_)
  ·have h5:checkVr.large v.low=true:=h5;refine za2 Tk Tryz.func145 rfl (fun _=>?_) (fun h=>by cases h);refine zaH (hT:=Tk) (r:=ii _) rfl rfl rfl trivial rfl rfl ?_;rw[fin2 (by rw[h5];rfl)]
  have h5:checkVr.large v.low=false:=h5;refine zcY Tk Tryz.func145 (zlY _ v.high 65536) rfl rfl rfl rfl rfl ?_;refine za2 Tk Tryz.func145 rfl (fun h6=>?_) (fun h6=>?_)
  ·have h6:checkVr.large v.high=true:=h6;refine zaH (hT:=Tk) (r:=ii _) rfl rfl rfl trivial rfl rfl ?_;rw[fin2 (by rw[h6,h5];rfl)]
  have h6:checkVr.large v.high=false:=h6;have rest:=rest (by rw[h5,h6];rfl);refine za2 Tk Tryz.func145 rfl (fun h7=>?_) (fun h7=>?_)
  ·have h7:v.low>v.high:=of_decide_eq_true h7;refine zaH (hT:=Tk) (r:=ii _) rfl rfl rfl trivial rfl rfl ?_;rw[rest,if_pos h7]
  have h7:¬v.low>v.high:=of_decide_eq_false h7;rw[if_neg h7] at rest;refine zbt Tk Tryz.func145 rfl (fun h8=>?_) (fun h8=>?_)
  ·have h8:v.init<v.low:=of_decide_eq_true h8;refine za2 Tk Tryz.func145 rfl (fun _=>?_) (fun h=>by cases h);refine zaH (hT:=Tk) (r:=ii _) rfl rfl rfl trivial rfl rfl ?_;rw[rest,if_pos (.inl h8)]
  have h8:¬v.init<v.low:=of_decide_eq_false h8;refine za2 Tk Tryz.func145 rfl (fun h9=>?_) (fun h9=>?_)
  ·have h9:v.init>v.high:=of_decide_eq_true h9;refine zaH (hT:=Tk) (r:=ii _) rfl rfl rfl trivial rfl rfl ?_;rw[rest,if_pos (.inr h9)]
  have h9:¬v.init>v.high:=of_decide_eq_false h9;rw[if_neg (by omega)] at rest;refine ih (i+1) _ _ ⟨h2,rest⟩ (by omega) ⟨rfl,rfl,rfl,congrArg ii (zav h2 hl),trivial⟩ rfl trivial rfl rfl
 ·have h2:l.length≤i:=by simpa using h2
  refine zaH (hT:=Tk) (r:=ii _) rfl rfl rfl trivial rfl rfl ?_;rw[List.drop_eq_nil_of_le h2];rfl
inductive Ex where
 |mk (op val idx:Int) (args:List Ex)
mutual
def exI:Ex→List I
 |.mk op v i args=>[vi op,vi v,vi i,.sl 4 args.length (exIs args)]
def exIs:List Ex→List (List I)
 |[]=>[]
 |e::r=>exI e::exIs r
end
theorem zjD:∀l:List Ex,exIs l=l.map exI
 |[]=>by simp[exIs]
 |e::r=>by simp[exIs,zjD r]
def exD:Ex→D
 |.mk op v i args=>.agg [ii op,ii v,ii i,.i (.sl 4 args.length (exIs args))]
def zhP:Ex:=.mk 0 0 0 []
def trueE:Ex:=.mk 6 0 0 [zhP,zhP]
theorem zy4 (O:List Heap):zan Tryz.prog 117 [] O (exD (.mk 6 0 0 [zhP,zhP])) [] O:=by
 refine zaa Tk Tryz.func117 rfl Tryz.call117 Tryz.ntmps117 (Nat.le_of_ble_eq_true rfl) fun E=>?_;refine zaW Tk Tryz.func117 ?_;refine zol (hT:=Tk) (r:=.agg [ii 6,ii 0,ii 0,.i (.sl 4 2 [[vi 0,vi 0,vi 0,.v (.slice none 0 0)],[vi 0,vi 0,vi 0,.v (.slice none 0 0)]])]) rfl rfl rfl trivial rfl rfl ?_;show CoD _ (.agg [ii 6,ii 0,ii 0,.i (.sl 4 2 (exIs [zhP,zhP]))]);have hz:CoL [vi 0,vi 0,vi 0,.v (.slice none 0 0)] (exI zhP):=by
  simp only[zhP,exI];exact .cons (.refl _) (.cons (.refl _) (.cons (.refl _) (.cons zbd .nil)))
 refine zbB (.cons (.refl _) (.cons (.refl _) (.cons (.refl _) (.cons (zcy (zcz ?_)) .nil))));simp only[exIs];exact .cons hz (.cons hz .nil)
abbrev exs (l:List Ex):D:=.i (.sl 4 l.length (exIs l))
theorem zgD {l:List Ex} {i:Nat} (h:i<l.length):(exIs l)[(i:Int).toNat]? = some (exI l[i]):=by
 rw[zjD];exact zal (f:=exI) h
mutual
def exOk:Ex→Prop
 |.mk _ _ _ a=>a.length≤zap∧zk5 a
def zk5:List Ex→Prop
 |[]=>True
 |x::xs=>exOk x∧zk5 xs
end
theorem zk4:∀{l:List Ex},zk5 l→∀x∈l,exOk x
 |[],_,x,h=>by simp at h
 |y::r,h,x,hx=>by
  simp only[zk5] at h;rcases List.mem_cons.1 hx with rfl|hx
  ·exact h.1
  ·exact zk4 h.2 x hx
def arity (x:Int):Int×Bool:=
 if x=0 then (0,true) else
 if x=1 then (0,true) else
 if x=5 then (1,true) else
 if x=10 then (1,true) else
 if x=2 then (2,true) else
 if x=3 then (2,true) else
 if x=4 then (2,true) else
 if x=6 then (2,true) else
 if x=7 then (2,true) else
 if x=8 then (2,true) else
 if x=9 then (2,true) else
 if x=11 then (2,true) else
 if x=12 then (2,true) else
 if x=13 then (3,true) else
 (0,false)
theorem zmG (O:List Heap) (x:Int):zan Tryz.prog 272 [ii x] O (.tup [ii (arity x).1,bb (arity x).2]) [] O:=by
 refine zaa Tk Tryz.func272 rfl Tryz.call272 Tryz.ntmps272 (Nat.le_of_ble_eq_true rfl) fun E=>?_;refine zaW Tk Tryz.func272 ?_;refine za2 Tk Tryz.func272 rfl (fun h=>?_) (fun h0=>?_)
 ·have h:x=0:=by simpa using h
  refine za2 Tk Tryz.func272 rfl (fun _=>?_) (fun h'=>by rw[h] at h';cases h');refine zaH (hT:=Tk) (r:=.tup [ii 0,bb true]) rfl rfl rfl trivial rfl rfl ?_;subst h;rfl
 have h0:x≠0:=by simpa using h0
 refine za2 Tk Tryz.func272 rfl (fun h=>?_) (fun h1=>?_)
 ·have h:x=1:=by simpa using h
  refine zaH (hT:=Tk) (r:=.tup [ii 0,bb true]) rfl rfl rfl trivial rfl rfl ?_;subst h;rfl
 have h1:x≠1:=by simpa using h1
 refine za2 Tk Tryz.func272 rfl (fun h=>?_) (fun h5=>?_)
 ·have h:x=5:=by simpa using h
  refine za2 Tk Tryz.func272 rfl (fun _=>?_) (fun h'=>by rw[h] at h';cases h');refine zaH (hT:=Tk) (r:=.tup [ii 1,bb true]) rfl rfl rfl trivial rfl rfl ?_;subst h;rfl
 have h5:x≠5:=by simpa using h5
 refine za2 Tk Tryz.func272 rfl (fun h=>?_) (fun h10=>?_)
 ·have h:x=10:=by simpa using h
  refine zaH (hT:=Tk) (r:=.tup [ii 1,bb true]) rfl rfl rfl trivial rfl rfl ?_;subst h;rfl
 have h10:x≠10:=by simpa using h10
 refine za2 Tk Tryz.func272 rfl (fun h=>?_) (fun h2=>?_)
 ·have h:x=2:=by simpa using h
  refine za2 Tk Tryz.func272 rfl (fun _=>?_) (fun h'=>by rw[h] at h';cases h');refine zaH (hT:=Tk) (r:=.tup [ii 2,bb true]) rfl rfl rfl trivial rfl rfl ?_;subst h;rfl
 have h2:x≠2:=by simpa using h2
 refine za2 Tk Tryz.func272 rfl (fun h=>?_) (fun h3=>?_)
 ·have h:x=3:=by simpa using h
  refine za2 Tk Tryz.func272 rfl (fun _=>?_) (fun h'=>by rw[h] at h';cases h');refine zaH (hT:=Tk) (r:=.tup [ii 2,bb true]) rfl rfl rfl trivial rfl rfl ?_;subst h;rfl
 have h3:x≠3:=by simpa using h3
 refine za2 Tk Tryz.func272 rfl (fun h=>?_) (fun h4=>?_)
 ·have h:x=4:=by simpa using h
  refine za2 Tk Tryz.func272 rfl (fun _=>?_) (fun h'=>by rw[h] at h';cases h');refine zaH (hT:=Tk) (r:=.tup [ii 2,bb true]) rfl rfl rfl trivial rfl rfl ?_;subst h;rfl
 have h4:x≠4:=by simpa using h4
 refine za2 Tk Tryz.func272 rfl (fun h=>?_) (fun h6=>?_)
 ·have h:x=6:=by simpa using h
  refine za2 Tk Tryz.func272 rfl (fun _=>?_) (fun h'=>by rw[h] at h';cases h');refine zaH (hT:=Tk) (r:=.tup [ii 2,bb true]) rfl rfl rfl trivial rfl rfl ?_;subst h;rfl
 have h6:x≠6:=by simpa using h6
 refine za2 Tk Tryz.func272 rfl (fun h=>?_) (fun h7=>?_)
 ·have h:x=7:=by simpa using h
  refine za2 Tk Tryz.func272 rfl (fun _=>?_) (fun h'=>by rw[h] at h';cases h');refine zaH (hT:=Tk) (r:=.tup [ii 2,bb true]) rfl rfl rfl trivial rfl rfl ?_;subst h;rfl
 have h7:x≠7:=by simpa using h7
 refine za2 Tk Tryz.func272 rfl (fun h=>?_) (fun h8=>?_)
 ·have h:x=8:=by simpa using h
  refine za2 Tk Tryz.func272 rfl (fun _=>?_) (fun h'=>by rw[h] at h';cases h');refine zaH (hT:=Tk) (r:=.tup [ii 2,bb true]) rfl rfl rfl trivial rfl rfl ?_;subst h;rfl
 have h8:x≠8:=by simpa using h8
 refine za2 Tk Tryz.func272 rfl (fun h=>?_) (fun h9=>?_)
 ·have h:x=9:=by simpa using h
  refine za2 Tk Tryz.func272 rfl (fun _=>?_) (fun h'=>by rw[h] at h';cases h');refine zaH (hT:=Tk) (r:=.tup [ii 2,bb true]) rfl rfl rfl trivial rfl rfl ?_;subst h;rfl
 have h9:x≠9:=by simpa using h9
 refine za2 Tk Tryz.func272 rfl (fun h=>?_) (fun h11=>?_)
 ·have h:x=11:=by simpa using h
  refine za2 Tk Tryz.func272 rfl (fun _=>?_) (fun h'=>by rw[h] at h';cases h');refine zaH (hT:=Tk) (r:=.tup [ii 2,bb true]) rfl rfl rfl trivial rfl rfl ?_;subst h;rfl
 have h11:x≠11:=by simpa using h11
 refine za2 Tk Tryz.func272 rfl (fun h=>?_) (fun h12=>?_)
 ·have h:x=12:=by simpa using h
  refine zaH (hT:=Tk) (r:=.tup [ii 2,bb true]) rfl rfl rfl trivial rfl rfl ?_;subst h;rfl
 have h12:x≠12:=by simpa using h12
 refine za2 Tk Tryz.func272 rfl (fun h=>?_) (fun h13=>?_)
 ·have h:x=13:=by simpa using h
  refine zaH (hT:=Tk) (r:=.tup [ii 3,bb true]) rfl rfl rfl trivial rfl rfl ?_;subst h;rfl
 have h13:x≠13:=by simpa using h13
 refine zaH (hT:=Tk) (r:=.tup [ii 0,bb false]) rfl rfl rfl trivial rfl rfl ?_;have e:arity x=(0,false):=by
  unfold arity;rw[if_neg h0];rw[if_neg h1];rw[if_neg h5];rw[if_neg h10];rw[if_neg h2];rw[if_neg h3];rw[if_neg h4];rw[if_neg h6];rw[if_neg h7];rw[if_neg h8];rw[if_neg h9];rw[if_neg h11];rw[if_neg h12];rw[if_neg h13]
 rw[e]
theorem ziV (O:List Heap) (b:Bool):zan Tryz.prog 275 [bb b] O (ii (if b then 1 else 0)) [] O:=by
 refine zaa Tk Tryz.func275 rfl Tryz.call275 Tryz.ntmps275 (Nat.le_of_ble_eq_true rfl) fun E=>?_;refine zaW Tk Tryz.func275 ?_;refine za2 Tk Tryz.func275 rfl (fun h=>?_) (fun h=>?_)
 ·refine zaH (hT:=Tk) (r:=ii 1) rfl rfl rfl trivial rfl rfl ?_;rw[if_pos h]
 ·refine zaH (hT:=Tk) (r:=ii 0) rfl rfl rfl trivial rfl rfl ?_;rw[h];rfl
def within (l:List Vr) (xs:List Int):Bool:=match l,xs with
 |[],[]=>true
 |v::r,x::ys=>decide (v.low≤x)&&decide (x≤v.high)&&within r ys
 |_,_=>false
theorem zh6:∀(l:List Vr) (xs:List Int),l.length≠xs.length→within l xs=false
 |[],[],h=>absurd rfl h
 |[],_::_,_=>rfl
 |_::_,[],_=>rfl
 |v::r,x::ys,h=>by
  simp only[within];rw[zh6 r ys (by simpa using h),Bool.and_false]
theorem zvh (O:List Heap) (l:List Vr) (xs:List Int) (hl:l.length≤zap):zan Tryz.prog 88 [vrs l,ints xs] O (bb (within l xs)) [] O:=by
 refine zaa Tk Tryz.func88 rfl Tryz.call88 Tryz.ntmps88 (Nat.le_of_ble_eq_true rfl) fun E=>?_;refine zaW Tk Tryz.func88 ?_;refine za2 Tk Tryz.func88 rfl (fun h1=>?_) (fun h1=>?_)
 ·refine zaH (hT:=Tk) (r:=bb _) rfl rfl rfl trivial rfl rfl ?_;have h1:(l.length:Int)≠xs.length:=by simpa using h1
  rw[zh6 l xs (fun e=>h1 (by rw[e]))]
 have hlen:l.length=xs.length:=by
  have:(l.length:Int)=xs.length:=by simpa using h1
  omega
 refine zag (fun i:Nat=>[(0,vrs l),(1,ints xs),(12,vrs l),(13,ii l.length),(14,ii i)]) (fun _=>[]) (fun _=>O) 36 (fun i=>i≤l.length∧within l xs=within (l.drop i) (xs.drop i)) (fun i=>l.length-i) 0 ⟨Nat.zero_le _,rfl⟩ ⟨rfl,rfl,rfl,rfl,rfl,trivial⟩ rfl trivial rfl rfl ?_;intro i ⟨hi,hno⟩ ih;rw[hno];rw[hno] at ih;refine zaW Tk Tryz.func88 ?_;refine za2 Tk Tryz.func88 rfl (fun h1=>?_) (fun h1=>?_)
 ·have h1:i<l.length:=by simpa using h1
  have h1':i<xs.length:=by omega
  have hd:l.drop i=l[i]::l.drop (i+1):=(List.drop_eq_getElem_cons h1);have hd':xs.drop i=xs[i]::xs.drop (i+1):=(List.drop_eq_getElem_cons h1');have g1:(l.map vrI)[(i:Int).toNat]? = some (vrI l[i]):=zal h1;have g2:(xs.map fun x=>[vi x])[(i:Int).toNat]? = some [vi xs[i]]:=zal (f:=fun x=>[vi x]) h1';generalize l[i]=v at hd g1;generalize xs[i]=x at hd' g2;refine zcX Tk Tryz.func88 (by omega) ?_;refine zeA Tk Tryz.func88 (d:=vrI v) g1 ?_;refine zom Tk zax rfl ?_;refine zar Tk (by omega) ?_;refine zay Tk g2 ?_;refine zbU Tk (fun h2=>?_) (fun h2=>?_)
  ·have h2:x<v.low:=of_decide_eq_true h2;refine zsy Tk Tryz.func88 (by kernel_rfl) ?_;refine za2 Tk Tryz.func88 rfl (fun _=>?_) (fun h=>by cases h);refine zaH (hT:=Tk) (r:=bb _) rfl rfl rfl trivial rfl rfl ?_;rw[hd,hd'];simp only[within];rw[decide_eq_false (by omega:¬v.low≤x)];rfl
  ·have h2:¬x<v.low:=of_decide_eq_false h2;refine zar Tk (by omega) ?_;refine zay Tk g2 ?_;refine zsy Tk Tryz.func88 (by kernel_rfl) ?_;refine za2 Tk Tryz.func88 rfl (fun h3=>?_) (fun h3=>?_)
   ·have h3:x>v.high:=of_decide_eq_true h3;refine zaH (hT:=Tk) (r:=bb _) rfl rfl rfl trivial rfl rfl ?_;rw[hd,hd'];simp only[within];rw[decide_eq_false (by omega:¬x≤v.high),Bool.and_false];rfl
   ·have h3:¬x>v.high:=of_decide_eq_false h3;refine ih (i+1) _ _ ⟨h1,?_⟩ (by omega) ⟨rfl,rfl,rfl,rfl,congrArg ii (zav h1 hl),trivial⟩ rfl trivial rfl rfl;rw[hd,hd'];simp only[within];rw[decide_eq_true (by omega:v.low≤x),decide_eq_true (by omega:x≤v.high)];rfl
 ·have h1:l.length≤i:=by simpa using h1
  refine zaH (hT:=Tk) (r:=bb _) rfl rfl rfl trivial rfl rfl ?_;rw[List.drop_eq_nil_of_le h1,List.drop_eq_nil_of_le (by omega)];rfl
end Go.AI
namespace Go.AI
theorem zd0:∀{S:List Heap} {d nm:Nat} {ob:Ob} (d' n':Nat),zab (setAt S d nm ob) d' n'=if d=d'∧nm=n'∧d<S.length then some ob else zab S d' n'
 |[],d,nm,ob,d',n'=>by simp[setAt]
 |H::S,0,nm,ob,d',n'=>by
  cases d' with
  |zero=>
   simp only[setAt,zab,List.getElem?_cons_zero,zac]
   by_cases h:nm=n'<;>simp[h]
  |succ d'=>simp[setAt,zab]
 |H::S,d+1,nm,ob,d',n'=>by
  cases d' with
  |zero=>simp[setAt,zab]
  |succ d'=>
   have:=zd0 (S:=S) (d:=d) (nm:=nm) (ob:=ob) d' n';simp only[zab] at this;simp only[setAt,zab,List.getElem?_cons_succ,this];simp
theorem zjb {S:List Heap} {d nm:Nat} {ob:Ob} (h:zab S d nm=some ob):d<S.length:=by
 unfold zab at h
 cases e:S[d]? with
 |none=>simp[e] at h
 |some H=>exact (List.getElem?_eq_some_iff.1 e).1
theorem length_set:∀{S:List Heap} {d nm:Nat} {ob:Ob},(setAt S d nm ob).length=S.length
 |[],d,nm,ob=>by simp[setAt]
 |H::S,0,nm,ob=>rfl
 |H::S,d+1,nm,ob=>by simp[setAt,length_set]
theorem zae {S:List Heap} {d nm:Nat} {ob ob':Ob} (h:zab S d nm=some ob):zab (setAt S d nm ob') d nm=some ob':=by
 rw[zd0,if_pos ⟨rfl,rfl,zjb h⟩]
theorem zbM {S:List Heap} {d nm:Nat} {a b:Ob} (d' n':Nat):zab (setAt S d nm b) d' n'=zab (setAt (setAt S d nm a) d nm b) d' n':=by
 simp only[zd0,length_set]
 by_cases h:d=d'∧nm=n'∧d<S.length
 ·rw[if_pos h,if_pos h]
 ·rw[if_neg h,if_neg h,if_neg h]
theorem zbl {S:List Heap} {d nm:Nat} {a:Ob} (h:zab S d nm=some a) (d' n':Nat):zab (setAt S d nm a) d' n'=zab S d' n':=by
 rw[zd0]
 by_cases e:d=d'∧nm=n'∧d<S.length
 ·obtain⟨rfl,rfl,_⟩:=e;rw[if_pos ⟨rfl,rfl,zjb h⟩,h]
 ·rw[if_neg e]
theorem zaR {S:List Heap} {d nm:Nat} {ob ob':Ob} (h:zab S d nm=some ob) (hs:ob'.sh=ob.sh):shape (setAt S d nm ob')=shape S:=by
 funext d' n';simp only[shape,zd0]
 by_cases e:d=d'∧nm=n'∧d<S.length
 ·obtain⟨rfl,rfl,_⟩:=e;rw[if_pos ⟨rfl,rfl,zjb h⟩,h];simp[hs]
 ·rw[if_neg e]
theorem zch {c:Cx} {todo:List Item} {s:St} {l:List (Nat×D)} {S':List Heap} {n':Nat} (h:Rch c todo {σ:=l,S:=S',n:=n' }) (hs:Sub s l) (hS:s.S=S') (hn:s.n=n'):Rch c todo s:=by
 subst hS;subst hn;exact zc4 h hs
theorem zaK {c:Cx} {todo:List Item} {s:St} {l:List (Nat×D)} {H Hv:Heap} {O:List Heap} {n:Nat} (h:Rch c todo {σ:=l,S:=Hv::O,n:=n}) (hs:Sub s l) (hS:s.S=H::O) (hH:SubH H Hv) (hok:zhb l Hv=true) (hn:s.n=n):Rch c todo s:=zdu hs hS hH hok hn h
theorem zb7 {c:Cx} {todo:List Item} {s6:St} {G P:Prop} (h1:(P→Rch c todo s6)→G) (h2:P→Rch c todo s6):G:=h1 h2
theorem zw7 {c:Cx} {todo:List Item} {G:Prop} {α:Type} {P:α→Prop} {s6:α→St} (h1:(∀a,P a→Rch c todo (s6 a))→G) (h2:∀a,P a→Rch c todo (s6 a)):G:=h1 h2
theorem ziW {α β:Type} {f:α→β} {l:List α} {i:Nat} (h:i<l.length):(l.take (i+1)).map f=(l.take i).map f++[f l[i]]:=by
 rw[List.take_add_one,List.getElem?_eq_getElem h,List.map_append];rfl
theorem beqT {a b:Int} (h:(a==b)=true):a=b:=by simpa using h
theorem beqF {a b:Int} (h:(a==b)=false):a≠b:=by simpa using h
theorem bneT {a b:Int} (h:(a != b)=true):a≠b:=by simpa using h
theorem bneF {a b:Int} (h:(a != b)=false):a=b:=by simpa using h
theorem notT {b:Bool} (h:(!b)=true):b=false:=by simpa using h
theorem notF {b:Bool} (h:(!b)=false):b=true:=by simpa using h
theorem zaz {H:Heap} {S:List Heap} {d nm:Nat} {o:Ob} (h:zab S d nm=some o):zab (H::S) (d+1) nm=some o:=h
theorem zaJ {H:Heap} {S S':List Heap} (h:∀d n,zab S' d n=zab S d n) (d n:Nat):zab (H::S') d n=zab (H::S) d n:=by
 cases d with
 |zero=>rfl
 |succ d=>have:=h d n;simpa [zab] using this
theorem za0 {H:Heap} {S S':List Heap} (h:shape S'=shape S):shape (H::S')=shape (H::S):=by
 funext d n
 cases d with
 |zero=>simp[shape,zab]
 |succ d=>
  have:=congrFun (congrFun h d) n;simpa [shape,zab] using this
end Go.AI
