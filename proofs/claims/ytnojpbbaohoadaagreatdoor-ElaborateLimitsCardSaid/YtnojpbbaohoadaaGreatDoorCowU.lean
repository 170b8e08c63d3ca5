/- The layer of abstract runs, part 21. -/
import Derived.Test.YtnojpbbaohoadaaGreatDoorCowT
import Derived.Test.YtnojpbbaohoadaaGreatDoorProg
import Derived.KernelRfl
set_option linter.unusedSimpArgs false
set_option linter.unusedVariables false
set_option linter.all false
set_option maxRecDepth 20000
set_option maxHeartbeats 4000000
namespace Go.AI
open Go.Proofs
def zsl:TI:={ size:=1,bytes:=8,k:=.sc,zero:=[.nilFunc] }
def zsk:TI:={ size:=1,bytes:=8,k:=.int .i64,zero:=[.int .i64 0] }
def zsj:TI:={ size:=1,bytes:=8,k:=.int .i64,zero:=[.int .i64 0] }
def zsi:TI:={ size:=1,bytes:=1,k:=.bool,zero:=[.bool false] }
def zsh:TI:={ size:=1,bytes:=1,k:=.int .u8,zero:=[.int .u8 0] }
def zsg:TI:={ size:=1,bytes:=16,k:=.str,zero:=[.string ⟨#[]⟩] }
def zqw:TI:={ size:=1,bytes:=8,k:=.int .u64,zero:=[.int .u64 0] }
def zqu:TI:={ size:=1,bytes:=4,k:=.int .i32,zero:=[.int .i32 0] }
def zqs:TI:={ size:=1,bytes:=24,k:=.slice 101,zero:=[.slice none 0 0] }
def zqr:TI:={ size:=1,bytes:=24,k:=.slice 87,zero:=[.slice none 0 0] }
def zqq:TI:={ size:=1,bytes:=24,k:=.slice 107,zero:=[.slice none 0 0] }
def zqp:TI:={ size:=1,bytes:=24,k:=.slice 91,zero:=[.slice none 0 0] }
def zqo:TI:={ size:=1,bytes:=24,k:=.slice 96,zero:=[.slice none 0 0] }
def zqn:TI:={ size:=7,bytes:=160,k:=.struct [(0,1,false),(1,1,false),(2,1,false),(3,1,false),(4,1,false),(5,1,false),(6,1,false)],zero:=[.string ⟨#[]⟩,.slice none 0 0,.slice none 0 0,.slice none 0 0,.slice none 0 0,.slice none 0 0,.slice none 0 0] }
def zql:TI:={ size:=2,bytes:=16,k:=.struct [(0,1,false),(1,1,false)],zero:=[.int .i64 0,.int .i64 0],cmp:=[.int .i64,.int .i64] }
def zqk:TI:={ size:=1,bytes:=8,k:=.int .i64,zero:=[.int .i64 0] }
def zqj:TI:={ size:=1,bytes:=8,k:=.sc,zero:=[.nilFunc] }
def zqi:TI:={ size:=1,bytes:=24,k:=.slice 76,zero:=[.slice none 0 0] }
def zqh:TI:={ size:=1,bytes:=24,k:=.slice 126,zero:=[.slice none 0 0] }
def zqg:TI:={ size:=1,bytes:=24,k:=.slice 158,zero:=[.slice none 0 0] }
def zqf:TI:={ size:=5,bytes:=120,k:=.struct [(0,1,false),(1,1,false),(2,1,false),(3,1,false),(4,1,false)],zero:=[.slice none 0 0,.slice none 0 0,.slice none 0 0,.slice none 0 0,.slice none 0 0] }
def zqd:TI:={ size:=1,bytes:=24,k:=.slice 3,zero:=[.slice none 0 0] }
def zqc:TI:={ size:=1,bytes:=24,k:=.slice 115,zero:=[.slice none 0 0] }
def zqb:TI:={ size:=1,bytes:=24,k:=.slice 187,zero:=[.slice none 0 0] }
def zqa:TI:={ size:=6,bytes:=112,k:=.struct [(0,1,false),(1,1,false),(2,1,false),(3,1,false),(4,1,false),(5,1,false)],zero:=[.slice none 0 0,.int .i64 0,.int .i64 0,.slice none 0 0,.slice none 0 0,.slice none 0 0] }
def zp8:TI:={ size:=1,bytes:=24,k:=.slice 68,zero:=[.slice none 0 0] }
def zp7:TI:={ size:=2,bytes:=32,k:=.struct [(0,1,false),(1,1,false)],zero:=[.int .i64 0,.slice none 0 0] }
def zp6:TI:={ size:=1,bytes:=24,k:=.slice 5,zero:=[.slice none 0 0] }
def zp5:TI:={ size:=1,bytes:=24,k:=.slice 129,zero:=[.slice none 0 0] }
def zp4:TI:={ size:=4,bytes:=80,k:=.struct [(0,1,false),(1,1,false),(2,1,false),(3,1,false)],zero:=[.slice none 0 0,.int .i64 0,.slice none 0 0,.slice none 0 0] }
def zp3:TI:={ size:=5,bytes:=96,k:=.struct [(0,1,false),(1,4,true)],zero:=[.string ⟨#[]⟩,.slice none 0 0,.int .i64 0,.slice none 0 0,.slice none 0 0] }
def zp2:TI:={ size:=1,bytes:=24,k:=.slice 9,zero:=[.slice none 0 0] }
def zp1:TI:={ size:=9,bytes:=176,k:=.struct [(0,1,false),(1,1,false),(2,1,false),(3,6,true)],zero:=[.string ⟨#[]⟩,.slice none 0 0,.slice none 0 0,.slice none 0 0,.int .i64 0,.int .i64 0,.slice none 0 0,.slice none 0 0,.slice none 0 0] }
def zp0:TI:={ size:=1,bytes:=24,k:=.slice 103,zero:=[.slice none 0 0] }
def zpZ:TI:={ size:=2,bytes:=40,k:=.struct [(0,1,false),(1,1,false)],zero:=[.string ⟨#[]⟩,.slice none 0 0] }
def zpY:TI:={ size:=2,bytes:=24,k:=.struct [(0,1,false),(1,1,false)],zero:=[.string ⟨#[]⟩,.int .i64 0],cmp:=[.str,.int .i64] }
def zpX:TI:={ size:=1,bytes:=24,k:=.slice 93,zero:=[.slice none 0 0] }
def zpW:TI:={ size:=3,bytes:=48,k:=.struct [(0,1,false),(1,1,false),(2,1,false)],zero:=[.string ⟨#[]⟩,.slice none 0 0,.int .i64 0] }
def zmv:TI:={ size:=5,bytes:=32,k:=.struct [(0,1,false),(1,1,false),(2,1,false),(3,1,false),(4,1,false)],zero:=[.string ⟨#[]⟩,.bool false,.bool false,.bool false,.int .i64 0],cmp:=[.str,.bool,.bool,.bool,.int .i64] }
def zmu:TI:={ size:=2,bytes:=32,k:=.struct [(0,1,false),(1,1,false)],zero:=[.string ⟨#[]⟩,.string ⟨#[]⟩],cmp:=[.str,.str] }
def zmt:TI:={ size:=3,bytes:=56,k:=.struct [(0,1,false),(1,1,false),(2,1,false)],zero:=[.string ⟨#[]⟩,.string ⟨#[]⟩,.slice none 0 0] }
def zms:TI:={ size:=4,bytes:=40,k:=.struct [(0,1,false),(1,1,false),(2,1,false),(3,1,false)],zero:=[.string ⟨#[]⟩,.int .i64 0,.int .i64 0,.int .i64 0],cmp:=[.str,.int .i64,.int .i64,.int .i64] }
def zmr:TI:={ size:=1,bytes:=24,k:=.slice 131,zero:=[.slice none 0 0] }
def zmq:TI:={ size:=2,bytes:=40,k:=.struct [(0,1,false),(1,1,false)],zero:=[.string ⟨#[]⟩,.slice none 0 0] }
def zmp:TI:={ size:=3,bytes:=24,k:=.struct [(0,1,false),(1,1,false),(2,1,false)],zero:=[.int .i64 0,.int .i64 0,.int .i64 0],cmp:=[.int .i64,.int .i64,.int .i64] }
def zmo:TI:={ size:=2,bytes:=16,k:=.struct [(0,1,false),(1,1,false)],zero:=[.int .i64 0,.int .i64 0],cmp:=[.int .i64,.int .i64] }
def zmn:TI:={ size:=1,bytes:=8,k:=.sc,zero:=[.nilFunc] }
def zmm:TI:={ size:=1,bytes:=24,k:=.slice 44,zero:=[.slice none 0 0] }
def zml:TI:={ size:=1,bytes:=24,k:=.slice 62,zero:=[.slice none 0 0] }
def zmk:TI:={ size:=1,bytes:=24,k:=.slice 160,zero:=[.slice none 0 0] }
def zmj:TI:={ size:=3,bytes:=48,k:=.struct [(0,1,false),(1,1,false),(2,1,false)],zero:=[.string ⟨#[]⟩,.slice none 0 0,.int .i64 0] }
def zmi:TI:={ size:=2,bytes:=16,k:=.struct [(0,1,false),(1,1,false)],zero:=[.int .i64 0,.int .i64 0],cmp:=[.int .i64,.int .i64] }
def zmh:TI:={ size:=1,bytes:=8,k:=.sc,zero:=[.nilFunc] }
def zmg:TI:={ size:=1,bytes:=8,k:=.sc,zero:=[.nilFunc] }
def zmf:TI:={ size:=1,bytes:=24,k:=.slice 184,zero:=[.slice none 0 0] }
def zme:TI:={ size:=4,bytes:=48,k:=.struct [(0,1,false),(1,1,false),(2,1,false),(3,1,false)],zero:=[.int .i64 0,.int .i64 0,.int .i64 0,.slice none 0 0] }
def zmd:TI:={ size:=1,bytes:=24,k:=.slice 189,zero:=[.slice none 0 0] }
def zmc:TI:={ size:=8,bytes:=96,k:=.struct [(0,1,false),(1,1,false),(2,1,false),(3,4,true),(7,1,false)],zero:=[.int .i64 0,.int .i64 0,.int .i64 0,.int .i64 0,.int .i64 0,.int .i64 0,.slice none 0 0,.slice none 0 0] }
def zmb:TI:={ size:=5,bytes:=56,k:=.struct [(0,1,false),(1,4,true)],zero:=[.int .i64 0,.int .i64 0,.int .i64 0,.int .i64 0,.slice none 0 0] }
def zma:TI:={ size:=1,bytes:=8,k:=.sc,zero:=[.nilFunc] }
def zl9:TI:={ size:=1,bytes:=8,k:=.sc,zero:=[.nilFunc] }
def zl8:TI:={ size:=1,bytes:=8,k:=.sc,zero:=[.nilFunc] }
def zl7:TI:={ size:=1,bytes:=8,k:=.sc,zero:=[.nilFunc] }
def zl6:TI:={ size:=1,bytes:=8,k:=.sc,zero:=[.nilFunc] }
def zl5:TI:={ size:=1,bytes:=8,k:=.sc,zero:=[.nilFunc] }
def zl4:TI:={ size:=1,bytes:=8,k:=.sc,zero:=[.nilFunc] }
def zl3:TI:={ size:=1,bytes:=8,k:=.sc,zero:=[.nilFunc] }
def zl2:TI:={ size:=1,bytes:=8,k:=.map 9 4,zero:=[.map none] }
def zl1:TI:={ size:=1,bytes:=8,k:=.sc,zero:=[.nilFunc] }
def zl0:TI:={ size:=1,bytes:=8,k:=.sc,zero:=[.nilFunc] }
def zlZ:TI:={ size:=1,bytes:=8,k:=.sc,zero:=[.nilFunc] }
def zlY:TI:={ size:=1,bytes:=8,k:=.int .u64,zero:=[.int .u64 0] }
def zlX:TI:={ size:=1,bytes:=8,k:=.ptr 187,zero:=[.pointer none] }
def zlW:TI:={ size:=1,bytes:=24,k:=.slice 124,zero:=[.slice none 0 0] }
def zlV:TI:={ size:=1,bytes:=24,k:=.slice 55,zero:=[.slice none 0 0] }
def zlU:TI:={ size:=1,bytes:=8,k:=.ptr 277,zero:=[.pointer none] }
def zlT:TI:={ size:=2,bytes:=32,k:=.struct [(0,1,false),(1,1,false)],zero:=[.pointer none,.slice none 0 0] }
def zlS:TI:={ size:=1,bytes:=16,k:=.sc,zero:=[.nilIface] }
def zlR:TI:={ size:=1,bytes:=8,k:=.map 9 3,zero:=[.map none] }
def zlQ:TI:={ size:=1,bytes:=8,k:=.sc,zero:=[.nilFunc] }
def zlP:TI:={ size:=1,bytes:=8,k:=.sc,zero:=[.nilFunc] }
def zlO:TI:={ size:=1,bytes:=24,k:=.slice 304,zero:=[.slice none 0 0] }
def zlN:TI:={ size:=2,bytes:=32,k:=.struct [(0,1,false),(1,1,false)],zero:=[.int .i64 0,.slice none 0 0] }
def zlM:TI:={ size:=1,bytes:=8,k:=.sc,zero:=[.nilFunc] }
def zlL:TI:={ size:=1,bytes:=8,k:=.sc,zero:=[.nilFunc] }
def zlK:TI:={ size:=1,bytes:=8,k:=.int .i64,zero:=[.int .i64 0] }
def zlJ:TI:={ size:=1,bytes:=4,k:=.int .u32,zero:=[.int .u32 0] }
def zlI:TI:={ size:=1,bytes:=8,k:=.int .u64,zero:=[.int .u64 0] }
def zlH:TI:={ size:=1,bytes:=8,k:=.sc,zero:=[.nilFunc] }
def zlG:TI:={ size:=24,bytes:=24,k:=.arr 24 5,zero:=[.int .u8 0,.int .u8 0,.int .u8 0,.int .u8 0,.int .u8 0,.int .u8 0,.int .u8 0,.int .u8 0,.int .u8 0,.int .u8 0,.int .u8 0,.int .u8 0,.int .u8 0,.int .u8 0,.int .u8 0,.int .u8 0,.int .u8 0,.int .u8 0,.int .u8 0,.int .u8 0,.int .u8 0,.int .u8 0,.int .u8 0,.int .u8 0] }
def zlF:TI:={ size:=1,bytes:=8,k:=.int .u64,zero:=[.int .u64 0] }
def zlE:TI:={ size:=1,bytes:=8,k:=.ptr 3,zero:=[.pointer none] }
def zlD:TI:={ size:=20,bytes:=160,k:=.arr 20 321,zero:=[.int .u64 0,.int .u64 0,.int .u64 0,.int .u64 0,.int .u64 0,.int .u64 0,.int .u64 0,.int .u64 0,.int .u64 0,.int .u64 0,.int .u64 0,.int .u64 0,.int .u64 0,.int .u64 0,.int .u64 0,.int .u64 0,.int .u64 0,.int .u64 0,.int .u64 0,.int .u64 0] }
def zlC:TI:={ size:=65,bytes:=65,k:=.arr 65 5,zero:=[.int .u8 0,.int .u8 0,.int .u8 0,.int .u8 0,.int .u8 0,.int .u8 0,.int .u8 0,.int .u8 0,.int .u8 0,.int .u8 0,.int .u8 0,.int .u8 0,.int .u8 0,.int .u8 0,.int .u8 0,.int .u8 0,.int .u8 0,.int .u8 0,.int .u8 0,.int .u8 0,.int .u8 0,.int .u8 0,.int .u8 0,.int .u8 0,.int .u8 0,.int .u8 0,.int .u8 0,.int .u8 0,.int .u8 0,.int .u8 0,.int .u8 0,.int .u8 0,.int .u8 0,.int .u8 0,.int .u8 0,.int .u8 0,.int .u8 0,.int .u8 0,.int .u8 0,.int .u8 0,.int .u8 0,.int .u8 0,.int .u8 0,.int .u8 0,.int .u8 0,.int .u8 0,.int .u8 0,.int .u8 0,.int .u8 0,.int .u8 0,.int .u8 0,.int .u8 0,.int .u8 0,.int .u8 0,.int .u8 0,.int .u8 0,.int .u8 0,.int .u8 0,.int .u8 0,.int .u8 0,.int .u8 0,.int .u8 0,.int .u8 0,.int .u8 0,.int .u8 0] }
def zlB:TI:={ size:=1,bytes:=8,k:=.ptr 353,zero:=[.pointer none] }
def zlA:TI:={ size:=32,bytes:=32,k:=.arr 32 5,zero:=[.int .u8 0,.int .u8 0,.int .u8 0,.int .u8 0,.int .u8 0,.int .u8 0,.int .u8 0,.int .u8 0,.int .u8 0,.int .u8 0,.int .u8 0,.int .u8 0,.int .u8 0,.int .u8 0,.int .u8 0,.int .u8 0,.int .u8 0,.int .u8 0,.int .u8 0,.int .u8 0,.int .u8 0,.int .u8 0,.int .u8 0,.int .u8 0,.int .u8 0,.int .u8 0,.int .u8 0,.int .u8 0,.int .u8 0,.int .u8 0,.int .u8 0,.int .u8 0] }
def zlz:TI:={ size:=64,bytes:=64,k:=.arr 64 5,zero:=[.int .u8 0,.int .u8 0,.int .u8 0,.int .u8 0,.int .u8 0,.int .u8 0,.int .u8 0,.int .u8 0,.int .u8 0,.int .u8 0,.int .u8 0,.int .u8 0,.int .u8 0,.int .u8 0,.int .u8 0,.int .u8 0,.int .u8 0,.int .u8 0,.int .u8 0,.int .u8 0,.int .u8 0,.int .u8 0,.int .u8 0,.int .u8 0,.int .u8 0,.int .u8 0,.int .u8 0,.int .u8 0,.int .u8 0,.int .u8 0,.int .u8 0,.int .u8 0,.int .u8 0,.int .u8 0,.int .u8 0,.int .u8 0,.int .u8 0,.int .u8 0,.int .u8 0,.int .u8 0,.int .u8 0,.int .u8 0,.int .u8 0,.int .u8 0,.int .u8 0,.int .u8 0,.int .u8 0,.int .u8 0,.int .u8 0,.int .u8 0,.int .u8 0,.int .u8 0,.int .u8 0,.int .u8 0,.int .u8 0,.int .u8 0,.int .u8 0,.int .u8 0,.int .u8 0,.int .u8 0,.int .u8 0,.int .u8 0,.int .u8 0,.int .u8 0] }
theorem zqv:TIok Tryz.prog 1 zsl:=tiok Tryz.type1 rfl rfl rfl rfl (by intro h; first | rfl | cases h) ⟨_,Tryz.underlying1,(by intro x h; cases h),(by intro x y h; cases h)⟩ (by decide) rfl (by decide) (.inl rfl)
theorem zqt:TIok Tryz.prog 2 zsk:=tiok Tryz.type2 rfl rfl rfl rfl (by intro h; first | rfl | cases h) Tryz.underlying2 (by decide) rfl (by decide) (.inl rfl)
theorem zqm:TIok Tryz.prog 3 zsj:=tiok Tryz.type3 rfl rfl rfl rfl (by intro h; first | rfl | cases h) Tryz.underlying3 (by decide) rfl (by decide) (.inl rfl)
theorem zqe:TIok Tryz.prog 4 zsi:=tiok Tryz.type4 rfl rfl rfl rfl (by intro h; first | rfl | cases h) Tryz.underlying4 (by decide) rfl (by decide) (.inl rfl)
theorem zp9:TIok Tryz.prog 5 zsh:=tiok Tryz.type5 rfl rfl rfl rfl (by intro h; first | rfl | cases h) Tryz.underlying5 (by decide) rfl (by decide) (.inl rfl)
theorem zpV:TIok Tryz.prog 9 zsg:=tiok Tryz.type9 rfl rfl rfl rfl (by intro h; first | rfl | cases h) Tryz.underlying9 (by decide) rfl (by decide) (.inl rfl)
theorem znX:TIok Tryz.prog 12 zqw:=tiok Tryz.type12 rfl rfl rfl rfl (by intro h; first | rfl | cases h) Tryz.underlying12 (by decide) rfl (by decide) (.inl rfl)
theorem znW:TIok Tryz.prog 21 zqu:=tiok Tryz.type21 rfl rfl rfl rfl (by intro h; first | rfl | cases h) Tryz.underlying21 (by decide) rfl (by decide) (.inl rfl)
theorem znV:TIok Tryz.prog 31 zqs:=tiok Tryz.type31 rfl rfl rfl rfl (by intro h; first | rfl | cases h) Tryz.underlying31 (by decide) rfl (by decide) (.inl rfl)
theorem znU:TIok Tryz.prog 32 zqr:=tiok Tryz.type32 rfl rfl rfl rfl (by intro h; first | rfl | cases h) Tryz.underlying32 (by decide) rfl (by decide) (.inl rfl)
theorem znT:TIok Tryz.prog 33 zqq:=tiok Tryz.type33 rfl rfl rfl rfl (by intro h; first | rfl | cases h) Tryz.underlying33 (by decide) rfl (by decide) (.inl rfl)
theorem znS:TIok Tryz.prog 34 zqp:=tiok Tryz.type34 rfl rfl rfl rfl (by intro h; first | rfl | cases h) Tryz.underlying34 (by decide) rfl (by decide) (.inl rfl)
theorem znR:TIok Tryz.prog 35 zqo:=tiok Tryz.type35 rfl rfl rfl rfl (by intro h; first | rfl | cases h) Tryz.underlying35 (by decide) rfl (by decide) (.inl rfl)
theorem znQ:TIok Tryz.prog 37 zqn:=tiok Tryz.type37 rfl rfl rfl rfl (by intro h; first | rfl | cases h) (zaq Tryz.underlying37 (.cons ⟨rfl,⟨_,Tryz.type9,rfl⟩,by decide,Tryz.isAgg9⟩ (.cons ⟨rfl,⟨_,Tryz.type31,rfl⟩,by decide,Tryz.isAgg31⟩ (.cons ⟨rfl,⟨_,Tryz.type32,rfl⟩,by decide,Tryz.isAgg32⟩ (.cons ⟨rfl,⟨_,Tryz.type33,rfl⟩,by decide,Tryz.isAgg33⟩ (.cons ⟨rfl,⟨_,Tryz.type33,rfl⟩,by decide,Tryz.isAgg33⟩ (.cons ⟨rfl,⟨_,Tryz.type34,rfl⟩,by decide,Tryz.isAgg34⟩ (.cons ⟨rfl,⟨_,Tryz.type35,rfl⟩,by decide,Tryz.isAgg35⟩ .nil)))))))) (by decide) rfl (by decide) (.inl rfl)
theorem znP:TIok Tryz.prog 41 zql:=tiok Tryz.type41 rfl rfl rfl rfl (by intro h; first | rfl | cases h) (zaq Tryz.underlying41 (.cons ⟨rfl,⟨_,Tryz.type3,rfl⟩,by decide,Tryz.isAgg3⟩ (.cons ⟨rfl,⟨_,Tryz.type3,rfl⟩,by decide,Tryz.isAgg3⟩ .nil))) (by decide) rfl (by decide) (.inr (.inl ⟨Tryz.underlying41,by kernel_rfl,Tryz.eqGuardType41,⟨by decide,rfl,Tryz.underlying3,⟨by decide,rfl,Tryz.underlying3,trivial⟩⟩⟩))
theorem znO:TIok Tryz.prog 42 zqk:=tiok Tryz.type42 rfl rfl rfl rfl (by intro h; first | rfl | cases h) Tryz.underlying42 (by decide) rfl (by decide) (.inl rfl)
theorem znN:TIok Tryz.prog 44 zqj:=tiok Tryz.type44 rfl rfl rfl rfl (by intro h; first | rfl | cases h) ⟨_,Tryz.underlying44,(by intro x h; cases h),(by intro x y h; cases h)⟩ (by decide) rfl (by decide) (.inl rfl)
theorem znM:TIok Tryz.prog 45 zqi:=tiok Tryz.type45 rfl rfl rfl rfl (by intro h; first | rfl | cases h) Tryz.underlying45 (by decide) rfl (by decide) (.inl rfl)
theorem znL:TIok Tryz.prog 46 zqh:=tiok Tryz.type46 rfl rfl rfl rfl (by intro h; first | rfl | cases h) Tryz.underlying46 (by decide) rfl (by decide) (.inl rfl)
theorem znK:TIok Tryz.prog 47 zqg:=tiok Tryz.type47 rfl rfl rfl rfl (by intro h; first | rfl | cases h) Tryz.underlying47 (by decide) rfl (by decide) (.inl rfl)
theorem znJ:TIok Tryz.prog 49 zqf:=tiok Tryz.type49 rfl rfl rfl rfl (by intro h; first | rfl | cases h) (zaq Tryz.underlying49 (.cons ⟨rfl,⟨_,Tryz.type31,rfl⟩,by decide,Tryz.isAgg31⟩ (.cons ⟨rfl,⟨_,Tryz.type45,rfl⟩,by decide,Tryz.isAgg45⟩ (.cons ⟨rfl,⟨_,Tryz.type45,rfl⟩,by decide,Tryz.isAgg45⟩ (.cons ⟨rfl,⟨_,Tryz.type46,rfl⟩,by decide,Tryz.isAgg46⟩ (.cons ⟨rfl,⟨_,Tryz.type47,rfl⟩,by decide,Tryz.isAgg47⟩ .nil)))))) (by decide) rfl (by decide) (.inl rfl)
theorem znI:TIok Tryz.prog 55 zqd:=tiok Tryz.type55 rfl rfl rfl rfl (by intro h; first | rfl | cases h) Tryz.underlying55 (by decide) rfl (by decide) (.inl rfl)
theorem znH:TIok Tryz.prog 56 zqc:=tiok Tryz.type56 rfl rfl rfl rfl (by intro h; first | rfl | cases h) Tryz.underlying56 (by decide) rfl (by decide) (.inl rfl)
theorem znG:TIok Tryz.prog 57 zqb:=tiok Tryz.type57 rfl rfl rfl rfl (by intro h; first | rfl | cases h) Tryz.underlying57 (by decide) rfl (by decide) (.inl rfl)
theorem znF:TIok Tryz.prog 59 zqa:=tiok Tryz.type59 rfl rfl rfl rfl (by intro h; first | rfl | cases h) (zaq Tryz.underlying59 (.cons ⟨rfl,⟨_,Tryz.type55,rfl⟩,by decide,Tryz.isAgg55⟩ (.cons ⟨rfl,⟨_,Tryz.type3,rfl⟩,by decide,Tryz.isAgg3⟩ (.cons ⟨rfl,⟨_,Tryz.type3,rfl⟩,by decide,Tryz.isAgg3⟩ (.cons ⟨rfl,⟨_,Tryz.type55,rfl⟩,by decide,Tryz.isAgg55⟩ (.cons ⟨rfl,⟨_,Tryz.type56,rfl⟩,by decide,Tryz.isAgg56⟩ (.cons ⟨rfl,⟨_,Tryz.type57,rfl⟩,by decide,Tryz.isAgg57⟩ .nil))))))) (by decide) rfl (by decide) (.inl rfl)
theorem znE:TIok Tryz.prog 62 zp8:=tiok Tryz.type62 rfl rfl rfl rfl (by intro h; first | rfl | cases h) Tryz.underlying62 (by decide) rfl (by decide) (.inl rfl)
theorem znD:TIok Tryz.prog 68 zp7:=tiok Tryz.type68 rfl rfl rfl rfl (by intro h; first | rfl | cases h) (zaq Tryz.underlying68 (.cons ⟨rfl,⟨_,Tryz.type3,rfl⟩,by decide,Tryz.isAgg3⟩ (.cons ⟨rfl,⟨_,Tryz.type55,rfl⟩,by decide,Tryz.isAgg55⟩ .nil))) (by decide) rfl (by decide) (.inl rfl)
theorem znC:TIok Tryz.prog 71 zp6:=tiok Tryz.type71 rfl rfl rfl rfl (by intro h; first | rfl | cases h) Tryz.underlying71 (by decide) rfl (by decide) (.inl rfl)
theorem znB:TIok Tryz.prog 72 zp5:=tiok Tryz.type72 rfl rfl rfl rfl (by intro h; first | rfl | cases h) Tryz.underlying72 (by decide) rfl (by decide) (.inl rfl)
theorem znA:TIok Tryz.prog 74 zp4:=tiok Tryz.type74 rfl rfl rfl rfl (by intro h; first | rfl | cases h) (zaq Tryz.underlying74 (.cons ⟨rfl,⟨_,Tryz.type55,rfl⟩,by decide,Tryz.isAgg55⟩ (.cons ⟨rfl,⟨_,Tryz.type3,rfl⟩,by decide,Tryz.isAgg3⟩ (.cons ⟨rfl,⟨_,Tryz.type55,rfl⟩,by decide,Tryz.isAgg55⟩ (.cons ⟨rfl,⟨_,Tryz.type72,rfl⟩,by decide,Tryz.isAgg72⟩ .nil))))) (by decide) rfl (by decide) (.inl rfl)
theorem znz:TIok Tryz.prog 76 zp3:=tiok Tryz.type76 rfl rfl rfl rfl (by intro h; first | rfl | cases h) (zaq Tryz.underlying76 (.cons ⟨rfl,⟨_,Tryz.type9,rfl⟩,by decide,Tryz.isAgg9⟩ (.cons ⟨rfl,⟨_,Tryz.type74,rfl⟩,by decide,Tryz.isAgg74⟩ .nil))) (by decide) rfl (by decide) (.inl rfl)
theorem zny:TIok Tryz.prog 85 zp2:=tiok Tryz.type85 rfl rfl rfl rfl (by intro h; first | rfl | cases h) Tryz.underlying85 (by decide) rfl (by decide) (.inl rfl)
theorem znx:TIok Tryz.prog 87 zp1:=tiok Tryz.type87 rfl rfl rfl rfl (by intro h; first | rfl | cases h) (zaq Tryz.underlying87 (.cons ⟨rfl,⟨_,Tryz.type9,rfl⟩,by decide,Tryz.isAgg9⟩ (.cons ⟨rfl,⟨_,Tryz.type85,rfl⟩,by decide,Tryz.isAgg85⟩ (.cons ⟨rfl,⟨_,Tryz.type85,rfl⟩,by decide,Tryz.isAgg85⟩ (.cons ⟨rfl,⟨_,Tryz.type59,rfl⟩,by decide,Tryz.isAgg59⟩ .nil))))) (by decide) rfl (by decide) (.inl rfl)
theorem znw:TIok Tryz.prog 89 zp0:=tiok Tryz.type89 rfl rfl rfl rfl (by intro h; first | rfl | cases h) Tryz.underlying89 (by decide) rfl (by decide) (.inl rfl)
theorem znv:TIok Tryz.prog 91 zpZ:=tiok Tryz.type91 rfl rfl rfl rfl (by intro h; first | rfl | cases h) (zaq Tryz.underlying91 (.cons ⟨rfl,⟨_,Tryz.type9,rfl⟩,by decide,Tryz.isAgg9⟩ (.cons ⟨rfl,⟨_,Tryz.type89,rfl⟩,by decide,Tryz.isAgg89⟩ .nil))) (by decide) rfl (by decide) (.inl rfl)
theorem znu:TIok Tryz.prog 93 zpY:=tiok Tryz.type93 rfl rfl rfl rfl (by intro h; first | rfl | cases h) (zaq Tryz.underlying93 (.cons ⟨rfl,⟨_,Tryz.type9,rfl⟩,by decide,Tryz.isAgg9⟩ (.cons ⟨rfl,⟨_,Tryz.type3,rfl⟩,by decide,Tryz.isAgg3⟩ .nil))) (by decide) rfl (by decide) (.inr (.inl ⟨Tryz.underlying93,by kernel_rfl,Tryz.eqGuardType93,⟨by decide,rfl,Tryz.underlying9,⟨by decide,rfl,Tryz.underlying3,trivial⟩⟩⟩))
theorem znt:TIok Tryz.prog 94 zpX:=tiok Tryz.type94 rfl rfl rfl rfl (by intro h; first | rfl | cases h) Tryz.underlying94 (by decide) rfl (by decide) (.inl rfl)
theorem zns:TIok Tryz.prog 96 zpW:=tiok Tryz.type96 rfl rfl rfl rfl (by intro h; first | rfl | cases h) (zaq Tryz.underlying96 (.cons ⟨rfl,⟨_,Tryz.type9,rfl⟩,by decide,Tryz.isAgg9⟩ (.cons ⟨rfl,⟨_,Tryz.type94,rfl⟩,by decide,Tryz.isAgg94⟩ (.cons ⟨rfl,⟨_,Tryz.type3,rfl⟩,by decide,Tryz.isAgg3⟩ .nil)))) (by decide) rfl (by decide) (.inl rfl)
theorem zkP:TIok Tryz.prog 101 zmv:=tiok Tryz.type101 rfl rfl rfl rfl (by intro h; first | rfl | cases h) (zaq Tryz.underlying101 (.cons ⟨rfl,⟨_,Tryz.type9,rfl⟩,by decide,Tryz.isAgg9⟩ (.cons ⟨rfl,⟨_,Tryz.type4,rfl⟩,by decide,Tryz.isAgg4⟩ (.cons ⟨rfl,⟨_,Tryz.type4,rfl⟩,by decide,Tryz.isAgg4⟩ (.cons ⟨rfl,⟨_,Tryz.type4,rfl⟩,by decide,Tryz.isAgg4⟩ (.cons ⟨rfl,⟨_,Tryz.type3,rfl⟩,by decide,Tryz.isAgg3⟩ .nil)))))) (by decide) rfl (by decide) (.inr (.inl ⟨Tryz.underlying101,by kernel_rfl,Tryz.eqGuardType101,⟨by decide,rfl,Tryz.underlying9,⟨by decide,rfl,Tryz.underlying4,⟨by decide,rfl,Tryz.underlying4,⟨by decide,rfl,Tryz.underlying4,⟨by decide,rfl,Tryz.underlying3,trivial⟩⟩⟩⟩⟩⟩))
theorem zkO:TIok Tryz.prog 103 zmu:=tiok Tryz.type103 rfl rfl rfl rfl (by intro h; first | rfl | cases h) (zaq Tryz.underlying103 (.cons ⟨rfl,⟨_,Tryz.type9,rfl⟩,by decide,Tryz.isAgg9⟩ (.cons ⟨rfl,⟨_,Tryz.type9,rfl⟩,by decide,Tryz.isAgg9⟩ .nil))) (by decide) rfl (by decide) (.inr (.inl ⟨Tryz.underlying103,by kernel_rfl,Tryz.eqGuardType103,⟨by decide,rfl,Tryz.underlying9,⟨by decide,rfl,Tryz.underlying9,trivial⟩⟩⟩))
theorem zkN:TIok Tryz.prog 107 zmt:=tiok Tryz.type107 rfl rfl rfl rfl (by intro h; first | rfl | cases h) (zaq Tryz.underlying107 (.cons ⟨rfl,⟨_,Tryz.type9,rfl⟩,by decide,Tryz.isAgg9⟩ (.cons ⟨rfl,⟨_,Tryz.type9,rfl⟩,by decide,Tryz.isAgg9⟩ (.cons ⟨rfl,⟨_,Tryz.type85,rfl⟩,by decide,Tryz.isAgg85⟩ .nil)))) (by decide) rfl (by decide) (.inl rfl)
theorem zkM:TIok Tryz.prog 115 zms:=tiok Tryz.type115 rfl rfl rfl rfl (by intro h; first | rfl | cases h) (zaq Tryz.underlying115 (.cons ⟨rfl,⟨_,Tryz.type9,rfl⟩,by decide,Tryz.isAgg9⟩ (.cons ⟨rfl,⟨_,Tryz.type3,rfl⟩,by decide,Tryz.isAgg3⟩ (.cons ⟨rfl,⟨_,Tryz.type3,rfl⟩,by decide,Tryz.isAgg3⟩ (.cons ⟨rfl,⟨_,Tryz.type3,rfl⟩,by decide,Tryz.isAgg3⟩ .nil))))) (by decide) rfl (by decide) (.inr (.inl ⟨Tryz.underlying115,by kernel_rfl,Tryz.eqGuardType115,⟨by decide,rfl,Tryz.underlying9,⟨by decide,rfl,Tryz.underlying3,⟨by decide,rfl,Tryz.underlying3,⟨by decide,rfl,Tryz.underlying3,trivial⟩⟩⟩⟩⟩))
theorem zkL:TIok Tryz.prog 124 zmr:=tiok Tryz.type124 rfl rfl rfl rfl (by intro h; first | rfl | cases h) Tryz.underlying124 (by decide) rfl (by decide) (.inl rfl)
theorem zkK:TIok Tryz.prog 126 zmq:=tiok Tryz.type126 rfl rfl rfl rfl (by intro h; first | rfl | cases h) (zaq Tryz.underlying126 (.cons ⟨rfl,⟨_,Tryz.type9,rfl⟩,by decide,Tryz.isAgg9⟩ (.cons ⟨rfl,⟨_,Tryz.type124,rfl⟩,by decide,Tryz.isAgg124⟩ .nil))) (by decide) rfl (by decide) (.inl rfl)
theorem zkJ:TIok Tryz.prog 129 zmp:=tiok Tryz.type129 rfl rfl rfl rfl (by intro h; first | rfl | cases h) (zaq Tryz.underlying129 (.cons ⟨rfl,⟨_,Tryz.type3,rfl⟩,by decide,Tryz.isAgg3⟩ (.cons ⟨rfl,⟨_,Tryz.type3,rfl⟩,by decide,Tryz.isAgg3⟩ (.cons ⟨rfl,⟨_,Tryz.type3,rfl⟩,by decide,Tryz.isAgg3⟩ .nil)))) (by decide) rfl (by decide) (.inr (.inl ⟨Tryz.underlying129,by kernel_rfl,Tryz.eqGuardType129,⟨by decide,rfl,Tryz.underlying3,⟨by decide,rfl,Tryz.underlying3,⟨by decide,rfl,Tryz.underlying3,trivial⟩⟩⟩⟩))
theorem zkI:TIok Tryz.prog 131 zmo:=tiok Tryz.type131 rfl rfl rfl rfl (by intro h; first | rfl | cases h) (zaq Tryz.underlying131 (.cons ⟨rfl,⟨_,Tryz.type3,rfl⟩,by decide,Tryz.isAgg3⟩ (.cons ⟨rfl,⟨_,Tryz.type3,rfl⟩,by decide,Tryz.isAgg3⟩ .nil))) (by decide) rfl (by decide) (.inr (.inl ⟨Tryz.underlying131,by kernel_rfl,Tryz.eqGuardType131,⟨by decide,rfl,Tryz.underlying3,⟨by decide,rfl,Tryz.underlying3,trivial⟩⟩⟩))
theorem zkH:TIok Tryz.prog 148 zmn:=tiok Tryz.type148 rfl rfl rfl rfl (by intro h; first | rfl | cases h) ⟨_,Tryz.underlying148,(by intro x h; cases h),(by intro x y h; cases h)⟩ (by decide) rfl (by decide) (.inl rfl)
theorem zkG:TIok Tryz.prog 150 zmm:=tiok Tryz.type150 rfl rfl rfl rfl (by intro h; first | rfl | cases h) Tryz.underlying150 (by decide) rfl (by decide) (.inl rfl)
theorem zkF:TIok Tryz.prog 153 zml:=tiok Tryz.type153 rfl rfl rfl rfl (by intro h; first | rfl | cases h) Tryz.underlying153 (by decide) rfl (by decide) (.inl rfl)
theorem zkE:TIok Tryz.prog 156 zmk:=tiok Tryz.type156 rfl rfl rfl rfl (by intro h; first | rfl | cases h) Tryz.underlying156 (by decide) rfl (by decide) (.inl rfl)
theorem zkD:TIok Tryz.prog 158 zmj:=tiok Tryz.type158 rfl rfl rfl rfl (by intro h; first | rfl | cases h) (zaq Tryz.underlying158 (.cons ⟨rfl,⟨_,Tryz.type9,rfl⟩,by decide,Tryz.isAgg9⟩ (.cons ⟨rfl,⟨_,Tryz.type156,rfl⟩,by decide,Tryz.isAgg156⟩ (.cons ⟨rfl,⟨_,Tryz.type3,rfl⟩,by decide,Tryz.isAgg3⟩ .nil)))) (by decide) rfl (by decide) (.inl rfl)
theorem zkC:TIok Tryz.prog 160 zmi:=tiok Tryz.type160 rfl rfl rfl rfl (by intro h; first | rfl | cases h) (zaq Tryz.underlying160 (.cons ⟨rfl,⟨_,Tryz.type3,rfl⟩,by decide,Tryz.isAgg3⟩ (.cons ⟨rfl,⟨_,Tryz.type3,rfl⟩,by decide,Tryz.isAgg3⟩ .nil))) (by decide) rfl (by decide) (.inr (.inl ⟨Tryz.underlying160,by kernel_rfl,Tryz.eqGuardType160,⟨by decide,rfl,Tryz.underlying3,⟨by decide,rfl,Tryz.underlying3,trivial⟩⟩⟩))
theorem zkB:TIok Tryz.prog 163 zmh:=tiok Tryz.type163 rfl rfl rfl rfl (by intro h; first | rfl | cases h) ⟨_,Tryz.underlying163,(by intro x h; cases h),(by intro x y h; cases h)⟩ (by decide) rfl (by decide) (.inl rfl)
theorem zkA:TIok Tryz.prog 179 zmg:=tiok Tryz.type179 rfl rfl rfl rfl (by intro h; first | rfl | cases h) ⟨_,Tryz.underlying179,(by intro x h; cases h),(by intro x y h; cases h)⟩ (by decide) rfl (by decide) (.inl rfl)
theorem zkz:TIok Tryz.prog 182 zmf:=tiok Tryz.type182 rfl rfl rfl rfl (by intro h; first | rfl | cases h) Tryz.underlying182 (by decide) rfl (by decide) (.inl rfl)
theorem zky:TIok Tryz.prog 184 zme:=tiok Tryz.type184 rfl rfl rfl rfl (by intro h; first | rfl | cases h) (zaq Tryz.underlying184 (.cons ⟨rfl,⟨_,Tryz.type3,rfl⟩,by decide,Tryz.isAgg3⟩ (.cons ⟨rfl,⟨_,Tryz.type3,rfl⟩,by decide,Tryz.isAgg3⟩ (.cons ⟨rfl,⟨_,Tryz.type3,rfl⟩,by decide,Tryz.isAgg3⟩ (.cons ⟨rfl,⟨_,Tryz.type182,rfl⟩,by decide,Tryz.isAgg182⟩ .nil))))) (by decide) rfl (by decide) (.inl rfl)
theorem zkx:TIok Tryz.prog 185 zmd:=tiok Tryz.type185 rfl rfl rfl rfl (by intro h; first | rfl | cases h) Tryz.underlying185 (by decide) rfl (by decide) (.inl rfl)
theorem zkw:TIok Tryz.prog 187 zmc:=tiok Tryz.type187 rfl rfl rfl rfl (by intro h; first | rfl | cases h) (zaq Tryz.underlying187 (.cons ⟨rfl,⟨_,Tryz.type3,rfl⟩,by decide,Tryz.isAgg3⟩ (.cons ⟨rfl,⟨_,Tryz.type3,rfl⟩,by decide,Tryz.isAgg3⟩ (.cons ⟨rfl,⟨_,Tryz.type3,rfl⟩,by decide,Tryz.isAgg3⟩ (.cons ⟨rfl,⟨_,Tryz.type184,rfl⟩,by decide,Tryz.isAgg184⟩ (.cons ⟨rfl,⟨_,Tryz.type185,rfl⟩,by decide,Tryz.isAgg185⟩ .nil)))))) (by decide) rfl (by decide) (.inl rfl)
theorem zkv:TIok Tryz.prog 189 zmb:=tiok Tryz.type189 rfl rfl rfl rfl (by intro h; first | rfl | cases h) (zaq Tryz.underlying189 (.cons ⟨rfl,⟨_,Tryz.type3,rfl⟩,by decide,Tryz.isAgg3⟩ (.cons ⟨rfl,⟨_,Tryz.type184,rfl⟩,by decide,Tryz.isAgg184⟩ .nil))) (by decide) rfl (by decide) (.inl rfl)
theorem zku:TIok Tryz.prog 195 zma:=tiok Tryz.type195 rfl rfl rfl rfl (by intro h; first | rfl | cases h) ⟨_,Tryz.underlying195,(by intro x h; cases h),(by intro x y h; cases h)⟩ (by decide) rfl (by decide) (.inl rfl)
theorem zkt:TIok Tryz.prog 196 zl9:=tiok Tryz.type196 rfl rfl rfl rfl (by intro h; first | rfl | cases h) ⟨_,Tryz.underlying196,(by intro x h; cases h),(by intro x y h; cases h)⟩ (by decide) rfl (by decide) (.inl rfl)
theorem zks:TIok Tryz.prog 197 zl8:=tiok Tryz.type197 rfl rfl rfl rfl (by intro h; first | rfl | cases h) ⟨_,Tryz.underlying197,(by intro x h; cases h),(by intro x y h; cases h)⟩ (by decide) rfl (by decide) (.inl rfl)
theorem zkr:TIok Tryz.prog 216 zl7:=tiok Tryz.type216 rfl rfl rfl rfl (by intro h; first | rfl | cases h) ⟨_,Tryz.underlying216,(by intro x h; cases h),(by intro x y h; cases h)⟩ (by decide) rfl (by decide) (.inl rfl)
theorem zkq:TIok Tryz.prog 218 zl6:=tiok Tryz.type218 rfl rfl rfl rfl (by intro h; first | rfl | cases h) ⟨_,Tryz.underlying218,(by intro x h; cases h),(by intro x y h; cases h)⟩ (by decide) rfl (by decide) (.inl rfl)
theorem zkp:TIok Tryz.prog 220 zl5:=tiok Tryz.type220 rfl rfl rfl rfl (by intro h; first | rfl | cases h) ⟨_,Tryz.underlying220,(by intro x h; cases h),(by intro x y h; cases h)⟩ (by decide) rfl (by decide) (.inl rfl)
theorem zko:TIok Tryz.prog 222 zl4:=tiok Tryz.type222 rfl rfl rfl rfl (by intro h; first | rfl | cases h) ⟨_,Tryz.underlying222,(by intro x h; cases h),(by intro x y h; cases h)⟩ (by decide) rfl (by decide) (.inl rfl)
theorem zkn:TIok Tryz.prog 224 zl3:=tiok Tryz.type224 rfl rfl rfl rfl (by intro h; first | rfl | cases h) ⟨_,Tryz.underlying224,(by intro x h; cases h),(by intro x y h; cases h)⟩ (by decide) rfl (by decide) (.inl rfl)
theorem zkm:TIok Tryz.prog 232 zl2:=tiok Tryz.type232 rfl rfl rfl rfl (by intro h; first | rfl | cases h) Tryz.underlying232 (by decide) rfl (by decide) (.inl rfl)
theorem zkl:TIok Tryz.prog 246 zl1:=tiok Tryz.type246 rfl rfl rfl rfl (by intro h; first | rfl | cases h) ⟨_,Tryz.underlying246,(by intro x h; cases h),(by intro x y h; cases h)⟩ (by decide) rfl (by decide) (.inl rfl)
theorem zkk:TIok Tryz.prog 250 zl0:=tiok Tryz.type250 rfl rfl rfl rfl (by intro h; first | rfl | cases h) ⟨_,Tryz.underlying250,(by intro x h; cases h),(by intro x y h; cases h)⟩ (by decide) rfl (by decide) (.inl rfl)
theorem zkj:TIok Tryz.prog 254 zlZ:=tiok Tryz.type254 rfl rfl rfl rfl (by intro h; first | rfl | cases h) ⟨_,Tryz.underlying254,(by intro x h; cases h),(by intro x y h; cases h)⟩ (by decide) rfl (by decide) (.inl rfl)
theorem zki:TIok Tryz.prog 257 zlY:=tiok Tryz.type257 rfl rfl rfl rfl (by intro h; first | rfl | cases h) Tryz.underlying257 (by decide) rfl (by decide) (.inl rfl)
theorem zkh:TIok Tryz.prog 263 zlX:=tiok Tryz.type263 rfl rfl rfl rfl (by intro h; first | rfl | cases h) Tryz.underlying263 (by decide) rfl (by decide) (.inl rfl)
theorem zkg:TIok Tryz.prog 273 zlW:=tiok Tryz.type273 rfl rfl rfl rfl (by intro h; first | rfl | cases h) Tryz.underlying273 (by decide) rfl (by decide) (.inl rfl)
theorem zkf:TIok Tryz.prog 274 zlV:=tiok Tryz.type274 rfl rfl rfl rfl (by intro h; first | rfl | cases h) Tryz.underlying274 (by decide) rfl (by decide) (.inl rfl)
theorem zke:TIok Tryz.prog 275 zlU:=tiok Tryz.type275 rfl rfl rfl rfl (by intro h; first | rfl | cases h) Tryz.underlying275 (by decide) rfl (by decide) (.inl rfl)
theorem zkd:TIok Tryz.prog 277 zlT:=tiok Tryz.type277 rfl rfl rfl rfl (by intro h; first | rfl | cases h) (zaq Tryz.underlying277 (.cons ⟨rfl,⟨_,Tryz.type275,rfl⟩,by decide,Tryz.isAgg275⟩ (.cons ⟨rfl,⟨_,Tryz.type71,rfl⟩,by decide,Tryz.isAgg71⟩ .nil))) (by decide) rfl (by decide) (.inl rfl)
theorem zkc:TIok Tryz.prog 279 zlS:=tiok Tryz.type279 rfl rfl rfl rfl (by intro h; first | rfl | cases h) ⟨_,Tryz.underlying279,(by intro x h; cases h),(by intro x y h; cases h)⟩ (by decide) rfl (by decide) (.inl rfl)
theorem zkb:TIok Tryz.prog 284 zlR:=tiok Tryz.type284 rfl rfl rfl rfl (by intro h; first | rfl | cases h) Tryz.underlying284 (by decide) rfl (by decide) (.inl rfl)
theorem zka:TIok Tryz.prog 295 zlQ:=tiok Tryz.type295 rfl rfl rfl rfl (by intro h; first | rfl | cases h) ⟨_,Tryz.underlying295,(by intro x h; cases h),(by intro x y h; cases h)⟩ (by decide) rfl (by decide) (.inl rfl)
theorem zj9:TIok Tryz.prog 298 zlP:=tiok Tryz.type298 rfl rfl rfl rfl (by intro h; first | rfl | cases h) ⟨_,Tryz.underlying298,(by intro x h; cases h),(by intro x y h; cases h)⟩ (by decide) rfl (by decide) (.inl rfl)
theorem zj8:TIok Tryz.prog 301 zlO:=tiok Tryz.type301 rfl rfl rfl rfl (by intro h; first | rfl | cases h) Tryz.underlying301 (by decide) rfl (by decide) (.inl rfl)
theorem zj7:TIok Tryz.prog 304 zlN:=tiok Tryz.type304 rfl rfl rfl rfl (by intro h; first | rfl | cases h) (zaq Tryz.underlying304 (.cons ⟨rfl,⟨_,Tryz.type3,rfl⟩,by decide,Tryz.isAgg3⟩ (.cons ⟨rfl,⟨_,Tryz.type55,rfl⟩,by decide,Tryz.isAgg55⟩ .nil))) (by decide) rfl (by decide) (.inl rfl)
theorem zj6:TIok Tryz.prog 306 zlM:=tiok Tryz.type306 rfl rfl rfl rfl (by intro h; first | rfl | cases h) ⟨_,Tryz.underlying306,(by intro x h; cases h),(by intro x y h; cases h)⟩ (by decide) rfl (by decide) (.inl rfl)
theorem zj5:TIok Tryz.prog 308 zlL:=tiok Tryz.type308 rfl rfl rfl rfl (by intro h; first | rfl | cases h) ⟨_,Tryz.underlying308,(by intro x h; cases h),(by intro x y h; cases h)⟩ (by decide) rfl (by decide) (.inl rfl)
theorem zj4:TIok Tryz.prog 312 zlK:=tiok Tryz.type312 rfl rfl rfl rfl (by intro h; first | rfl | cases h) Tryz.underlying312 (by decide) rfl (by decide) (.inl rfl)
theorem zj3:TIok Tryz.prog 319 zlJ:=tiok Tryz.type319 rfl rfl rfl rfl (by intro h; first | rfl | cases h) Tryz.underlying319 (by decide) rfl (by decide) (.inl rfl)
theorem zj2:TIok Tryz.prog 321 zlI:=tiok Tryz.type321 rfl rfl rfl rfl (by intro h; first | rfl | cases h) Tryz.underlying321 (by decide) rfl (by decide) (.inl rfl)
theorem zj1:TIok Tryz.prog 328 zlH:=tiok Tryz.type328 rfl rfl rfl rfl (by intro h; first | rfl | cases h) ⟨_,Tryz.underlying328,(by intro x h; cases h),(by intro x y h; cases h)⟩ (by decide) rfl (by decide) (.inl rfl)
theorem zj0:TIok Tryz.prog 336 zlG:=tiok Tryz.type336 rfl rfl rfl rfl (by intro h; first | rfl | cases h) Tryz.underlying336 (by decide) rfl (by decide) (.inl rfl)
theorem zjZ:TIok Tryz.prog 353 zlF:=tiok Tryz.type353 rfl rfl rfl rfl (by intro h; first | rfl | cases h) Tryz.underlying353 (by decide) rfl (by decide) (.inl rfl)
theorem zjY:TIok Tryz.prog 357 zlE:=tiok Tryz.type357 rfl rfl rfl rfl (by intro h; first | rfl | cases h) Tryz.underlying357 (by decide) rfl (by decide) (.inl rfl)
theorem zjX:TIok Tryz.prog 369 zlD:=tiok Tryz.type369 rfl rfl rfl rfl (by intro h; first | rfl | cases h) Tryz.underlying369 (by decide) rfl (by decide) (.inl rfl)
theorem zjW:TIok Tryz.prog 370 zlC:=tiok Tryz.type370 rfl rfl rfl rfl (by intro h; first | rfl | cases h) Tryz.underlying370 (by decide) rfl (by decide) (.inl rfl)
theorem zjV:TIok Tryz.prog 384 zlB:=tiok Tryz.type384 rfl rfl rfl rfl (by intro h; first | rfl | cases h) Tryz.underlying384 (by decide) rfl (by decide) (.inl rfl)
theorem zjU:TIok Tryz.prog 392 zlA:=tiok Tryz.type392 rfl rfl rfl rfl (by intro h; first | rfl | cases h) Tryz.underlying392 (by decide) rfl (by decide) (.inl rfl)
theorem zjT:TIok Tryz.prog 393 zlz:=tiok Tryz.type393 rfl rfl rfl rfl (by intro h; first | rfl | cases h) Tryz.underlying393 (by decide) rfl (by decide) (.inl rfl)
def zu5:TT:=[
 (1,zsl),
 (2,zsk),
 (3,zsj),
 (4,zsi),
 (5,zsh),
 (9,zsg),
 (12,zqw),
 (21,zqu),
 (31,zqs),
 (32,zqr),
 (33,zqq),
 (34,zqp),
 (35,zqo),
 (37,zqn),
 (41,zql),
 (42,zqk),
 (44,zqj),
 (45,zqi),
 (46,zqh),
 (47,zqg),
 (49,zqf),
 (55,zqd),
 (56,zqc),
 (57,zqb),
 (59,zqa),
 (62,zp8),
 (68,zp7),
 (71,zp6),
 (72,zp5),
 (74,zp4),
 (76,zp3),
 (85,zp2),
 (87,zp1),
 (89,zp0),
 (91,zpZ),
 (93,zpY),
 (94,zpX),
 (96,zpW),
 (101,zmv),
 (103,zmu),
 (107,zmt),
 (115,zms),
 (124,zmr),
 (126,zmq),
 (129,zmp),
 (131,zmo),
 (148,zmn),
 (150,zmm),
 (153,zml),
 (156,zmk),
 (158,zmj),
 (160,zmi),
 (163,zmh),
 (179,zmg),
 (182,zmf),
 (184,zme),
 (185,zmd),
 (187,zmc),
 (189,zmb),
 (195,zma),
 (196,zl9),
 (197,zl8),
 (216,zl7),
 (218,zl6),
 (220,zl5),
 (222,zl4),
 (224,zl3),
 (232,zl2),
 (246,zl1),
 (250,zl0),
 (254,zlZ),
 (257,zlY),
 (263,zlX),
 (273,zlW),
 (274,zlV),
 (275,zlU),
 (277,zlT),
 (279,zlS),
 (284,zlR),
 (295,zlQ),
 (298,zlP),
 (301,zlO),
 (304,zlN),
 (306,zlM),
 (308,zlL),
 (312,zlK),
 (319,zlJ),
 (321,zlI),
 (328,zlH),
 (336,zlG),
 (353,zlF),
 (357,zlE),
 (369,zlD),
 (370,zlC),
 (384,zlB),
 (392,zlA),
 (393,zlz)]
theorem Tk:TOk Tryz.prog zu5:=zrW ⟨zqv,zqt,zqm,zqe,zp9,zpV,znX,znW,znV,znU,znT,znS,znR,znQ,znP,znO,znN,znM,znL,znK,znJ,znI,znH,znG,znF,znE,znD,znC,znB,znA,znz,zny,znx,znw,znv,znu,znt,zns,zkP,zkO,zkN,zkM,zkL,zkK,zkJ,zkI,zkH,zkG,zkF,zkE,zkD,zkC,zkB,zkA,zkz,zky,zkx,zkw,zkv,zku,zkt,zks,zkr,zkq,zkp,zko,zkn,zkm,zkl,zkk,zkj,zki,zkh,zkg,zkf,zke,zkd,zkc,zkb,zka,zj9,zj8,zj7,zj6,zj5,zj4,zj3,zj2,zj1,zj0,zjZ,zjY,zjX,zjW,zjV,zjU,zjT,trivial⟩
end Go.AI


namespace Go.AI
open Go.Proofs
set_option maxRecDepth 20000
theorem zaK:Tryz.prog.follows .mixedOrders = true:=rfl
theorem zoY (O:List Heap) (a:Int):zal Tryz.prog 142 [ii a] O (bb false) [] O:=by
 refine zaa Tk Tryz.func142 rfl Tryz.call142 Tryz.ntmps142 (Nat.le_of_ble_eq_true rfl) fun E => ?_
 refine zaF Tk Tryz.func142 ?_
 refine zar (hT:=Tk) (r:=bb _) rfl rfl rfl trivial rfl rfl ?_
 simp
theorem ztx (O:List Heap) (a:Int):zal Tryz.prog 205 [ii a] O (bb false) [] O:=by
 refine zaa Tk Tryz.func205 rfl Tryz.call205 Tryz.ntmps205 (Nat.le_of_ble_eq_true rfl) fun E => ?_
 refine zaF Tk Tryz.func205 ?_
 refine zar (hT:=Tk) (r:=bb _) rfl rfl rfl trivial rfl rfl ?_
 simp
theorem zuq (O:List Heap) (a b:Int):zal Tryz.prog 204 [ii a,ii b] O (bb (decide (a < b))) [] O:=by
 refine zaa Tk Tryz.func204 rfl Tryz.call204 Tryz.ntmps204 (Nat.le_of_ble_eq_true rfl) fun E => ?_
 refine zaF Tk Tryz.func204 ?_
 refine zci Tk Tryz.func204 (zoY _ a) rfl rfl rfl rfl rfl ?_
 refine za9 Tk Tryz.func204 rfl (fun h1 => by cases h1) (fun _ => ?_)
 refine za9 Tk Tryz.func204 rfl (fun h1 => by cases h1) (fun _ => ?_)
 refine zar (hT:=Tk) (r:=bb _) rfl rfl rfl trivial rfl rfl ?_
 rfl
end Go.AI


namespace Go.AI
open Go.Proofs
set_option maxRecDepth 20000
theorem zuW {a b:Nat} (ha:a ≤ zap) (hb:b ≤ zap):IntKind.i64.wrap (IntKind.u64.wrap (IntKind.i64.wrap ((a:Int) + b)) / 2 ^ (1:Int).toNat) = ((a + b) / 2:Nat):=by
 simp only [zap] at ha hb
 have h1:IntKind.u64.wrap (IntKind.i64.wrap ((a:Int) + b)) = (a:Int) + b:=by
  simp only [IntKind.wrap,IntKind.bits,IntKind.signed]
  simp
  omega
 rw [h1,w64]
 ·simp
 ·simp; omega
 ·simp; omega
def lows (l:List Int) (x:Int):Nat:=(l.filter (· < x)).length
theorem zs9 {l:List Int} {x:Int} {i:Nat} (hi:i ≤ l.length) (h1:∀ k (h:k < l.length),k < i → l[k] < x) (h2:∀ k (h:k < l.length),i ≤ k → x ≤ l[k]):lows l x = i:=by
 have e:l = l.take i ++ l.drop i:=(List.take_append_drop i l).symm
 unfold lows
 rw [e,List.filter_append]
 have a1:(l.take i).filter (fun y => decide (y < x)) = l.take i:=by
  rw [List.filter_eq_self]
  intro y hy
  obtain ⟨k,hk,rfl⟩:=List.getElem_of_mem hy
  simp only [List.length_take] at hk
  have:=h1 k (by omega) (by omega)
  simpa using this
 have a2:(l.drop i).filter (fun y => decide (y < x)) = []:=by
  rw [List.filter_eq_nil_iff]
  intro y hy
  obtain ⟨k,hk,rfl⟩:=List.getElem_of_mem hy
  simp only [List.length_drop] at hk
  have:=h2 (i + k) (by omega) (by omega)
  simpa using this
 rw [a1,a2]
 simp
 omega
theorem zpK (O:List Heap) (l:List Int) (x:Int) (hl:l.length ≤ zap) (hs:l.Pairwise (· < ·)):zal Tryz.prog 147 [ints l,ii x] O (.tup [ii (lows l x),bb (decide (x ∈ l))]) [] O:=by
 have hsort:∀ i j (hi:i < l.length) (hj:j < l.length),i < j → l[i] < l[j]:=fun i j hi hj h => List.pairwise_iff_getElem.1 hs i j hi hj h
 refine zaa Tk Tryz.func147 rfl Tryz.call147 Tryz.ntmps147 (Nat.le_of_ble_eq_true rfl) fun E => ?_
 refine zaF Tk Tryz.func147 ?_
 refine zak (fun p:Nat × Nat => [(0,ints l),(1,ii x),(6,ii l.length),(7,ii p.1),(8,ii p.2)]) (fun _ => []) (fun _ => O) 54
  (fun p => p.1 ≤ p.2 ∧ p.2 ≤ l.length ∧ (∀ k (h:k < l.length),k < p.1 → l[k] < x) ∧ ∀ k (h:k < l.length),p.2 ≤ k → x ≤ l[k]) (fun p => p.2 - p.1) (0,l.length)
  ⟨Nat.zero_le _,Nat.le_refl _,fun k h h' => by simp at h',fun k h h' => by simp at h'; omega⟩ ⟨rfl,rfl,rfl,rfl,rfl,trivial⟩ rfl trivial rfl rfl ?_
 rintro ⟨i,j⟩ ⟨hij,hj,hlo,hhi⟩ ih
 simp only at hij hj hlo hhi
 have hlj:j ≤ zap:=Nat.le_trans hj hl
 refine zaF Tk Tryz.func147 ?_
 refine zaI Tk Tryz.func147 rfl (fun h1 => ?_) (fun h1 => ?_)
 ·have h1:i < j:=by simpa using h1
  refine zch Tk Tryz.func147 (by simp [IntKind.bits]) ?_
  have hm:=zuW (Nat.le_trans hij hlj) hlj
  have hmj:(i + j) / 2 < j:=by omega
  refine zch Tk Tryz.func147 (by rw [hm]; omega) ?_
  refine zdu Tk Tryz.func147 (d:=[vi (l[(i + j) / 2]'(by omega))]) (by rw [hm]; exact zam (f:=fun x => [vi x]) (by omega)) ?_
  refine zci Tk Tryz.func147 (zuq _ _ _) rfl rfl rfl rfl rfl ?_
  refine zaI Tk Tryz.func147 rfl (fun h2 => ?_) (fun h2 => ?_)
  ·have h2:l[(i + j) / 2] < x:=by simpa using h2
   refine ih ((i + j) / 2 + 1,j) _ _ ⟨by show (i + j) / 2 + 1 ≤ j; omega,hj,fun k h h' => ?_,hhi⟩ (by simp only; omega) ⟨rfl,rfl,rfl,?_,rfl,trivial⟩ rfl trivial rfl rfl
   ·by_cases e:k = (i + j) / 2
    ·subst e; exact h2
    ·have h':k < (i + j) / 2 + 1:=h'
     have:=hsort k ((i + j) / 2) h (by omega) (by omega)
     omega
   ·show D.i (.v (.int .i64 _)) = _
    rw [hm]
    exact congrArg ii (zay (n:=j) (by omega) hlj)
  ·have h2:x ≤ l[(i + j) / 2]:=by simpa using h2
   refine ih (i,(i + j) / 2) _ _ ⟨by show i ≤ (i + j) / 2; omega,by show (i + j) / 2 ≤ l.length; omega,hlo,fun k h h' => ?_⟩ (by simp only; omega) ⟨rfl,rfl,rfl,rfl,?_,trivial⟩ rfl trivial rfl rfl
   ·have h':(i + j) / 2 ≤ k:=h'
    by_cases e:k = (i + j) / 2
    ·subst e; exact h2
    ·have:=hsort ((i + j) / 2) k (by omega) h (by omega)
     omega
   ·show D.i (.v (.int .i64 _)) = _
    rw [hm]
 ·have h1:j ≤ i:=by simpa using h1
  have hij:i = j:=by omega
  subst hij
  have hlow:lows l x = i:=zs9 hj hlo hhi
  rw [hlow]
  have hnot:∀ (hi:i < l.length),l[i] ≠ x → x ∉ l:=by
   intro hi hne hm
   obtain ⟨k,hk,e⟩:=List.getElem_of_mem hm
   by_cases h3:k < i
   ·have:=hlo k hk h3; omega
   ·by_cases h4:k = i
    ·subst h4; exact hne e
    ·have:=hsort i k hi hk (by omega)
     have:=hhi i hi (Nat.le_refl _)
     omega
  refine za9 Tk Tryz.func147 rfl (fun h1 => ?_) (fun h1 => ?_)
  ·have h1:i < l.length:=by simpa using h1
   refine zch Tk Tryz.func147 (by omega) ?_
   refine zdu Tk Tryz.func147 (zam h1) ?_
   refine za9 Tk Tryz.func147 rfl (fun h2 => ?_) (fun h2 => ?_)
   ·have h2:l[i] = x:=by simpa using h2
    refine zar (hT:=Tk) (r:=.tup [ii _,bb _]) rfl rfl rfl trivial rfl rfl ?_
    have:x ∈ l:=by rw [← h2]; simp
    simp [this]
   ·have h2:l[i] ≠ x:=by simpa using h2
    refine zch Tk Tryz.func147 (by omega) ?_
    refine zdu Tk Tryz.func147 (zam h1) ?_
    refine zci Tk Tryz.func147 (ztx _ _) rfl rfl rfl rfl rfl ?_
    refine za9 Tk Tryz.func147 rfl (fun h1 => by cases h1) (fun _ => ?_)
    refine zar (hT:=Tk) (r:=.tup [ii _,bb _]) rfl rfl rfl trivial rfl rfl ?_
    simp [hnot h1 h2]
  ·have h1:l.length ≤ i:=by simpa using h1
   refine zar (hT:=Tk) (r:=.tup [ii _,bb _]) rfl rfl rfl trivial rfl rfl ?_
   have:x ∉ l:=by
    intro hm
    obtain ⟨k,hk,e⟩:=List.getElem_of_mem hm
    have:=hlo k hk (by omega)
    omega
   simp [this]
theorem zgK (O:List Heap) (l:List Int) (x:Int) (hl:l.length ≤ zap) (hs:l.Pairwise (· < ·)):zal Tryz.prog 69 [ints l,ii x] O (bb (decide (x ∈ l))) [] O:=by
 refine zaa Tk Tryz.func69 rfl Tryz.call69 Tryz.ntmps69 (Nat.le_of_ble_eq_true rfl) fun E => ?_
 refine zaF Tk Tryz.func69 ?_
 refine zci Tk Tryz.func69 (zpK _ l x hl hs) rfl rfl rfl rfl rfl ?_
 refine zar (hT:=Tk) (r:=bb _) rfl rfl rfl trivial rfl rfl ?_
 rfl
end Go.AI


namespace Go.AI
open Go.Proofs
set_option maxRecDepth 20000
abbrev big:Nat:=140737488355328
abbrev zbP (l:List Int):Ob:=.arr 3 1 l.length (l.map fun x => [vi x]) true
theorem zfp (H:Heap) (nm:Nat) (ob:Ob):D.ret H [(nm,ob)] (.osl 0 nm) = .osl 0 nm:=by
 simp [D.ret,D.ret2,D.ret1,memH,zac]
theorem zhK (nm:Nat) (ob ob':Ob) (Hr:Heap) (h:ob' = ob.ret [(nm,ob)] Hr):zeD [(nm,ob)] Hr [(nm,ob')]:=⟨⟨ob,by simp [look],h⟩,trivial⟩
theorem ztM (nm:Nat) (O:List Heap) (l:List Int) (hl:l.length * 8 ≤ big):zal Tryz.prog 86 [ints l] O (.osl 0 nm) [(nm,zbP l)] O:=by
 refine zaa Tk Tryz.func86 rfl Tryz.call86 Tryz.ntmps86 (Nat.le_of_ble_eq_true rfl) fun E => ?_
 refine zaF Tk Tryz.func86 ?_
 refine zr5 Tk Tryz.func86 rfl rfl fun b hb => ?_
 refine zaI Tk Tryz.func86 rfl (fun h1 => ?_) (fun h1 => ?_)
 ·have hl0:l = []:=List.eq_nil_of_length_eq_zero (hb h1)
  subst hl0
  refine zkY (zb1 2 nm 3 1 rfl rfl rfl) ?_
  exact zar (hT:=Tk) (r:=.osl 0 nm) rfl rfl rfl (zhK _ _ _ _ rfl) (zfp _ _ _) rfl rfl
 ·refine zch Tk Tryz.func86 ⟨?_,?_⟩ ?_
  ·show (0 + l.length) * 8 ≤ 140737488355328
   simp only [big] at hl; omega
  ·simp only [big] at hl; omega
  refine zkY (zeA (l:=[(2,.osl 0 7)]) (Hv:=[(7,.arr 3 1 (0 + l.length) ([] ++ l.map fun x => [vi x]) true)]) ⟨rfl,trivial⟩ rfl ⟨rfl,trivial⟩ rfl rfl) ?_
  refine zkY (zn0 7 nm rfl rfl) ?_
  refine zar (hT:=Tk) (r:=.osl 0 nm) rfl rfl rfl (zhK _ _ _ _ ?_) (zfp _ _ _) rfl rfl
  rw [Nat.zero_add]
  rfl
theorem zpt (O:List Heap) (l r:List Int) (hl:l.length ≤ zap):zal Tryz.prog 67 [ints l,ints r] O (bb (decide (l = r))) [] O:=by
 refine zaa Tk Tryz.func67 rfl Tryz.call67 Tryz.ntmps67 (Nat.le_of_ble_eq_true rfl) fun E => ?_
 refine zaF Tk Tryz.func67 ?_
 refine zaI Tk Tryz.func67 rfl (fun h1 => ?_) (fun h1 => ?_)
 ·refine zar (hT:=Tk) (r:=bb _) rfl rfl rfl trivial rfl rfl ?_
  have h1:(l.length:Int) ≠ r.length:=by simpa using h1
  have:l ≠ r:=fun e => h1 (by rw [e])
  simp [this]
 have hlen:l.length = r.length:=by
  have:(l.length:Int) = r.length:=by simpa using h1
  omega
 refine zbu (fun i:Nat => [(0,ints l),(1,ints r),(4,bb false),(12,ii l.length),(13,ii i)]) (fun _ => [] :: O) 26 (fun i => i ≤ l.length ∧ ∀ j (h:j < l.length),j < i → l[j] = r[j]) (fun i => l.length - i) 0 ⟨Nat.zero_le _,fun j h h' => by omega⟩ ⟨rfl,rfl,rfl,rfl,rfl,trivial⟩ rfl rfl ?_
 intro i ⟨hi,hno⟩ ih
 refine zaF Tk Tryz.func67 ?_
 refine zaI Tk Tryz.func67 rfl (fun h1 => ?_) (fun h1 => ?_)
 ·have h1:i < l.length:=by simpa using h1
  have h1':i < r.length:=by omega
  refine zs8 Tk Tryz.func67 zaK rfl ?_
  refine zls Tk (by omega) ?_
  refine zsb Tk (zam h1) ?_
  refine zls Tk (by omega) ?_
  refine zsb Tk (zam h1') ?_
  refine zpx Tk Tryz.func67 (by kernel_rfl) ?_
  refine zaI Tk Tryz.func67 rfl (fun h2 => ?_) (fun h2 => ?_)
  ·refine zar (hT:=Tk) (r:=bb _) rfl rfl rfl trivial rfl rfl ?_
   have h2:l[i] ≠ r[i]:=by simpa using h2
   have:l ≠ r:=fun e => h2 (by subst e; rfl)
   simp [this]
  ·have h2:l[i] = r[i]:=by simpa using h2
   refine ih (i + 1) _ ?_ ?_ ⟨rfl,rfl,rfl,rfl,congrArg ii (zay h1 hl),trivial⟩ rfl rfl
   ·refine ⟨h1,fun j h h' => ?_⟩
    by_cases e:j = i
    ·subst e; exact h2
    ·exact hno j h (by omega)
   ·omega
 ·have h1:l.length ≤ i:=by simpa using h1
  refine zar (hT:=Tk) (r:=bb _) rfl rfl rfl trivial rfl rfl ?_
  have:l = r:=List.ext_getElem hlen fun j h h' => hno j h (by omega)
  simp [this]
def zaz (n:Int):List Int → Option Int → Int
 | [],_ => 0
 | x :: r,prev => if x < 0 ∨ x ≥ n then 2 else if prev.any (x ≤ ·) then 5 else zaz n r (some x)
theorem zgN (O:List Heap) (l:List Int) (n:Int) (hl:l.length ≤ zap):zal Tryz.prog 144 [ints l,ii n] O (ii (zaz n l none)) [] O:=by
 refine zaa Tk Tryz.func144 rfl Tryz.call144 Tryz.ntmps144 (Nat.le_of_ble_eq_true rfl) fun E => ?_
 refine zaF Tk Tryz.func144 ?_
 let prev:Nat → Option Int:=fun i => if i = 0 then none else l[i - 1]?
 refine zbu (fun i:Nat => [(0,ints l),(1,ii n),(7,ints l),(8,ii l.length),(9,ii i)]) (fun _ => [] :: O) 33 (fun i => i ≤ l.length ∧ zaz n l none = zaz n (l.drop i) (prev i)) (fun i => l.length - i) 0 ⟨Nat.zero_le _,rfl⟩ ⟨rfl,rfl,rfl,rfl,rfl,trivial⟩ rfl rfl ?_
 intro i ⟨hi,hno⟩ ih
 rw [hno]
 refine zaF Tk Tryz.func144 ?_
 refine zaI Tk Tryz.func144 rfl (fun h1 => ?_) (fun h1 => ?_)
 ·have h1:i < l.length:=by simpa using h1
  rw [hno] at ih
  have hd:l.drop i = l[i] :: l.drop (i + 1):=(List.drop_eq_getElem_cons h1)
  have hnext:prev (i + 1) = some l[i]:=by simp [prev,h1]
  refine zch Tk Tryz.func144 (by omega) ?_
  refine zdu Tk Tryz.func144 (zam h1) ?_
  refine za9 Tk Tryz.func144 rfl (fun h2 => ?_) (fun h2 => ?_)
  ·have h2:l[i] < 0:=by simpa using h2
   refine zaI Tk Tryz.func144 rfl (fun _ => ?_) (fun h => by cases h)
   refine zar (hT:=Tk) (r:=ii _) rfl rfl rfl trivial rfl rfl ?_
   rw [hd]
   simp only [zaz]
   rw [if_pos (.inl h2)]
  have h2:¬ l[i] < 0:=by simpa using h2
  refine zaI Tk Tryz.func144 rfl (fun h3 => ?_) (fun h3 => ?_)
  ·have h3:l[i] ≥ n:=by simpa using h3
   refine zar (hT:=Tk) (r:=ii _) rfl rfl rfl trivial rfl rfl ?_
   rw [hd]
   simp only [zaz]
   rw [if_pos (.inr h3)]
  have h3:¬ l[i] ≥ n:=by simpa using h3
  refine za9 Tk Tryz.func144 rfl (fun h4 => ?_) (fun h4 => ?_)
  ·have h4:0 < i:=by simpa using h4
   have hw:IntKind.i64.wrap ((i:Int) - 1) = ((i - 1:Nat):Int):=by
    simp only [zap] at hl
    rw [w64 (by omega) (by omega)]
    omega
   have hp:prev i = some (l[i - 1]'(by omega)):=by
    simp only [prev,if_neg (show ¬ i = 0 by omega)]
    exact List.getElem?_eq_getElem (by omega)
   refine zch Tk Tryz.func144 (by rw [hw]; omega) ?_
   refine zdu Tk Tryz.func144 (by rw [hw]; exact zam (f:=fun x => [vi x]) (show i - 1 < l.length by omega)) ?_
   refine zaI Tk Tryz.func144 rfl (fun h5 => ?_) (fun h5 => ?_)
   ·have h5:l[i] ≤ l[i - 1]:=by simpa using h5
    refine zar (hT:=Tk) (r:=ii _) rfl rfl rfl trivial rfl rfl ?_
    rw [hd,hp]
    simp only [zaz]
    rw [if_neg (by omega),if_pos (by simpa using h5)]
   ·have h5:¬ l[i] ≤ l[i - 1]:=by simpa using h5
    refine ih (i + 1) _ ⟨h1,?_⟩ (by omega) ⟨rfl,rfl,rfl,rfl,congrArg ii (zay h1 hl),trivial⟩ rfl rfl
    rw [hnext,hd,hp]
    simp only [zaz]
    rw [if_neg (by omega),if_neg (by simpa using h5)]
  ·have h4:i = 0:=by
    have:¬ 0 < i:=by simpa using h4
    omega
   refine zaI Tk Tryz.func144 rfl (fun h => by cases h) (fun _ => ?_)
   refine ih (i + 1) _ ⟨h1,?_⟩ (by omega) ⟨rfl,rfl,rfl,rfl,congrArg ii (zay h1 hl),trivial⟩ rfl rfl
   rw [hnext,hd]
   have hp:prev i = none:=by simp [prev,h4]
   rw [hp]
   simp only [zaz]
   rw [if_neg (by omega)]
   simp
 ·have h1:l.length ≤ i:=by simpa using h1
  refine zar (hT:=Tk) (r:=ii _) rfl rfl rfl trivial rfl rfl ?_
  rw [List.drop_eq_nil_of_le h1]
  rfl
end Go.AI


namespace Go.AI
open Go.Proofs
set_option maxRecDepth 20000
def zan {α:Type} (p:α → Bool):List α → Nat → Int
 | [],_ => -1
 | x :: r,i => if p x then (i:Int) else zan p r (i + 1)
theorem zjl (O:List Heap) (l:List Int) (f d nm:Nat) (p:Int → Bool) (hl:l.length ≤ zap) (hp:∀ x ∈ l,zal Tryz.prog f [ii x,.own (d + 1) nm 0 0] ([] :: O) (bb (p x)) [] ([] :: O)) :
  zal Tryz.prog 151 [ints l,.fn (.func f) [] [.own d nm 0 0]] O (ii (zan p l 0)) [] O:=by
 refine zaa Tk Tryz.func151 rfl Tryz.call151 Tryz.ntmps151 (Nat.le_of_ble_eq_true rfl) fun E => ?_
 refine zaF Tk Tryz.func151 ?_
 refine zbu (fun i:Nat => [(0,ints l),(1,.fn (.func f) [] [.own (d + 1) nm 0 0]),(6,ints l),(7,ii l.length),(8,ii i)]) (fun _ => [] :: O) 19 (fun i => i ≤ l.length ∧ zan p l 0 = zan p (l.drop i) i) (fun i => l.length - i) 0 ⟨Nat.zero_le _,rfl⟩ ⟨rfl,rfl,rfl,rfl,rfl,trivial⟩ rfl rfl ?_
 intro i ⟨hi,hno⟩ ih
 rw [hno]
 rw [hno] at ih
 refine zaF Tk Tryz.func151 ?_
 refine zaI Tk Tryz.func151 rfl (fun h1 => ?_) (fun h1 => ?_)
 ·have h1:i < l.length:=by simpa using h1
  have hd:l.drop i = l[i] :: l.drop (i + 1):=(List.drop_eq_getElem_cons h1)
  refine zch Tk Tryz.func151 (by omega) ?_
  refine zdu Tk Tryz.func151 (zam h1) ?_
  refine zci Tk Tryz.func151 (hp l[i] (List.getElem_mem h1)) rfl rfl rfl rfl rfl ?_
  refine zaI Tk Tryz.func151 rfl (fun h2 => ?_) (fun h2 => ?_)
  ·refine zar (hT:=Tk) (r:=ii _) rfl rfl rfl trivial rfl rfl ?_
   rw [hd]
   simp only [zan]
   rw [if_pos h2]
  ·refine ih (i + 1) _ ⟨h1,?_⟩ (by omega) ⟨rfl,rfl,rfl,rfl,congrArg ii (zay h1 hl),trivial⟩ rfl rfl
   rw [hd]
   simp only [zan]
   rw [if_neg (by rw [h2]; simp)]
 ·have h1:l.length ≤ i:=by simpa using h1
  refine zar (hT:=Tk) (r:=ii _) rfl rfl rfl trivial rfl rfl ?_
  rw [List.drop_eq_nil_of_le h1]
  rfl
theorem za5 {α:Type} (p:α → Bool):∀ (l:List α) (i:Nat),decide (zan p l i ≥ 0) = l.any p
 | [],i => by simp [zan]
 | x :: r,i => by
  by_cases h:p x = true
  ·have e:zan p (x :: r) i = (i:Int):=if_pos h
   rw [List.any_cons,h,Bool.true_or,decide_eq_true_iff,e]
   omega
  ·have e:zan p (x :: r) i = zan p r (i + 1):=if_neg h
   have h':p x = false:=by simpa using h
   rw [List.any_cons,h',Bool.false_or,← za5 p r (i + 1)]
   exact decide_eq_decide.2 (by rw [e])
theorem zgh (O:List Heap) (l:List Int) (f d nm:Nat) (p:Int → Bool) (hl:l.length ≤ zap) (hp:∀ x ∈ l,zal Tryz.prog f [ii x,.own (d + 2) nm 0 0] ([] :: [] :: O) (bb (p x)) [] ([] :: [] :: O)) :
  zal Tryz.prog 73 [ints l,.fn (.func f) [] [.own d nm 0 0]] O (bb (l.any p)) [] O:=by
 refine zaa Tk Tryz.func73 rfl Tryz.call73 Tryz.ntmps73 (Nat.le_of_ble_eq_true rfl) fun E => ?_
 refine zaF Tk Tryz.func73 ?_
 refine zci Tk Tryz.func73 (zjl _ l f (d + 1) nm p hl hp) rfl rfl rfl rfl rfl ?_
 refine zar (hT:=Tk) (r:=bb _) rfl rfl rfl trivial rfl rfl ?_
 exact congrArg bb (za5 p l 0)
theorem ztt (O:List Heap) (x k:Int) (d nm:Nat) (ho:zab O d nm = some (.box [ii k])):zal Tryz.prog 274 [ii x,.own d nm 0 0] O (bb (decide (x ≠ k))) [] O:=by
 refine zaa Tk Tryz.func274 rfl Tryz.call274 Tryz.ntmps274 (Nat.le_of_ble_eq_true rfl) fun E => ?_
 refine zaF Tk Tryz.func274 ?_
 refine zq9 Tk Tryz.func274 (ob:=.box [ii k]) ho ?_
 refine zar (hT:=Tk) (r:=bb _) rfl rfl rfl trivial rfl rfl ?_
 by_cases h:x = k <;> simp [h]
theorem zoV (O:List Heap) (k:Int) (l:List Int) (d nm:Nat) (hl:l.length ≤ zap) (ho:zab O d nm = some (.box [ints l])):zal Tryz.prog 273 [ii k,.own d nm 0 0] O (bb (l.all (· = k))) [] O:=by
 refine zaa Tk Tryz.func273 rfl Tryz.call273 Tryz.ntmps273 (Nat.le_of_ble_eq_true rfl) fun E => ?_
 refine zaF Tk Tryz.func273 ?_
 refine zq9 Tk Tryz.func273 (ob:=.box [ints l]) ho ?_
 refine zci Tk Tryz.func273 (zgh _ l 274 0 2 (fun x => decide (x ≠ k)) hl fun x _ => ztt _ x k _ _ rfl) rfl rfl rfl rfl rfl ?_
 refine zar (hT:=Tk) (r:=bb _) rfl rfl rfl trivial rfl rfl ?_
 refine congrArg bb ?_
 clear hl ho
 induction l with
 | nil => rfl
 | cons y r ih =>
  rw [List.all_cons,← ih,List.any_cons]
  by_cases h:y = k <;> simp [h]
end Go.AI


namespace Go.AI
open Go.Proofs
set_option maxRecDepth 20000
abbrev strI (b:ByteArray):I:=.v (.string b)
def chr (b:ByteArray) (i:Nat):Int:=((b.data.toList.getD i 0).toNat:Int)
def zcn (c:Int):Bool:=(decide (97 ≤ c) && decide (c ≤ 122)) || (decide (65 ≤ c) && decide (c ≤ 90)) || decide (c = 95)
def zeW (i:Nat) (c:Int):Bool:=zcn c || (decide (i ≠ 0) && decide (48 ≤ c) && decide (c ≤ 57))
def zaM (b:ByteArray):Bool:=(List.range b.size).all (fun i => zeW i (chr b i)) && decide (0 < b.size) && decide (b.size ≤ 32)
theorem zrh {c:Cx} {todo:List Item} {s6:St} {G:Prop} (h1:Rch c todo s6 → G) (h2:Rch c todo s6):G:=h1 h2
theorem zd7 (O:List Heap) (b:ByteArray) (hl:b.size ≤ zap):zal Tryz.prog 45 [.i (strI b)] O (bb (zaM b)) [] O:=by
 refine zaO [6] Tk Tryz.func45 rfl Tryz.call45 Tryz.ntmps45 (Nat.le_of_ble_eq_true rfl) fun E => ?_
 refine zaF Tk Tryz.func45 ?_
 refine zbu (fun i:Nat => [(0,.i (strI b)),(7,ii b.size),(8,ii i)]) (fun _ => [] :: O) 55 (fun i => i ≤ b.size ∧ ∀ j,j < i → zeW j (chr b j) = true) (fun i => b.size - i) 0 ⟨Nat.zero_le _,fun j h => by omega⟩ ⟨rfl,rfl,rfl,trivial⟩ rfl rfl ?_
 intro i ⟨hi,hno⟩ ih
 refine zaF Tk Tryz.func45 ?_
 refine zaI Tk Tryz.func45 rfl (fun h1 => ?_) (fun h1 => ?_)
 ·have h1:i < b.size:=by simpa using h1
  refine zch Tk Tryz.func45 (by omega) ?_
  apply zrh (s6:={ σ:=[(0,.i (strI b)),(3,ii i),(4,.i (.v (.int .u8 (chr b i)))),(5,bb (zcn (chr b i))),(7,ii b.size),(8,ii i)],S:=[] :: O,n:=55 })
  ·intro H
   have fin:∀ {s:St} {t:Bool},s.get 5 = bb t → t = zcn (chr b i) → s.get 5 = bb (zcn (chr b i)):=fun h e => h.trans (congrArg bb e)
   have lt:(97 ≤ chr b i ∧ chr b i ≤ 122) ∨ (65 ≤ chr b i ∧ chr b i ≤ 90) → true = zcn (chr b i):=by
    intro h
    generalize chr b i = c at h
    unfold zcn
    rcases h with ⟨h1,h2⟩ | ⟨h1,h2⟩ <;> simp [h1,h2]
   have lu:¬ ((97 ≤ chr b i ∧ chr b i ≤ 122) ∨ (65 ≤ chr b i ∧ chr b i ≤ 90)) → (chr b i == 95) = zcn (chr b i):=by
    intro h
    generalize chr b i = c at h ⊢
    unfold zcn
    have h1:(decide (97 ≤ c) && decide (c ≤ 122)) = false:=by
     rw [← Bool.decide_and]; exact decide_eq_false fun h' => h (.inl h')
    have h2:(decide (65 ≤ c) && decide (c ≤ 90)) = false:=by
     rw [← Bool.decide_and]; exact decide_eq_false fun h' => h (.inr h')
    rw [h1,h2]
    rfl
   refine za9 Tk Tryz.func45 rfl (fun h2 => ?_) (fun h2 => ?_)
   ·have h2:chr b i ≥ 97:=of_decide_eq_true h2
    refine za9 Tk Tryz.func45 rfl (fun h3 => ?_) (fun h3 => ?_)
    ·have h3:chr b i ≤ 122:=of_decide_eq_true h3
     refine za9 Tk Tryz.func45 rfl (fun _ => ?_) (fun h => by cases h)
     refine zcm H ⟨rfl,rfl,rfl,fin rfl ?_,rfl,rfl,trivial⟩
     exact lt (by omega)
    ·have h3:¬ chr b i ≤ 122:=of_decide_eq_false h3
     refine za9 Tk Tryz.func45 rfl (fun h4 => ?_) (fun h4 => ?_)
     ·have h4:chr b i ≥ 65:=of_decide_eq_true h4
      refine za9 Tk Tryz.func45 rfl (fun h5 => ?_) (fun h5 => ?_)
      ·have h5:chr b i ≤ 90:=of_decide_eq_true h5
       refine zcm H ⟨rfl,rfl,rfl,fin rfl ?_,rfl,rfl,trivial⟩
       exact lt (by omega)
      ·have h5:¬ chr b i ≤ 90:=of_decide_eq_false h5
       refine zcm H ⟨rfl,rfl,rfl,fin rfl ?_,rfl,rfl,trivial⟩
       exact lu (by omega)
     ·have h4:¬ chr b i ≥ 65:=of_decide_eq_false h4
      refine za9 Tk Tryz.func45 rfl (fun h => by cases h) (fun _ => ?_)
      refine zcm H ⟨rfl,rfl,rfl,fin rfl ?_,rfl,rfl,trivial⟩
      exact lu (by omega)
   ·have h2:¬ chr b i ≥ 97:=of_decide_eq_false h2
    refine za9 Tk Tryz.func45 rfl (fun h => by cases h) (fun _ => ?_)
    refine za9 Tk Tryz.func45 rfl (fun h4 => ?_) (fun h4 => ?_)
    ·have h4:chr b i ≥ 65:=of_decide_eq_true h4
     refine za9 Tk Tryz.func45 rfl (fun h5 => ?_) (fun h5 => ?_)
     ·have h5:chr b i ≤ 90:=of_decide_eq_true h5
      refine zcm H ⟨rfl,rfl,rfl,fin rfl ?_,rfl,rfl,trivial⟩
      exact lt (by omega)
     ·have h5:¬ chr b i ≤ 90:=of_decide_eq_false h5
      refine zcm H ⟨rfl,rfl,rfl,fin rfl ?_,rfl,rfl,trivial⟩
      exact lu (by omega)
    ·have h4:¬ chr b i ≥ 65:=of_decide_eq_false h4
     refine za9 Tk Tryz.func45 rfl (fun h => by cases h) (fun _ => ?_)
     refine zcm H ⟨rfl,rfl,rfl,fin rfl ?_,rfl,rfl,trivial⟩
     exact lu (by omega)
  ·refine zaF Tk Tryz.func45 ?_
   refine m_go Tk Tryz.func45 ?_
   have hbad:zeW i (chr b i) = false → zaM b = false:=by
    intro h
    unfold zaM
    have:(List.range b.size).all (fun i => zeW i (chr b i)) = false:=by
     rw [List.all_eq_false]
     exact ⟨i,List.mem_range.2 h1,by rw [h]; simp⟩
    rw [this]; rfl
   have hgood:zeW i (chr b i) = true → ∀ j,j < i + 1 → zeW j (chr b j) = true:=by
    intro h j hj
    by_cases e:j = i
    ·subst e; exact h
    ·exact hno j (by omega)
   refine za9 Tk Tryz.func45 rfl (fun h2 => ?_) (fun h2 => ?_)
   ·have h2:zcn (chr b i) = false:=by simpa using h2
    refine za9 Tk Tryz.func45 rfl (fun h3 => ?_) (fun h3 => ?_)
    ·have h3:i = 0:=by simpa using h3
     refine za9 Tk Tryz.func45 rfl (fun _ => ?_) (fun h => by cases h)
     refine zaI Tk Tryz.func45 rfl (fun _ => ?_) (fun h => by cases h)
     refine zar (hT:=Tk) (r:=bb _) rfl rfl rfl trivial rfl rfl ?_
     rw [hbad (by unfold zeW; rw [h2,h3]; rfl)]
    ·have h3:i ≠ 0:=by simpa using h3
     refine za9 Tk Tryz.func45 rfl (fun h4 => ?_) (fun h4 => ?_)
     ·have h4:chr b i < 48:=of_decide_eq_true h4
      refine zaI Tk Tryz.func45 rfl (fun _ => ?_) (fun h => by cases h)
      refine zar (hT:=Tk) (r:=bb _) rfl rfl rfl trivial rfl rfl ?_
      rw [hbad (by unfold zeW; rw [h2]; simp; omega)]
     ·have h4:¬ chr b i < 48:=of_decide_eq_false h4
      refine zaI Tk Tryz.func45 rfl (fun h5 => ?_) (fun h5 => ?_)
      ·have h5:chr b i > 57:=of_decide_eq_true h5
       refine zar (hT:=Tk) (r:=bb _) rfl rfl rfl trivial rfl rfl ?_
       rw [hbad (by unfold zeW; rw [h2]; simp; omega)]
      ·have h5:¬ chr b i > 57:=of_decide_eq_false h5
       refine ih (i + 1) _ ⟨h1,hgood ?_⟩ (by omega) ⟨rfl,rfl,congrArg ii (zay h1 hl),trivial⟩ rfl rfl
       unfold zeW
       rw [h2]
       simp [h3]
       omega
   ·have h2:zcn (chr b i) = true:=by simpa using h2
    refine zaI Tk Tryz.func45 rfl (fun h => by cases h) (fun _ => ?_)
    refine ih (i + 1) _ ⟨h1,hgood ?_⟩ (by omega) ⟨rfl,rfl,congrArg ii (zay h1 hl),trivial⟩ rfl rfl
    unfold zeW
    rw [h2]
    rfl
 ·have h1:b.size ≤ i:=by simpa using h1
  have hall:(List.range b.size).all (fun i => zeW i (chr b i)) = true:=by
   rw [List.all_eq_true]
   intro j hj
   rw [List.mem_range] at hj
   exact hno j (by omega)
  refine za9 Tk Tryz.func45 rfl (fun h2 => ?_) (fun h2 => ?_)
  ·have h2:0 < b.size:=by simpa using h2
   refine zar (hT:=Tk) (r:=bb _) rfl rfl rfl trivial rfl rfl ?_
   refine congrArg bb ?_
   unfold zaM
   rw [hall,decide_eq_true h2]
   exact decide_eq_decide.2 (by omega)
  ·have h2:¬ 0 < b.size:=by simpa using h2
   refine zar (hT:=Tk) (r:=bb _) rfl rfl rfl trivial rfl rfl ?_
   refine congrArg bb ?_
   unfold zaM
   rw [decide_eq_false h2]
   simp
end Go.AI


namespace Go.AI
open Go.Proofs
set_option maxRecDepth 20000
structure Vr where
 name:ByteArray
 low:Int
 high:Int
 init:Int
abbrev vrI (v:Vr):List I:=[strI v.name,vi v.low,vi v.high,vi v.init]
abbrev vrD (v:Vr):D:=.agg [.i (strI v.name),ii v.low,ii v.high,ii v.init]
abbrev vrsI (l:List Vr):I:=.sl 4 l.length (l.map vrI)
abbrev vrs (l:List Vr):D:=.i (vrsI l)
abbrev zo2 (l:List (List Int)):I:=.sl 1 l.length (l.map fun x => [zcO x])
theorem zjk (O:List Heap) (l:List Vr) (f d nm:Nat) (p:Vr → Bool) (hl:l.length ≤ zap) (hp:∀ x ∈ l,zal Tryz.prog f [vrD x,.own (d + 1) nm 0 0] ([] :: O) (bb (p x)) [] ([] :: O)) :
  zal Tryz.prog 240 [vrs l,.fn (.func f) [] [.own d nm 0 0]] O (ii (zan p l 0)) [] O:=by
 refine zaa Tk Tryz.func240 rfl Tryz.call240 Tryz.ntmps240 (Nat.le_of_ble_eq_true rfl) fun E => ?_
 refine zaF Tk Tryz.func240 ?_
 refine zbu (fun i:Nat => [(0,vrs l),(1,.fn (.func f) [] [.own (d + 1) nm 0 0]),(6,vrs l),(7,ii l.length),(8,ii i)]) (fun _ => [] :: O) 19 (fun i => i ≤ l.length ∧ zan p l 0 = zan p (l.drop i) i) (fun i => l.length - i) 0 ⟨Nat.zero_le _,rfl⟩ ⟨rfl,rfl,rfl,rfl,rfl,trivial⟩ rfl rfl ?_
 intro i ⟨hi,hno⟩ ih
 rw [hno]
 rw [hno] at ih
 refine zaF Tk Tryz.func240 ?_
 refine zaI Tk Tryz.func240 rfl (fun h1 => ?_) (fun h1 => ?_)
 ·have h1:i < l.length:=by simpa using h1
  have hd:l.drop i = l[i] :: l.drop (i + 1):=(List.drop_eq_getElem_cons h1)
  refine zch Tk Tryz.func240 (by omega) ?_
  refine zdu Tk Tryz.func240 (zam h1) ?_
  refine zci Tk Tryz.func240 (hp l[i] (List.getElem_mem h1)) rfl rfl rfl rfl rfl ?_
  refine zaI Tk Tryz.func240 rfl (fun h2 => ?_) (fun h2 => ?_)
  ·refine zar (hT:=Tk) (r:=ii _) rfl rfl rfl trivial rfl rfl ?_
   rw [hd]
   simp only [zan]
   rw [if_pos h2]
  ·refine ih (i + 1) _ ⟨h1,?_⟩ (by omega) ⟨rfl,rfl,rfl,rfl,congrArg ii (zay h1 hl),trivial⟩ rfl rfl
   rw [hd]
   simp only [zan]
   rw [if_neg (by rw [h2]; simp)]
 ·have h1:l.length ≤ i:=by simpa using h1
  refine zar (hT:=Tk) (r:=ii _) rfl rfl rfl trivial rfl rfl ?_
  rw [List.drop_eq_nil_of_le h1]
  rfl
theorem zgg (O:List Heap) (l:List Vr) (f d nm:Nat) (p:Vr → Bool) (hl:l.length ≤ zap) (hp:∀ x ∈ l,zal Tryz.prog f [vrD x,.own (d + 2) nm 0 0] ([] :: [] :: O) (bb (p x)) [] ([] :: [] :: O)) :
  zal Tryz.prog 200 [vrs l,.fn (.func f) [] [.own d nm 0 0]] O (bb (l.any p)) [] O:=by
 refine zaa Tk Tryz.func200 rfl Tryz.call200 Tryz.ntmps200 (Nat.le_of_ble_eq_true rfl) fun E => ?_
 refine zaF Tk Tryz.func200 ?_
 refine zci Tk Tryz.func200 (zjk _ l f (d + 1) nm p hl hp) rfl rfl rfl rfl rfl ?_
 refine zar (hT:=Tk) (r:=bb _) rfl rfl rfl trivial rfl rfl ?_
 exact congrArg bb (za5 p l 0)
theorem zmS (O:List Heap) (x v:Vr) (d nm:Nat) (ho:zab O d nm = some (.box [.i (strI v.name),ii v.low,ii v.high,ii v.init])):zal Tryz.prog 201 [vrD x,.own d nm 0 0] O (bb (x.name.toList == v.name.toList)) [] O:=by
 refine zaa Tk Tryz.func201 rfl Tryz.call201 Tryz.ntmps201 (Nat.le_of_ble_eq_true rfl) fun E => ?_
 refine zaF Tk Tryz.func201 ?_
 refine zq9 Tk Tryz.func201 (ob:=.box [.i (strI v.name),ii v.low,ii v.high,ii v.init]) ho ?_
 refine zar (hT:=Tk) (r:=bb _) rfl rfl rfl trivial rfl rfl ?_
 rfl
def checkVr (ds:List Vr) (v:Vr):Option Int:=
 if zaM v.name = false then some 7
 else if ds.any (fun x => x.name.toList == v.name.toList) then some 8
 else if large v.low || large v.high then some 2
 else if v.low > v.high then some 5
 else if v.init < v.low ∨ v.init > v.high then some 2
 else none
where large (a:Int):Bool:=decide (65536 < a) || decide (a < -65536)
def za3 (all:List Vr):List Vr → Nat → Int
 | [],_ => 0
 | v :: r,i => match checkVr (all.take i) v with
  | some e => e
  | none => za3 all r (i + 1)
theorem zjc (O:List Heap) (a b:Int):zal Tryz.prog 202 [ii a,ii b] O (bb (decide (b < a) || decide (a < IntKind.i64.wrap (0 - b)))) [] O:=by
 refine zaa Tk Tryz.func202 rfl Tryz.call202 Tryz.ntmps202 (Nat.le_of_ble_eq_true rfl) fun E => ?_
 refine zaF Tk Tryz.func202 ?_
 refine za9 Tk Tryz.func202 rfl (fun h1 => ?_) (fun h1 => ?_)
 ·have h1:b < a:=of_decide_eq_true h1
  refine zar (hT:=Tk) (r:=bb _) rfl rfl rfl trivial rfl rfl ?_
  simp [h1]
 ·have h1:¬ b < a:=of_decide_eq_false h1
  refine zar (hT:=Tk) (r:=bb _) rfl rfl rfl trivial rfl rfl ?_
  simp only [decide_eq_false h1,Bool.false_or]
end Go.AI


namespace Go.AI
open Go.Proofs
set_option maxRecDepth 20000
theorem zqD {l:List Vr} {i:Nat} (h:i ≤ l.length):vrs (l.take i) = .i (.sl 4 (i:Int).toNat ((l.map vrI).take (i:Int).toNat)):=by
 simp [vrs,vrsI,List.map_take,Nat.min_eq_left h]
theorem zjJ (O:List Heap) (l:List Vr) (hl:l.length ≤ zap) (hn:∀ v ∈ l,v.name.size ≤ zap):zal Tryz.prog 145 [vrs l] O (ii (if l.length > 16 then 3 else za3 l l 0)) [] O:=by
 refine zaa Tk Tryz.func145 rfl Tryz.call145 Tryz.ntmps145 (Nat.le_of_ble_eq_true rfl) fun E => ?_
 refine zaF Tk Tryz.func145 ?_
 refine zaI Tk Tryz.func145 rfl (fun h1 => ?_) (fun h1 => ?_)
 ·have h1:(16:Int) < l.length:=by simpa using h1
  have h1:l.length > 16:=by omega
  refine zar (hT:=Tk) (r:=ii _) rfl rfl rfl trivial rfl rfl ?_
  rw [if_pos h1]
 have h1:(l.length:Int) ≤ 16:=by simpa using h1
 have h1:¬ l.length > 16:=by omega
 rw [if_neg h1]
 refine zak (fun i:Nat => [(0,vrs l),(8,vrs l),(9,ii l.length),(10,ii i)]) (fun _ => []) (fun _ => O) 55 (fun i => i ≤ l.length ∧ za3 l l 0 = za3 l (l.drop i) i) (fun i => l.length - i) 0 ⟨Nat.zero_le _,rfl⟩ ⟨rfl,rfl,rfl,rfl,trivial⟩ rfl trivial rfl rfl ?_
 intro i ⟨hi,hno⟩ ih
 rw [hno]
 rw [hno] at ih
 refine zaF Tk Tryz.func145 ?_
 refine zaI Tk Tryz.func145 rfl (fun h2 => ?_) (fun h2 => ?_)
 ·have h2:i < l.length:=by simpa using h2
  have hd:l.drop i = l[i] :: l.drop (i + 1):=(List.drop_eq_getElem_cons h2)
  have hm:=List.getElem_mem h2
  generalize hv:l[i] = v at hd hm
  refine zch Tk Tryz.func145 (by omega) ?_
  refine zdu Tk Tryz.func145 (d:=vrI v) (by rw [← hv]; exact zam (f:=vrI) h2) ?_
  refine zci Tk Tryz.func145 (zd7 _ v.name (hn v hm)) rfl rfl rfl rfl rfl ?_
  refine zaI Tk Tryz.func145 rfl (fun h3 => ?_) (fun h3 => ?_)
  ·have h3:zaM v.name = false:=by simpa using h3
   refine zar (hT:=Tk) (r:=ii _) rfl rfl rfl trivial rfl rfl ?_
   rw [hd]
   simp only [za3,checkVr]
   rw [if_pos h3]
  have h3:¬ zaM v.name = false:=by simpa using h3
  refine zch Tk Tryz.func145 (by omega) ?_
  have hs:=zgg ([(4,.box [.i (strI v.name),ii v.low,ii v.high,ii v.init]),(4,.box [.i (strI ⟨#[]⟩),ii 0,ii 0,ii 0])] :: O) (l.take i) 201 0 4 (fun x => x.name.toList == v.name.toList) (by rw [List.length_take]; omega) fun x _ => zmS _ x v 2 4 rfl
  rw [zqD hi] at hs
  refine zci Tk Tryz.func145 hs rfl rfl rfl rfl rfl ?_
  refine zaI Tk Tryz.func145 rfl (fun h4 => ?_) (fun h4 => ?_)
  ·refine zar (hT:=Tk) (r:=ii _) rfl rfl rfl trivial rfl rfl ?_
   rw [hd]
   simp only [za3,checkVr]
   rw [if_neg h3,if_pos h4]
  have h4:¬ ((l.take i).any fun x => x.name.toList == v.name.toList) = true:=by rw [h4]; simp
  refine zci Tk Tryz.func145 (zjc _ v.low 65536) rfl rfl rfl rfl rfl ?_
  have fin2:(checkVr.large v.low || checkVr.large v.high) = true → za3 l (l.drop i) i = 2:=by
   intro h
   rw [hd]
   simp only [za3,checkVr]
   rw [if_neg h3,if_neg h4,if_pos h]
  have rest:(checkVr.large v.low || checkVr.large v.high) = false → za3 l (l.drop i) i = if v.low > v.high then 5 else if v.init < v.low ∨ v.init > v.high then 2 else za3 l (l.drop (i + 1)) (i + 1):=by
   intro h
   rw [hd]
   simp only [za3,checkVr]
   rw [if_neg h3,if_neg h4,if_neg (by rw [h]; simp)]
   by_cases a1:v.low > v.high
   ·simp only [if_pos a1]
   ·simp only [if_neg a1]
    by_cases a2:v.init < v.low ∨ v.init > v.high
    ·simp only [if_pos a2]
    ·simp only [if_neg a2]
  refine za9 Tk Tryz.func145 rfl (fun h5 => ?_) (fun h5 => ?_)
  ·have h5:checkVr.large v.low = true:=h5
   refine zaI Tk Tryz.func145 rfl (fun _ => ?_) (fun h => by cases h)
   refine zar (hT:=Tk) (r:=ii _) rfl rfl rfl trivial rfl rfl ?_
   rw [fin2 (by rw [h5]; rfl)]
  have h5:checkVr.large v.low = false:=h5
  refine zci Tk Tryz.func145 (zjc _ v.high 65536) rfl rfl rfl rfl rfl ?_
  refine zaI Tk Tryz.func145 rfl (fun h6 => ?_) (fun h6 => ?_)
  ·have h6:checkVr.large v.high = true:=h6
   refine zar (hT:=Tk) (r:=ii _) rfl rfl rfl trivial rfl rfl ?_
   rw [fin2 (by rw [h6,h5]; rfl)]
  have h6:checkVr.large v.high = false:=h6
  have rest:=rest (by rw [h5,h6]; rfl)
  refine zaI Tk Tryz.func145 rfl (fun h7 => ?_) (fun h7 => ?_)
  ·have h7:v.low > v.high:=of_decide_eq_true h7
   refine zar (hT:=Tk) (r:=ii _) rfl rfl rfl trivial rfl rfl ?_
   rw [rest,if_pos h7]
  have h7:¬ v.low > v.high:=of_decide_eq_false h7
  rw [if_neg h7] at rest
  refine za9 Tk Tryz.func145 rfl (fun h8 => ?_) (fun h8 => ?_)
  ·have h8:v.init < v.low:=of_decide_eq_true h8
   refine zaI Tk Tryz.func145 rfl (fun _ => ?_) (fun h => by cases h)
   refine zar (hT:=Tk) (r:=ii _) rfl rfl rfl trivial rfl rfl ?_
   rw [rest,if_pos (.inl h8)]
  have h8:¬ v.init < v.low:=of_decide_eq_false h8
  refine zaI Tk Tryz.func145 rfl (fun h9 => ?_) (fun h9 => ?_)
  ·have h9:v.init > v.high:=of_decide_eq_true h9
   refine zar (hT:=Tk) (r:=ii _) rfl rfl rfl trivial rfl rfl ?_
   rw [rest,if_pos (.inr h9)]
  have h9:¬ v.init > v.high:=of_decide_eq_false h9
  rw [if_neg (by omega)] at rest
  refine ih (i + 1) _ _ ⟨h2,rest⟩ (by omega) ⟨rfl,rfl,rfl,congrArg ii (zay h2 hl),trivial⟩ rfl trivial rfl rfl
 ·have h2:l.length ≤ i:=by simpa using h2
  refine zar (hT:=Tk) (r:=ii _) rfl rfl rfl trivial rfl rfl ?_
  rw [List.drop_eq_nil_of_le h2]
  rfl
end Go.AI


namespace Go.AI
open Go.Proofs
set_option maxRecDepth 20000
inductive Ex where
 | mk (op val idx:Int) (args:List Ex)
mutual
def exI:Ex → List I
 | .mk op v i args => [vi op,vi v,vi i,.sl 4 args.length (exIs args)]
def exIs:List Ex → List (List I)
 | [] => []
 | e :: r => exI e :: exIs r
end
theorem zhr:∀ l:List Ex,exIs l = l.map exI
 | [] => by simp [exIs]
 | e :: r => by simp [exIs,zhr r]
def exD:Ex → D
 | .mk op v i args => .agg [ii op,ii v,ii i,.i (.sl 4 args.length (exIs args))]
end Go.AI


namespace Go.AI
open Go.Proofs
set_option maxRecDepth 20000
abbrev exs (l:List Ex):D:=.i (.sl 4 l.length (exIs l))
theorem ze2 {l:List Ex} {i:Nat} (h:i < l.length):(exIs l)[(i:Int).toNat]? = some (exI l[i]):=by
 rw [zhr]
 exact zam (f:=exI) h
end Go.AI


namespace Go.AI
open Go.Proofs
set_option maxRecDepth 20000
mutual
def exOk:Ex → Prop
 | .mk _ _ _ a => a.length ≤ zap ∧ zjr a
def zjr:List Ex → Prop
 | [] => True
 | x :: xs => exOk x ∧ zjr xs
end
theorem ziz:∀ {l:List Ex},zjr l → ∀ x ∈ l,exOk x
 | [],_,x,h => by simp at h
 | y :: r,h,x,hx => by
  simp only [zjr] at h
  rcases List.mem_cons.1 hx with rfl | hx
  ·exact h.1
  ·exact ziz h.2 x hx
end Go.AI


namespace Go.AI
open Go.Proofs
set_option maxRecDepth 20000
def arity (x:Int):Int × Bool:=
 if x = 0 then (0,true) else
 if x = 1 then (0,true) else
 if x = 5 then (1,true) else
 if x = 10 then (1,true) else
 if x = 2 then (2,true) else
 if x = 3 then (2,true) else
 if x = 4 then (2,true) else
 if x = 6 then (2,true) else
 if x = 7 then (2,true) else
 if x = 8 then (2,true) else
 if x = 9 then (2,true) else
 if x = 11 then (2,true) else
 if x = 12 then (2,true) else
 if x = 13 then (3,true) else
 (0,false)
theorem zjR (O:List Heap) (x:Int):zal Tryz.prog 272 [ii x] O (.tup [ii (arity x).1,bb (arity x).2]) [] O:=by
 refine zaa Tk Tryz.func272 rfl Tryz.call272 Tryz.ntmps272 (Nat.le_of_ble_eq_true rfl) fun E => ?_
 refine zaF Tk Tryz.func272 ?_
 refine zaI Tk Tryz.func272 rfl (fun h => ?_) (fun h0 => ?_)
 ·have h:x = 0:=by simpa using h
  refine zaI Tk Tryz.func272 rfl (fun _ => ?_) (fun h' => by rw [h] at h'; cases h')
  refine zar (hT:=Tk) (r:=.tup [ii 0,bb true]) rfl rfl rfl trivial rfl rfl ?_
  subst h
  rfl
 have h0:x ≠ 0:=by simpa using h0
 refine zaI Tk Tryz.func272 rfl (fun h => ?_) (fun h1 => ?_)
 ·have h:x = 1:=by simpa using h
  refine zar (hT:=Tk) (r:=.tup [ii 0,bb true]) rfl rfl rfl trivial rfl rfl ?_
  subst h
  rfl
 have h1:x ≠ 1:=by simpa using h1
 refine zaI Tk Tryz.func272 rfl (fun h => ?_) (fun h5 => ?_)
 ·have h:x = 5:=by simpa using h
  refine zaI Tk Tryz.func272 rfl (fun _ => ?_) (fun h' => by rw [h] at h'; cases h')
  refine zar (hT:=Tk) (r:=.tup [ii 1,bb true]) rfl rfl rfl trivial rfl rfl ?_
  subst h
  rfl
 have h5:x ≠ 5:=by simpa using h5
 refine zaI Tk Tryz.func272 rfl (fun h => ?_) (fun h10 => ?_)
 ·have h:x = 10:=by simpa using h
  refine zar (hT:=Tk) (r:=.tup [ii 1,bb true]) rfl rfl rfl trivial rfl rfl ?_
  subst h
  rfl
 have h10:x ≠ 10:=by simpa using h10
 refine zaI Tk Tryz.func272 rfl (fun h => ?_) (fun h2 => ?_)
 ·have h:x = 2:=by simpa using h
  refine zaI Tk Tryz.func272 rfl (fun _ => ?_) (fun h' => by rw [h] at h'; cases h')
  refine zar (hT:=Tk) (r:=.tup [ii 2,bb true]) rfl rfl rfl trivial rfl rfl ?_
  subst h
  rfl
 have h2:x ≠ 2:=by simpa using h2
 refine zaI Tk Tryz.func272 rfl (fun h => ?_) (fun h3 => ?_)
 ·have h:x = 3:=by simpa using h
  refine zaI Tk Tryz.func272 rfl (fun _ => ?_) (fun h' => by rw [h] at h'; cases h')
  refine zar (hT:=Tk) (r:=.tup [ii 2,bb true]) rfl rfl rfl trivial rfl rfl ?_
  subst h
  rfl
 have h3:x ≠ 3:=by simpa using h3
 refine zaI Tk Tryz.func272 rfl (fun h => ?_) (fun h4 => ?_)
 ·have h:x = 4:=by simpa using h
  refine zaI Tk Tryz.func272 rfl (fun _ => ?_) (fun h' => by rw [h] at h'; cases h')
  refine zar (hT:=Tk) (r:=.tup [ii 2,bb true]) rfl rfl rfl trivial rfl rfl ?_
  subst h
  rfl
 have h4:x ≠ 4:=by simpa using h4
 refine zaI Tk Tryz.func272 rfl (fun h => ?_) (fun h6 => ?_)
 ·have h:x = 6:=by simpa using h
  refine zaI Tk Tryz.func272 rfl (fun _ => ?_) (fun h' => by rw [h] at h'; cases h')
  refine zar (hT:=Tk) (r:=.tup [ii 2,bb true]) rfl rfl rfl trivial rfl rfl ?_
  subst h
  rfl
 have h6:x ≠ 6:=by simpa using h6
 refine zaI Tk Tryz.func272 rfl (fun h => ?_) (fun h7 => ?_)
 ·have h:x = 7:=by simpa using h
  refine zaI Tk Tryz.func272 rfl (fun _ => ?_) (fun h' => by rw [h] at h'; cases h')
  refine zar (hT:=Tk) (r:=.tup [ii 2,bb true]) rfl rfl rfl trivial rfl rfl ?_
  subst h
  rfl
 have h7:x ≠ 7:=by simpa using h7
 refine zaI Tk Tryz.func272 rfl (fun h => ?_) (fun h8 => ?_)
 ·have h:x = 8:=by simpa using h
  refine zaI Tk Tryz.func272 rfl (fun _ => ?_) (fun h' => by rw [h] at h'; cases h')
  refine zar (hT:=Tk) (r:=.tup [ii 2,bb true]) rfl rfl rfl trivial rfl rfl ?_
  subst h
  rfl
 have h8:x ≠ 8:=by simpa using h8
 refine zaI Tk Tryz.func272 rfl (fun h => ?_) (fun h9 => ?_)
 ·have h:x = 9:=by simpa using h
  refine zaI Tk Tryz.func272 rfl (fun _ => ?_) (fun h' => by rw [h] at h'; cases h')
  refine zar (hT:=Tk) (r:=.tup [ii 2,bb true]) rfl rfl rfl trivial rfl rfl ?_
  subst h
  rfl
 have h9:x ≠ 9:=by simpa using h9
 refine zaI Tk Tryz.func272 rfl (fun h => ?_) (fun h11 => ?_)
 ·have h:x = 11:=by simpa using h
  refine zaI Tk Tryz.func272 rfl (fun _ => ?_) (fun h' => by rw [h] at h'; cases h')
  refine zar (hT:=Tk) (r:=.tup [ii 2,bb true]) rfl rfl rfl trivial rfl rfl ?_
  subst h
  rfl
 have h11:x ≠ 11:=by simpa using h11
 refine zaI Tk Tryz.func272 rfl (fun h => ?_) (fun h12 => ?_)
 ·have h:x = 12:=by simpa using h
  refine zar (hT:=Tk) (r:=.tup [ii 2,bb true]) rfl rfl rfl trivial rfl rfl ?_
  subst h
  rfl
 have h12:x ≠ 12:=by simpa using h12
 refine zaI Tk Tryz.func272 rfl (fun h => ?_) (fun h13 => ?_)
 ·have h:x = 13:=by simpa using h
  refine zar (hT:=Tk) (r:=.tup [ii 3,bb true]) rfl rfl rfl trivial rfl rfl ?_
  subst h
  rfl
 have h13:x ≠ 13:=by simpa using h13
 refine zar (hT:=Tk) (r:=.tup [ii 0,bb false]) rfl rfl rfl trivial rfl rfl ?_
 have e:arity x = (0,false):=by
  unfold arity
  rw [if_neg h0]
  rw [if_neg h1]
  rw [if_neg h5]
  rw [if_neg h10]
  rw [if_neg h2]
  rw [if_neg h3]
  rw [if_neg h4]
  rw [if_neg h6]
  rw [if_neg h7]
  rw [if_neg h8]
  rw [if_neg h9]
  rw [if_neg h11]
  rw [if_neg h12]
  rw [if_neg h13]
 rw [e]
end Go.AI


namespace Go.AI
open Go.Proofs
set_option maxRecDepth 20000
theorem zgW (O:List Heap) (b:Bool):zal Tryz.prog 275 [bb b] O (ii (if b then 1 else 0)) [] O:=by
 refine zaa Tk Tryz.func275 rfl Tryz.call275 Tryz.ntmps275 (Nat.le_of_ble_eq_true rfl) fun E => ?_
 refine zaF Tk Tryz.func275 ?_
 refine zaI Tk Tryz.func275 rfl (fun h => ?_) (fun h => ?_)
 ·refine zar (hT:=Tk) (r:=ii 1) rfl rfl rfl trivial rfl rfl ?_
  rw [if_pos h]
 ·refine zar (hT:=Tk) (r:=ii 0) rfl rfl rfl trivial rfl rfl ?_
  rw [h]; rfl
def within (l:List Vr) (xs:List Int):Bool:=match l,xs with
 | [],[] => true
 | v :: r,x :: ys => decide (v.low ≤ x) && decide (x ≤ v.high) && within r ys
 | _,_ => false
theorem zgl:∀ (l:List Vr) (xs:List Int),l.length ≠ xs.length → within l xs = false
 | [],[],h => absurd rfl h
 | [],_ :: _,_ => rfl
 | _ :: _,[],_ => rfl
 | v :: r,x :: ys,h => by
  simp only [within]
  rw [zgl r ys (by simpa using h),Bool.and_false]
theorem zqC (O:List Heap) (l:List Vr) (xs:List Int) (hl:l.length ≤ zap):zal Tryz.prog 88 [vrs l,ints xs] O (bb (within l xs)) [] O:=by
 refine zaa Tk Tryz.func88 rfl Tryz.call88 Tryz.ntmps88 (Nat.le_of_ble_eq_true rfl) fun E => ?_
 refine zaF Tk Tryz.func88 ?_
 refine zaI Tk Tryz.func88 rfl (fun h1 => ?_) (fun h1 => ?_)
 ·refine zar (hT:=Tk) (r:=bb _) rfl rfl rfl trivial rfl rfl ?_
  have h1:(l.length:Int) ≠ xs.length:=by simpa using h1
  rw [zgl l xs (fun e => h1 (by rw [e]))]
 have hlen:l.length = xs.length:=by
  have:(l.length:Int) = xs.length:=by simpa using h1
  omega
 refine zak (fun i:Nat => [(0,vrs l),(1,ints xs),(12,vrs l),(13,ii l.length),(14,ii i)]) (fun _ => []) (fun _ => O) 36 (fun i => i ≤ l.length ∧ within l xs = within (l.drop i) (xs.drop i)) (fun i => l.length - i) 0 ⟨Nat.zero_le _,rfl⟩ ⟨rfl,rfl,rfl,rfl,rfl,trivial⟩ rfl trivial rfl rfl ?_
 intro i ⟨hi,hno⟩ ih
 rw [hno]
 rw [hno] at ih
 refine zaF Tk Tryz.func88 ?_
 refine zaI Tk Tryz.func88 rfl (fun h1 => ?_) (fun h1 => ?_)
 ·have h1:i < l.length:=by simpa using h1
  have h1':i < xs.length:=by omega
  have hd:l.drop i = l[i] :: l.drop (i + 1):=(List.drop_eq_getElem_cons h1)
  have hd':xs.drop i = xs[i] :: xs.drop (i + 1):=(List.drop_eq_getElem_cons h1')
  have g1:(l.map vrI)[(i:Int).toNat]? = some (vrI l[i]):=zam h1
  have g2:(xs.map fun x => [vi x])[(i:Int).toNat]? = some [vi xs[i]]:=zam (f:=fun x => [vi x]) h1'
  generalize l[i] = v at hd g1
  generalize xs[i] = x at hd' g2
  refine zch Tk Tryz.func88 (by omega) ?_
  refine zdu Tk Tryz.func88 (d:=vrI v) g1 ?_
  refine zk9 Tk zaK rfl ?_
  refine zaE Tk (by omega) ?_
  refine zaN Tk g2 ?_
  refine zb5 Tk (fun h2 => ?_) (fun h2 => ?_)
  ·have h2:x < v.low:=of_decide_eq_true h2
   refine zow Tk Tryz.func88 (by kernel_rfl) ?_
   refine zaI Tk Tryz.func88 rfl (fun _ => ?_) (fun h => by cases h)
   refine zar (hT:=Tk) (r:=bb _) rfl rfl rfl trivial rfl rfl ?_
   rw [hd,hd']
   simp only [within]
   rw [decide_eq_false (by omega:¬ v.low ≤ x)]
   rfl
  ·have h2:¬ x < v.low:=of_decide_eq_false h2
   refine zaE Tk (by omega) ?_
   refine zaN Tk g2 ?_
   refine zow Tk Tryz.func88 (by kernel_rfl) ?_
   refine zaI Tk Tryz.func88 rfl (fun h3 => ?_) (fun h3 => ?_)
   ·have h3:x > v.high:=of_decide_eq_true h3
    refine zar (hT:=Tk) (r:=bb _) rfl rfl rfl trivial rfl rfl ?_
    rw [hd,hd']
    simp only [within]
    rw [decide_eq_false (by omega:¬ x ≤ v.high),Bool.and_false]
    rfl
   ·have h3:¬ x > v.high:=of_decide_eq_false h3
    refine ih (i + 1) _ _ ⟨h1,?_⟩ (by omega) ⟨rfl,rfl,rfl,rfl,congrArg ii (zay h1 hl),trivial⟩ rfl trivial rfl rfl
    rw [hd,hd']
    simp only [within]
    rw [decide_eq_true (by omega:v.low ≤ x),decide_eq_true (by omega:x ≤ v.high)]
    rfl
 ·have h1:l.length ≤ i:=by simpa using h1
  refine zar (hT:=Tk) (r:=bb _) rfl rfl rfl trivial rfl rfl ?_
  rw [List.drop_eq_nil_of_le h1,List.drop_eq_nil_of_le (by omega)]
  rfl
end Go.AI


namespace Go.AI
theorem zcZ:∀ {S:List Heap} {d nm:Nat} {ob:Ob} (d' n':Nat),zab (setAt S d nm ob) d' n' = if d = d' ∧ nm = n' ∧ d < S.length then some ob else zab S d' n'
 | [],d,nm,ob,d',n' => by simp [setAt]
 | H :: S,0,nm,ob,d',n' => by
  cases d' with
  | zero =>
   simp only [setAt,zab,List.getElem?_cons_zero,zac]
   by_cases h:nm = n' <;> simp [h]
  | succ d' => simp [setAt,zab]
 | H :: S,d + 1,nm,ob,d',n' => by
  cases d' with
  | zero => simp [setAt,zab]
  | succ d' =>
   have:=zcZ (S:=S) (d:=d) (nm:=nm) (ob:=ob) d' n'
   simp only [zab] at this
   simp only [setAt,zab,List.getElem?_cons_succ,this]
   simp
theorem zg9 {S:List Heap} {d nm:Nat} {ob:Ob} (h:zab S d nm = some ob):d < S.length:=by
 unfold zab at h
 cases e:S[d]? with
 | none => simp [e] at h
 | some H => exact (List.getElem?_eq_some_iff.1 e).1
theorem length_set:∀ {S:List Heap} {d nm:Nat} {ob:Ob},(setAt S d nm ob).length = S.length
 | [],d,nm,ob => by simp [setAt]
 | H :: S,0,nm,ob => rfl
 | H :: S,d + 1,nm,ob => by simp [setAt,length_set]
theorem zae {S:List Heap} {d nm:Nat} {ob ob':Ob} (h:zab S d nm = some ob):zab (setAt S d nm ob') d nm = some ob':=by
 rw [zcZ,if_pos ⟨rfl,rfl,zg9 h⟩]
theorem zbv {S:List Heap} {d nm:Nat} {a b:Ob} (d' n':Nat):zab (setAt S d nm b) d' n' = zab (setAt (setAt S d nm a) d nm b) d' n':=by
 simp only [zcZ,length_set]
 by_cases h:d = d' ∧ nm = n' ∧ d < S.length
 ·rw [if_pos h,if_pos h]
 ·rw [if_neg h,if_neg h,if_neg h]
theorem za8 {S:List Heap} {d nm:Nat} {a:Ob} (h:zab S d nm = some a) (d' n':Nat):zab (setAt S d nm a) d' n' = zab S d' n':=by
 rw [zcZ]
 by_cases e:d = d' ∧ nm = n' ∧ d < S.length
 ·obtain ⟨rfl,rfl,_⟩:=e
  rw [if_pos ⟨rfl,rfl,zg9 h⟩,h]
 ·rw [if_neg e]
theorem zb4 {S:List Heap} {d nm:Nat} {ob ob':Ob} (h:zab S d nm = some ob) (hs:ob'.sh = ob.sh):shape (setAt S d nm ob') = shape S:=by
 funext d' n'
 simp only [shape,zcZ]
 by_cases e:d = d' ∧ nm = n' ∧ d < S.length
 ·obtain ⟨rfl,rfl,_⟩:=e
  rw [if_pos ⟨rfl,rfl,zg9 h⟩,h]
  simp [hs]
 ·rw [if_neg e]
theorem zdC {c:Cx} {todo:List Item} {s:St} {l:List (Nat × D)} {S':List Heap} {n':Nat} (h:Rch c todo { σ:=l,S:=S',n:=n' }) (hs:Sub s l) (hS:s.S = S') (hn:s.n = n'):Rch c todo s:=by
 subst hS
 subst hn
 exact zcm h hs
theorem zbN {c:Cx} {todo:List Item} {s:St} {l:List (Nat × D)} {H Hv:Heap} {O:List Heap} {n:Nat} (h:Rch c todo { σ:=l,S:=Hv :: O,n:=n }) (hs:Sub s l) (hS:s.S = H :: O) (hH:SubH H Hv) (hok:zh2 l Hv = true) (hn:s.n = n):Rch c todo s:=zd1 hs hS hH hok hn h
theorem zeH {c:Cx} {todo:List Item} {s6:St} {G P:Prop} (h1:(P → Rch c todo s6) → G) (h2:P → Rch c todo s6):G:=h1 h2
theorem zr6 {c:Cx} {todo:List Item} {G:Prop} {α:Type} {P:α → Prop} {s6:α → St} (h1:(∀ a,P a → Rch c todo (s6 a)) → G) (h2:∀ a,P a → Rch c todo (s6 a)):G:=h1 h2
theorem zgX {α β:Type} {f:α → β} {l:List α} {i:Nat} (h:i < l.length):(l.take (i + 1)).map f = (l.take i).map f ++ [f l[i]]:=by
 rw [List.take_add_one,List.getElem?_eq_getElem h,List.map_append]
 rfl
theorem beqT {a b:Int} (h:(a == b) = true):a = b:=by simpa using h
theorem beqF {a b:Int} (h:(a == b) = false):a ≠ b:=by simpa using h
theorem bneT {a b:Int} (h:(a != b) = true):a ≠ b:=by simpa using h
theorem bneF {a b:Int} (h:(a != b) = false):a = b:=by simpa using h
theorem notT {b:Bool} (h:(!b) = true):b = false:=by simpa using h
theorem notF {b:Bool} (h:(!b) = false):b = true:=by simpa using h
theorem zas {H:Heap} {S:List Heap} {d nm:Nat} {o:Ob} (h:zab S d nm = some o):zab (H :: S) (d + 1) nm = some o:=h
theorem zaV {H:Heap} {S S':List Heap} (h:∀ d n,zab S' d n = zab S d n) (d n:Nat):zab (H :: S') d n = zab (H :: S) d n:=by
 cases d with
 | zero => rfl
 | succ d => have:=h d n; simpa [zab] using this
theorem zmR {H:Heap} {S S':List Heap} (h:shape S' = shape S):shape (H :: S') = shape (H :: S):=by
 funext d n
 cases d with
 | zero => simp [shape,zab]
 | succ d =>
  have:=congrFun (congrFun h d) n
  simpa [shape,zab] using this
end Go.AI
