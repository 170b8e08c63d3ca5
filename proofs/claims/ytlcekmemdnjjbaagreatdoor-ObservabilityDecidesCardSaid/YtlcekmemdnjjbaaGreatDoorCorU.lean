/- The layer of abstract runs, part 21. -/
import Derived.Test.YtlcekmemdnjjbaaGreatDoorCorT
import Derived.Test.YtlcekmemdnjjbaaGreatDoorProg
import Derived.KernelRfl
set_option linter.unusedSimpArgs false
set_option linter.unusedVariables false
set_option linter.all false
set_option maxRecDepth 20000
set_option maxHeartbeats 4000000
namespace Go.AI
open Go.Proofs
def ztT:TI:={ size:=1,bytes:=8,k:=.sc,zero:=[.nilFunc] }
def ztS:TI:={ size:=1,bytes:=8,k:=.int .i64,zero:=[.int .i64 0] }
def zfF:TI:={ size:=1,bytes:=8,k:=.int .i64,zero:=[.int .i64 0] }
def ztR:TI:={ size:=1,bytes:=1,k:=.bool,zero:=[.bool false] }
def ztQ:TI:={ size:=1,bytes:=1,k:=.int .u8,zero:=[.int .u8 0] }
def ztP:TI:={ size:=1,bytes:=16,k:=.str,zero:=[.string ⟨#[]⟩] }
def zrv:TI:={ size:=1,bytes:=8,k:=.int .u64,zero:=[.int .u64 0] }
def zrt:TI:={ size:=1,bytes:=4,k:=.int .i32,zero:=[.int .i32 0] }
def zrs:TI:={ size:=1,bytes:=1,k:=.int .u8,zero:=[.int .u8 0] }
def zrr:TI:={ size:=5,bytes:=5,k:=.arr 5 5,zero:=[.int .u8 0,.int .u8 0,.int .u8 0,.int .u8 0,.int .u8 0] }
def zrq:TI:={ size:=25,bytes:=25,k:=.arr 5 23,zero:=[.int .u8 0,.int .u8 0,.int .u8 0,.int .u8 0,.int .u8 0,.int .u8 0,.int .u8 0,.int .u8 0,.int .u8 0,.int .u8 0,.int .u8 0,.int .u8 0,.int .u8 0,.int .u8 0,.int .u8 0,.int .u8 0,.int .u8 0,.int .u8 0,.int .u8 0,.int .u8 0,.int .u8 0,.int .u8 0,.int .u8 0,.int .u8 0,.int .u8 0] }
def zrp:TI:={ size:=27,bytes:=27,k:=.struct [(0,1,false),(1,1,false),(2,25,true)],zero:=[.int .u8 0,.int .u8 0,.int .u8 0,.int .u8 0,.int .u8 0,.int .u8 0,.int .u8 0,.int .u8 0,.int .u8 0,.int .u8 0,.int .u8 0,.int .u8 0,.int .u8 0,.int .u8 0,.int .u8 0,.int .u8 0,.int .u8 0,.int .u8 0,.int .u8 0,.int .u8 0,.int .u8 0,.int .u8 0,.int .u8 0,.int .u8 0,.int .u8 0,.int .u8 0,.int .u8 0] }
def zro:TI:={ size:=57,bytes:=57,k:=.struct [(0,1,false),(1,27,true),(28,27,true),(55,1,false),(56,1,false)],zero:=[.int .u8 0,.int .u8 0,.int .u8 0,.int .u8 0,.int .u8 0,.int .u8 0,.int .u8 0,.int .u8 0,.int .u8 0,.int .u8 0,.int .u8 0,.int .u8 0,.int .u8 0,.int .u8 0,.int .u8 0,.int .u8 0,.int .u8 0,.int .u8 0,.int .u8 0,.int .u8 0,.int .u8 0,.int .u8 0,.int .u8 0,.int .u8 0,.int .u8 0,.int .u8 0,.int .u8 0,.int .u8 0,.int .u8 0,.int .u8 0,.int .u8 0,.int .u8 0,.int .u8 0,.int .u8 0,.int .u8 0,.int .u8 0,.int .u8 0,.int .u8 0,.int .u8 0,.int .u8 0,.int .u8 0,.int .u8 0,.int .u8 0,.int .u8 0,.int .u8 0,.int .u8 0,.int .u8 0,.int .u8 0,.int .u8 0,.int .u8 0,.int .u8 0,.int .u8 0,.int .u8 0,.int .u8 0,.int .u8 0,.int .u8 0,.int .u8 0] }
def zcC:TI:={ size:=1,bytes:=24,k:=.slice 3,zero:=[.slice none 0 0] }
def zrm:TI:={ size:=3,bytes:=56,k:=.struct [(0,1,false),(1,1,false),(2,1,false)],zero:=[.slice none 0 0,.slice none 0 0,.int .i64 0] }
def zrl:TI:={ size:=1,bytes:=8,k:=.int .i64,zero:=[.int .i64 0] }
def zrk:TI:={ size:=1,bytes:=24,k:=.slice 117,zero:=[.slice none 0 0] }
def ziP:TI:={ size:=4,bytes:=80,k:=.struct [(0,1,false),(1,1,false),(2,1,false),(3,1,false)],zero:=[.slice none 0 0,.int .i64 0,.slice none 0 0,.slice none 0 0] }
def zri:TI:={ size:=10,bytes:=208,k:=.struct [(0,4,true),(4,4,true),(8,1,false),(9,1,false)],zero:=[.slice none 0 0,.int .i64 0,.slice none 0 0,.slice none 0 0,.slice none 0 0,.int .i64 0,.slice none 0 0,.slice none 0 0,.slice none 0 0,.slice none 0 0] }
def zrh:TI:={ size:=1,bytes:=24,k:=.slice 5,zero:=[.slice none 0 0] }
def zrg:TI:={ size:=1,bytes:=24,k:=.slice 48,zero:=[.slice none 0 0] }
def zla:TI:={ size:=2,bytes:=16,k:=.arr 2 3,zero:=[.int .i64 0,.int .i64 0],cmp:=[.int .i64,.int .i64] }
def zre:TI:={ size:=1,bytes:=24,k:=.slice 31,zero:=[.slice none 0 0] }
def zrd:TI:={ size:=5,bytes:=104,k:=.struct [(0,4,true),(4,1,false)],zero:=[.slice none 0 0,.int .i64 0,.slice none 0 0,.slice none 0 0,.slice none 0 0] }
def zrb:TI:={ size:=1,bytes:=24,k:=.slice 39,zero:=[.slice none 0 0] }
def zra:TI:={ size:=1,bytes:=24,k:=.slice 102,zero:=[.slice none 0 0] }
def znv:TI:={ size:=1,bytes:=24,k:=.slice 178,zero:=[.slice none 0 0] }
def znu:TI:={ size:=2,bytes:=48,k:=.struct [(0,1,false),(1,1,false)],zero:=[.slice none 0 0,.slice none 0 0] }
def znt:TI:={ size:=1,bytes:=8,k:=.sc,zero:=[.nilFunc] }
def zns:TI:={ size:=1,bytes:=8,k:=.ptr 119,zero:=[.pointer none] }
def ziR:TI:={ size:=3,bytes:=24,k:=.struct [(0,1,false),(1,1,false),(2,1,false)],zero:=[.int .i64 0,.int .i64 0,.int .i64 0],cmp:=[.int .i64,.int .i64,.int .i64] }
def znr:TI:={ size:=20,bytes:=416,k:=.struct [(0,10,true),(10,4,true),(14,1,false),(15,4,true),(19,1,false)],zero:=[.slice none 0 0,.int .i64 0,.slice none 0 0,.slice none 0 0,.slice none 0 0,.int .i64 0,.slice none 0 0,.slice none 0 0,.slice none 0 0,.slice none 0 0,.slice none 0 0,.int .i64 0,.slice none 0 0,.slice none 0 0,.slice none 0 0,.slice none 0 0,.int .i64 0,.slice none 0 0,.slice none 0 0,.slice none 0 0] }
def znq:TI:={ size:=2,bytes:=48,k:=.arr 2 31,zero:=[.slice none 0 0,.slice none 0 0] }
def znp:TI:={ size:=8,bytes:=160,k:=.arr 2 39,zero:=[.slice none 0 0,.int .i64 0,.slice none 0 0,.slice none 0 0,.slice none 0 0,.int .i64 0,.slice none 0 0,.slice none 0 0] }
def zno:TI:={ size:=1,bytes:=24,k:=.slice 214,zero:=[.slice none 0 0] }
def znn:TI:={ size:=3,bytes:=72,k:=.struct [(0,1,false),(1,1,false),(2,1,false)],zero:=[.slice none 0 0,.slice none 0 0,.slice none 0 0] }
def znm:TI:={ size:=1,bytes:=8,k:=.map 9 3,zero:=[.map none] }
def znl:TI:={ size:=2,bytes:=32,k:=.struct [(0,1,false),(1,1,false)],zero:=[.int .i64 0,.slice none 0 0] }
def znk:TI:={ size:=1,bytes:=8,k:=.sc,zero:=[.nilFunc] }
def znj:TI:={ size:=1,bytes:=8,k:=.sc,zero:=[.nilFunc] }
def ziQ:TI:={ size:=1,bytes:=8,k:=.map 48 3,zero:=[.map none] }
def zni:TI:={ size:=1,bytes:=8,k:=.ptr 217,zero:=[.pointer none] }
def znh:TI:={ size:=2,bytes:=32,k:=.struct [(0,1,false),(1,1,false)],zero:=[.pointer none,.slice none 0 0] }
def zng:TI:={ size:=1,bytes:=16,k:=.sc,zero:=[.nilIface] }
def znf:TI:={ size:=1,bytes:=8,k:=.sc,zero:=[.nilFunc] }
def zne:TI:={ size:=1,bytes:=8,k:=.int .u64,zero:=[.int .u64 0] }
def znd:TI:={ size:=1,bytes:=24,k:=.slice 37,zero:=[.slice none 0 0] }
def znc:TI:={ size:=4,bytes:=96,k:=.struct [(0,1,false),(1,1,false),(2,1,false),(3,1,false)],zero:=[.slice none 0 0,.slice none 0 0,.slice none 0 0,.slice none 0 0] }
def znb:TI:={ size:=4,bytes:=32,k:=.struct [(0,1,false),(1,1,false),(2,1,false),(3,1,false)],zero:=[.int .i64 0,.int .i64 0,.int .i64 0,.int .i64 0] }
def zna:TI:={ size:=1,bytes:=24,k:=.slice 244,zero:=[.slice none 0 0] }
def zm9:TI:={ size:=1,bytes:=8,k:=.map 3 4,zero:=[.map none] }
def zm8:TI:={ size:=2,bytes:=16,k:=.struct [(0,1,false),(1,1,false)],zero:=[.int .i64 0,.int .i64 0],cmp:=[.int .i64,.int .i64] }
def zm7:TI:={ size:=1,bytes:=8,k:=.map 249 4,zero:=[.map none] }
def zm6:TI:={ size:=1,bytes:=8,k:=.sc,zero:=[.nilFunc] }
def zm5:TI:={ size:=1,bytes:=8,k:=.sc,zero:=[.nilFunc] }
def zm4:TI:={ size:=1,bytes:=8,k:=.ptr 3,zero:=[.pointer none] }
def zm3:TI:={ size:=1,bytes:=8,k:=.int .i64,zero:=[.int .i64 0] }
def zm2:TI:={ size:=1,bytes:=4,k:=.int .u32,zero:=[.int .u32 0] }
def zm1:TI:={ size:=1,bytes:=8,k:=.int .u64,zero:=[.int .u64 0] }
def zm0:TI:={ size:=1,bytes:=8,k:=.sc,zero:=[.nilFunc] }
def zmZ:TI:={ size:=1,bytes:=8,k:=.int .u64,zero:=[.int .u64 0] }
def zmY:TI:={ size:=1,bytes:=24,k:=.slice 4,zero:=[.slice none 0 0] }
def zmX:TI:={ size:=24,bytes:=24,k:=.arr 24 5,zero:=[.int .u8 0,.int .u8 0,.int .u8 0,.int .u8 0,.int .u8 0,.int .u8 0,.int .u8 0,.int .u8 0,.int .u8 0,.int .u8 0,.int .u8 0,.int .u8 0,.int .u8 0,.int .u8 0,.int .u8 0,.int .u8 0,.int .u8 0,.int .u8 0,.int .u8 0,.int .u8 0,.int .u8 0,.int .u8 0,.int .u8 0,.int .u8 0] }
def zmW:TI:={ size:=1,bytes:=8,k:=.ptr 295,zero:=[.pointer none] }
def zmV:TI:={ size:=20,bytes:=160,k:=.arr 20 277,zero:=[.int .u64 0,.int .u64 0,.int .u64 0,.int .u64 0,.int .u64 0,.int .u64 0,.int .u64 0,.int .u64 0,.int .u64 0,.int .u64 0,.int .u64 0,.int .u64 0,.int .u64 0,.int .u64 0,.int .u64 0,.int .u64 0,.int .u64 0,.int .u64 0,.int .u64 0,.int .u64 0] }
def zmU:TI:={ size:=65,bytes:=65,k:=.arr 65 5,zero:=[.int .u8 0,.int .u8 0,.int .u8 0,.int .u8 0,.int .u8 0,.int .u8 0,.int .u8 0,.int .u8 0,.int .u8 0,.int .u8 0,.int .u8 0,.int .u8 0,.int .u8 0,.int .u8 0,.int .u8 0,.int .u8 0,.int .u8 0,.int .u8 0,.int .u8 0,.int .u8 0,.int .u8 0,.int .u8 0,.int .u8 0,.int .u8 0,.int .u8 0,.int .u8 0,.int .u8 0,.int .u8 0,.int .u8 0,.int .u8 0,.int .u8 0,.int .u8 0,.int .u8 0,.int .u8 0,.int .u8 0,.int .u8 0,.int .u8 0,.int .u8 0,.int .u8 0,.int .u8 0,.int .u8 0,.int .u8 0,.int .u8 0,.int .u8 0,.int .u8 0,.int .u8 0,.int .u8 0,.int .u8 0,.int .u8 0,.int .u8 0,.int .u8 0,.int .u8 0,.int .u8 0,.int .u8 0,.int .u8 0,.int .u8 0,.int .u8 0,.int .u8 0,.int .u8 0,.int .u8 0,.int .u8 0,.int .u8 0,.int .u8 0,.int .u8 0,.int .u8 0] }
def zmT:TI:={ size:=32,bytes:=32,k:=.arr 32 5,zero:=[.int .u8 0,.int .u8 0,.int .u8 0,.int .u8 0,.int .u8 0,.int .u8 0,.int .u8 0,.int .u8 0,.int .u8 0,.int .u8 0,.int .u8 0,.int .u8 0,.int .u8 0,.int .u8 0,.int .u8 0,.int .u8 0,.int .u8 0,.int .u8 0,.int .u8 0,.int .u8 0,.int .u8 0,.int .u8 0,.int .u8 0,.int .u8 0,.int .u8 0,.int .u8 0,.int .u8 0,.int .u8 0,.int .u8 0,.int .u8 0,.int .u8 0,.int .u8 0] }
def zmS:TI:={ size:=64,bytes:=64,k:=.arr 64 5,zero:=[.int .u8 0,.int .u8 0,.int .u8 0,.int .u8 0,.int .u8 0,.int .u8 0,.int .u8 0,.int .u8 0,.int .u8 0,.int .u8 0,.int .u8 0,.int .u8 0,.int .u8 0,.int .u8 0,.int .u8 0,.int .u8 0,.int .u8 0,.int .u8 0,.int .u8 0,.int .u8 0,.int .u8 0,.int .u8 0,.int .u8 0,.int .u8 0,.int .u8 0,.int .u8 0,.int .u8 0,.int .u8 0,.int .u8 0,.int .u8 0,.int .u8 0,.int .u8 0,.int .u8 0,.int .u8 0,.int .u8 0,.int .u8 0,.int .u8 0,.int .u8 0,.int .u8 0,.int .u8 0,.int .u8 0,.int .u8 0,.int .u8 0,.int .u8 0,.int .u8 0,.int .u8 0,.int .u8 0,.int .u8 0,.int .u8 0,.int .u8 0,.int .u8 0,.int .u8 0,.int .u8 0,.int .u8 0,.int .u8 0,.int .u8 0,.int .u8 0,.int .u8 0,.int .u8 0,.int .u8 0,.int .u8 0,.int .u8 0,.int .u8 0,.int .u8 0] }
theorem zru:TIok Tryz.prog 1 ztT:=tiok Tryz.type1 rfl rfl rfl rfl (by intro h;first | rfl | cases h) ⟨_,Tryz.underlying1,(by intro x h;cases h),(by intro x y h;cases h)⟩ (by decide) rfl (by decide) (.inl rfl)
theorem zrn:TIok Tryz.prog 2 ztS:=tiok Tryz.type2 rfl rfl rfl rfl (by intro h;first | rfl | cases h) Tryz.underlying2 (by decide) rfl (by decide) (.inl rfl)
theorem zrj:TIok Tryz.prog 3 zfF:=tiok Tryz.type3 rfl rfl rfl rfl (by intro h;first | rfl | cases h) Tryz.underlying3 (by decide) rfl (by decide) (.inl rfl)
theorem zrf:TIok Tryz.prog 4 ztR:=tiok Tryz.type4 rfl rfl rfl rfl (by intro h;first | rfl | cases h) Tryz.underlying4 (by decide) rfl (by decide) (.inl rfl)
theorem zrc:TIok Tryz.prog 5 ztQ:=tiok Tryz.type5 rfl rfl rfl rfl (by intro h;first | rfl | cases h) Tryz.underlying5 (by decide) rfl (by decide) (.inl rfl)
theorem zq9:TIok Tryz.prog 9 ztP:=tiok Tryz.type9 rfl rfl rfl rfl (by intro h;first | rfl | cases h) Tryz.underlying9 (by decide) rfl (by decide) (.inl rfl)
theorem zoI:TIok Tryz.prog 12 zrv:=tiok Tryz.type12 rfl rfl rfl rfl (by intro h;first | rfl | cases h) Tryz.underlying12 (by decide) rfl (by decide) (.inl rfl)
theorem zoH:TIok Tryz.prog 21 zrt:=tiok Tryz.type21 rfl rfl rfl rfl (by intro h;first | rfl | cases h) Tryz.underlying21 (by decide) rfl (by decide) (.inl rfl)
theorem zoG:TIok Tryz.prog 22 zrs:=tiok Tryz.type22 rfl rfl rfl rfl (by intro h;first | rfl | cases h) Tryz.underlying22 (by decide) rfl (by decide) (.inl rfl)
theorem zoF:TIok Tryz.prog 23 zrr:=tiok Tryz.type23 rfl rfl rfl rfl (by intro h;first | rfl | cases h) Tryz.underlying23 (by decide) rfl (by decide) (.inl rfl)
theorem zoE:TIok Tryz.prog 24 zrq:=tiok Tryz.type24 rfl rfl rfl rfl (by intro h;first | rfl | cases h) Tryz.underlying24 (by decide) rfl (by decide) (.inl rfl)
theorem zoD:TIok Tryz.prog 26 zrp:=tiok Tryz.type26 rfl rfl rfl rfl (by intro h;first | rfl | cases h) (zaT Tryz.underlying26 (.cons ⟨rfl,⟨_,Tryz.type5,rfl⟩,by decide,Tryz.isAgg5⟩ (.cons ⟨rfl,⟨_,Tryz.type5,rfl⟩,by decide,Tryz.isAgg5⟩ (.cons ⟨rfl,⟨_,Tryz.type24,rfl⟩,by decide,Tryz.isAgg24⟩ .nil)))) (by decide) rfl (by decide) (.inl rfl)
theorem zoC:TIok Tryz.prog 28 zro:=tiok Tryz.type28 rfl rfl rfl rfl (by intro h;first | rfl | cases h) (zaT Tryz.underlying28 (.cons ⟨rfl,⟨_,Tryz.type22,rfl⟩,by decide,Tryz.isAgg22⟩ (.cons ⟨rfl,⟨_,Tryz.type26,rfl⟩,by decide,Tryz.isAgg26⟩ (.cons ⟨rfl,⟨_,Tryz.type26,rfl⟩,by decide,Tryz.isAgg26⟩ (.cons ⟨rfl,⟨_,Tryz.type22,rfl⟩,by decide,Tryz.isAgg22⟩ (.cons ⟨rfl,⟨_,Tryz.type22,rfl⟩,by decide,Tryz.isAgg22⟩ .nil)))))) (by decide) rfl (by decide) (.inl rfl)
theorem zoB:TIok Tryz.prog 31 zcC:=tiok Tryz.type31 rfl rfl rfl rfl (by intro h;first | rfl | cases h) Tryz.underlying31 (by decide) rfl (by decide) (.inl rfl)
theorem zoA:TIok Tryz.prog 33 zrm:=tiok Tryz.type33 rfl rfl rfl rfl (by intro h;first | rfl | cases h) (zaT Tryz.underlying33 (.cons ⟨rfl,⟨_,Tryz.type31,rfl⟩,by decide,Tryz.isAgg31⟩ (.cons ⟨rfl,⟨_,Tryz.type31,rfl⟩,by decide,Tryz.isAgg31⟩ (.cons ⟨rfl,⟨_,Tryz.type3,rfl⟩,by decide,Tryz.isAgg3⟩ .nil)))) (by decide) rfl (by decide) (.inl rfl)
theorem zoz:TIok Tryz.prog 34 zrl:=tiok Tryz.type34 rfl rfl rfl rfl (by intro h;first | rfl | cases h) Tryz.underlying34 (by decide) rfl (by decide) (.inl rfl)
theorem zoy:TIok Tryz.prog 37 zrk:=tiok Tryz.type37 rfl rfl rfl rfl (by intro h;first | rfl | cases h) Tryz.underlying37 (by decide) rfl (by decide) (.inl rfl)
theorem zox:TIok Tryz.prog 39 ziP:=tiok Tryz.type39 rfl rfl rfl rfl (by intro h;first | rfl | cases h) (zaT Tryz.underlying39 (.cons ⟨rfl,⟨_,Tryz.type31,rfl⟩,by decide,Tryz.isAgg31⟩ (.cons ⟨rfl,⟨_,Tryz.type3,rfl⟩,by decide,Tryz.isAgg3⟩ (.cons ⟨rfl,⟨_,Tryz.type31,rfl⟩,by decide,Tryz.isAgg31⟩ (.cons ⟨rfl,⟨_,Tryz.type37,rfl⟩,by decide,Tryz.isAgg37⟩ .nil))))) (by decide) rfl (by decide) (.inl rfl)
theorem zow:TIok Tryz.prog 41 zri:=tiok Tryz.type41 rfl rfl rfl rfl (by intro h;first | rfl | cases h) (zaT Tryz.underlying41 (.cons ⟨rfl,⟨_,Tryz.type39,rfl⟩,by decide,Tryz.isAgg39⟩ (.cons ⟨rfl,⟨_,Tryz.type39,rfl⟩,by decide,Tryz.isAgg39⟩ (.cons ⟨rfl,⟨_,Tryz.type31,rfl⟩,by decide,Tryz.isAgg31⟩ (.cons ⟨rfl,⟨_,Tryz.type31,rfl⟩,by decide,Tryz.isAgg31⟩ .nil))))) (by decide) rfl (by decide) (.inl rfl)
theorem zov:TIok Tryz.prog 44 zrh:=tiok Tryz.type44 rfl rfl rfl rfl (by intro h;first | rfl | cases h) Tryz.underlying44 (by decide) rfl (by decide) (.inl rfl)
theorem zou:TIok Tryz.prog 45 zrg:=tiok Tryz.type45 rfl rfl rfl rfl (by intro h;first | rfl | cases h) Tryz.underlying45 (by decide) rfl (by decide) (.inl rfl)
theorem zot:TIok Tryz.prog 48 zla:=tiok Tryz.type48 rfl rfl rfl rfl (by intro h;first | rfl | cases h) Tryz.underlying48 (by decide) rfl (by decide) (.inr (.inr ⟨3,.i64,rfl,Tryz.underlying48,Tryz.underlying3,⟨_,Tryz.type3,rfl⟩,Tryz.eqGuardType48⟩))
theorem zos:TIok Tryz.prog 51 zre:=tiok Tryz.type51 rfl rfl rfl rfl (by intro h;first | rfl | cases h) Tryz.underlying51 (by decide) rfl (by decide) (.inl rfl)
theorem zor:TIok Tryz.prog 53 zrd:=tiok Tryz.type53 rfl rfl rfl rfl (by intro h;first | rfl | cases h) (zaT Tryz.underlying53 (.cons ⟨rfl,⟨_,Tryz.type39,rfl⟩,by decide,Tryz.isAgg39⟩ (.cons ⟨rfl,⟨_,Tryz.type51,rfl⟩,by decide,Tryz.isAgg51⟩ .nil))) (by decide) rfl (by decide) (.inl rfl)
theorem zoq:TIok Tryz.prog 70 zrb:=tiok Tryz.type70 rfl rfl rfl rfl (by intro h;first | rfl | cases h) Tryz.underlying70 (by decide) rfl (by decide) (.inl rfl)
theorem zop:TIok Tryz.prog 95 zra:=tiok Tryz.type95 rfl rfl rfl rfl (by intro h;first | rfl | cases h) Tryz.underlying95 (by decide) rfl (by decide) (.inl rfl)
theorem zlQ:TIok Tryz.prog 100 znv:=tiok Tryz.type100 rfl rfl rfl rfl (by intro h;first | rfl | cases h) Tryz.underlying100 (by decide) rfl (by decide) (.inl rfl)
theorem zlP:TIok Tryz.prog 102 znu:=tiok Tryz.type102 rfl rfl rfl rfl (by intro h;first | rfl | cases h) (zaT Tryz.underlying102 (.cons ⟨rfl,⟨_,Tryz.type31,rfl⟩,by decide,Tryz.isAgg31⟩ (.cons ⟨rfl,⟨_,Tryz.type100,rfl⟩,by decide,Tryz.isAgg100⟩ .nil))) (by decide) rfl (by decide) (.inl rfl)
theorem zlO:TIok Tryz.prog 105 znt:=tiok Tryz.type105 rfl rfl rfl rfl (by intro h;first | rfl | cases h) ⟨_,Tryz.underlying105,(by intro x h;cases h),(by intro x y h;cases h)⟩ (by decide) rfl (by decide) (.inl rfl)
theorem zlN:TIok Tryz.prog 109 zns:=tiok Tryz.type109 rfl rfl rfl rfl (by intro h;first | rfl | cases h) Tryz.underlying109 (by decide) rfl (by decide) (.inl rfl)
theorem zlM:TIok Tryz.prog 117 ziR:=tiok Tryz.type117 rfl rfl rfl rfl (by intro h;first | rfl | cases h) (zaT Tryz.underlying117 (.cons ⟨rfl,⟨_,Tryz.type3,rfl⟩,by decide,Tryz.isAgg3⟩ (.cons ⟨rfl,⟨_,Tryz.type3,rfl⟩,by decide,Tryz.isAgg3⟩ (.cons ⟨rfl,⟨_,Tryz.type3,rfl⟩,by decide,Tryz.isAgg3⟩ .nil)))) (by decide) rfl (by decide) (.inr (.inl ⟨Tryz.underlying117,by kernel_rfl,Tryz.eqGuardType117,⟨by decide,rfl,Tryz.underlying3,⟨by decide,rfl,Tryz.underlying3,⟨by decide,rfl,Tryz.underlying3,trivial⟩⟩⟩⟩))
theorem zlL:TIok Tryz.prog 119 znr:=tiok Tryz.type119 rfl rfl rfl rfl (by intro h;first | rfl | cases h) (zaT Tryz.underlying119 (.cons ⟨rfl,⟨_,Tryz.type41,rfl⟩,by decide,Tryz.isAgg41⟩ (.cons ⟨rfl,⟨_,Tryz.type39,rfl⟩,by decide,Tryz.isAgg39⟩ (.cons ⟨rfl,⟨_,Tryz.type45,rfl⟩,by decide,Tryz.isAgg45⟩ (.cons ⟨rfl,⟨_,Tryz.type39,rfl⟩,by decide,Tryz.isAgg39⟩ (.cons ⟨rfl,⟨_,Tryz.type51,rfl⟩,by decide,Tryz.isAgg51⟩ .nil)))))) (by decide) rfl (by decide) (.inl rfl)
theorem zlK:TIok Tryz.prog 127 znq:=tiok Tryz.type127 rfl rfl rfl rfl (by intro h;first | rfl | cases h) Tryz.underlying127 (by decide) rfl (by decide) (.inl rfl)
theorem zlJ:TIok Tryz.prog 133 znp:=tiok Tryz.type133 rfl rfl rfl rfl (by intro h;first | rfl | cases h) Tryz.underlying133 (by decide) rfl (by decide) (.inl rfl)
theorem zlI:TIok Tryz.prog 152 zno:=tiok Tryz.type152 rfl rfl rfl rfl (by intro h;first | rfl | cases h) Tryz.underlying152 (by decide) rfl (by decide) (.inl rfl)
theorem zlH:TIok Tryz.prog 154 znn:=tiok Tryz.type154 rfl rfl rfl rfl (by intro h;first | rfl | cases h) (zaT Tryz.underlying154 (.cons ⟨rfl,⟨_,Tryz.type70,rfl⟩,by decide,Tryz.isAgg70⟩ (.cons ⟨rfl,⟨_,Tryz.type31,rfl⟩,by decide,Tryz.isAgg31⟩ (.cons ⟨rfl,⟨_,Tryz.type152,rfl⟩,by decide,Tryz.isAgg152⟩ .nil)))) (by decide) rfl (by decide) (.inl rfl)
theorem zlG:TIok Tryz.prog 159 znm:=tiok Tryz.type159 rfl rfl rfl rfl (by intro h;first | rfl | cases h) Tryz.underlying159 (by decide) rfl (by decide) (.inl rfl)
theorem zlF:TIok Tryz.prog 178 znl:=tiok Tryz.type178 rfl rfl rfl rfl (by intro h;first | rfl | cases h) (zaT Tryz.underlying178 (.cons ⟨rfl,⟨_,Tryz.type3,rfl⟩,by decide,Tryz.isAgg3⟩ (.cons ⟨rfl,⟨_,Tryz.type31,rfl⟩,by decide,Tryz.isAgg31⟩ .nil))) (by decide) rfl (by decide) (.inl rfl)
theorem zlE:TIok Tryz.prog 182 znk:=tiok Tryz.type182 rfl rfl rfl rfl (by intro h;first | rfl | cases h) ⟨_,Tryz.underlying182,(by intro x h;cases h),(by intro x y h;cases h)⟩ (by decide) rfl (by decide) (.inl rfl)
theorem zlD:TIok Tryz.prog 185 znj:=tiok Tryz.type185 rfl rfl rfl rfl (by intro h;first | rfl | cases h) ⟨_,Tryz.underlying185,(by intro x h;cases h),(by intro x y h;cases h)⟩ (by decide) rfl (by decide) (.inl rfl)
theorem zlC:TIok Tryz.prog 214 ziQ:=tiok Tryz.type214 rfl rfl rfl rfl (by intro h;first | rfl | cases h) Tryz.underlying214 (by decide) rfl (by decide) (.inl rfl)
theorem zlB:TIok Tryz.prog 215 zni:=tiok Tryz.type215 rfl rfl rfl rfl (by intro h;first | rfl | cases h) Tryz.underlying215 (by decide) rfl (by decide) (.inl rfl)
theorem zlA:TIok Tryz.prog 217 znh:=tiok Tryz.type217 rfl rfl rfl rfl (by intro h;first | rfl | cases h) (zaT Tryz.underlying217 (.cons ⟨rfl,⟨_,Tryz.type215,rfl⟩,by decide,Tryz.isAgg215⟩ (.cons ⟨rfl,⟨_,Tryz.type44,rfl⟩,by decide,Tryz.isAgg44⟩ .nil))) (by decide) rfl (by decide) (.inl rfl)
theorem zlz:TIok Tryz.prog 219 zng:=tiok Tryz.type219 rfl rfl rfl rfl (by intro h;first | rfl | cases h) ⟨_,Tryz.underlying219,(by intro x h;cases h),(by intro x y h;cases h)⟩ (by decide) rfl (by decide) (.inl rfl)
theorem zly:TIok Tryz.prog 231 znf:=tiok Tryz.type231 rfl rfl rfl rfl (by intro h;first | rfl | cases h) ⟨_,Tryz.underlying231,(by intro x h;cases h),(by intro x y h;cases h)⟩ (by decide) rfl (by decide) (.inl rfl)
theorem zlx:TIok Tryz.prog 234 zne:=tiok Tryz.type234 rfl rfl rfl rfl (by intro h;first | rfl | cases h) Tryz.underlying234 (by decide) rfl (by decide) (.inl rfl)
theorem zlw:TIok Tryz.prog 238 znd:=tiok Tryz.type238 rfl rfl rfl rfl (by intro h;first | rfl | cases h) Tryz.underlying238 (by decide) rfl (by decide) (.inl rfl)
theorem zlv:TIok Tryz.prog 240 znc:=tiok Tryz.type240 rfl rfl rfl rfl (by intro h;first | rfl | cases h) (zaT Tryz.underlying240 (.cons ⟨rfl,⟨_,Tryz.type238,rfl⟩,by decide,Tryz.isAgg238⟩ (.cons ⟨rfl,⟨_,Tryz.type31,rfl⟩,by decide,Tryz.isAgg31⟩ (.cons ⟨rfl,⟨_,Tryz.type31,rfl⟩,by decide,Tryz.isAgg31⟩ (.cons ⟨rfl,⟨_,Tryz.type31,rfl⟩,by decide,Tryz.isAgg31⟩ .nil))))) (by decide) rfl (by decide) (.inl rfl)
theorem zlu:TIok Tryz.prog 244 znb:=tiok Tryz.type244 rfl rfl rfl rfl (by intro h;first | rfl | cases h) (zaT Tryz.underlying244 (.cons ⟨rfl,⟨_,Tryz.type3,rfl⟩,by decide,Tryz.isAgg3⟩ (.cons ⟨rfl,⟨_,Tryz.type3,rfl⟩,by decide,Tryz.isAgg3⟩ (.cons ⟨rfl,⟨_,Tryz.type3,rfl⟩,by decide,Tryz.isAgg3⟩ (.cons ⟨rfl,⟨_,Tryz.type3,rfl⟩,by decide,Tryz.isAgg3⟩ .nil))))) (by decide) rfl (by decide) (.inl rfl)
theorem zlt:TIok Tryz.prog 245 zna:=tiok Tryz.type245 rfl rfl rfl rfl (by intro h;first | rfl | cases h) Tryz.underlying245 (by decide) rfl (by decide) (.inl rfl)
theorem zls:TIok Tryz.prog 246 zm9:=tiok Tryz.type246 rfl rfl rfl rfl (by intro h;first | rfl | cases h) Tryz.underlying246 (by decide) rfl (by decide) (.inl rfl)
theorem zlr:TIok Tryz.prog 249 zm8:=tiok Tryz.type249 rfl rfl rfl rfl (by intro h;first | rfl | cases h) (zaT Tryz.underlying249 (.cons ⟨rfl,⟨_,Tryz.type3,rfl⟩,by decide,Tryz.isAgg3⟩ (.cons ⟨rfl,⟨_,Tryz.type3,rfl⟩,by decide,Tryz.isAgg3⟩ .nil))) (by decide) rfl (by decide) (.inr (.inl ⟨Tryz.underlying249,by kernel_rfl,Tryz.eqGuardType249,⟨by decide,rfl,Tryz.underlying3,⟨by decide,rfl,Tryz.underlying3,trivial⟩⟩⟩))
theorem zlq:TIok Tryz.prog 250 zm7:=tiok Tryz.type250 rfl rfl rfl rfl (by intro h;first | rfl | cases h) Tryz.underlying250 (by decide) rfl (by decide) (.inl rfl)
theorem zlp:TIok Tryz.prog 254 zm6:=tiok Tryz.type254 rfl rfl rfl rfl (by intro h;first | rfl | cases h) ⟨_,Tryz.underlying254,(by intro x h;cases h),(by intro x y h;cases h)⟩ (by decide) rfl (by decide) (.inl rfl)
theorem zlo:TIok Tryz.prog 256 zm5:=tiok Tryz.type256 rfl rfl rfl rfl (by intro h;first | rfl | cases h) ⟨_,Tryz.underlying256,(by intro x h;cases h),(by intro x y h;cases h)⟩ (by decide) rfl (by decide) (.inl rfl)
theorem zln:TIok Tryz.prog 262 zm4:=tiok Tryz.type262 rfl rfl rfl rfl (by intro h;first | rfl | cases h) Tryz.underlying262 (by decide) rfl (by decide) (.inl rfl)
theorem zlm:TIok Tryz.prog 268 zm3:=tiok Tryz.type268 rfl rfl rfl rfl (by intro h;first | rfl | cases h) Tryz.underlying268 (by decide) rfl (by decide) (.inl rfl)
theorem zll:TIok Tryz.prog 275 zm2:=tiok Tryz.type275 rfl rfl rfl rfl (by intro h;first | rfl | cases h) Tryz.underlying275 (by decide) rfl (by decide) (.inl rfl)
theorem zlk:TIok Tryz.prog 277 zm1:=tiok Tryz.type277 rfl rfl rfl rfl (by intro h;first | rfl | cases h) Tryz.underlying277 (by decide) rfl (by decide) (.inl rfl)
theorem zlj:TIok Tryz.prog 280 zm0:=tiok Tryz.type280 rfl rfl rfl rfl (by intro h;first | rfl | cases h) ⟨_,Tryz.underlying280,(by intro x h;cases h),(by intro x y h;cases h)⟩ (by decide) rfl (by decide) (.inl rfl)
theorem zli:TIok Tryz.prog 295 zmZ:=tiok Tryz.type295 rfl rfl rfl rfl (by intro h;first | rfl | cases h) Tryz.underlying295 (by decide) rfl (by decide) (.inl rfl)
theorem zlh:TIok Tryz.prog 300 zmY:=tiok Tryz.type300 rfl rfl rfl rfl (by intro h;first | rfl | cases h) Tryz.underlying300 (by decide) rfl (by decide) (.inl rfl)
theorem zlg:TIok Tryz.prog 305 zmX:=tiok Tryz.type305 rfl rfl rfl rfl (by intro h;first | rfl | cases h) Tryz.underlying305 (by decide) rfl (by decide) (.inl rfl)
theorem zlf:TIok Tryz.prog 309 zmW:=tiok Tryz.type309 rfl rfl rfl rfl (by intro h;first | rfl | cases h) Tryz.underlying309 (by decide) rfl (by decide) (.inl rfl)
theorem zle:TIok Tryz.prog 312 zmV:=tiok Tryz.type312 rfl rfl rfl rfl (by intro h;first | rfl | cases h) Tryz.underlying312 (by decide) rfl (by decide) (.inl rfl)
theorem zld:TIok Tryz.prog 313 zmU:=tiok Tryz.type313 rfl rfl rfl rfl (by intro h;first | rfl | cases h) Tryz.underlying313 (by decide) rfl (by decide) (.inl rfl)
theorem zlc:TIok Tryz.prog 314 zmT:=tiok Tryz.type314 rfl rfl rfl rfl (by intro h;first | rfl | cases h) Tryz.underlying314 (by decide) rfl (by decide) (.inl rfl)
theorem zlb:TIok Tryz.prog 315 zmS:=tiok Tryz.type315 rfl rfl rfl rfl (by intro h;first | rfl | cases h) Tryz.underlying315 (by decide) rfl (by decide) (.inl rfl)
def zwF:TT:=[
 (1,ztT),
 (2,ztS),
 (3,zfF),
 (4,ztR),
 (5,ztQ),
 (9,ztP),
 (12,zrv),
 (21,zrt),
 (22,zrs),
 (23,zrr),
 (24,zrq),
 (26,zrp),
 (28,zro),
 (31,zcC),
 (33,zrm),
 (34,zrl),
 (37,zrk),
 (39,ziP),
 (41,zri),
 (44,zrh),
 (45,zrg),
 (48,zla),
 (51,zre),
 (53,zrd),
 (70,zrb),
 (95,zra),
 (100,znv),
 (102,znu),
 (105,znt),
 (109,zns),
 (117,ziR),
 (119,znr),
 (127,znq),
 (133,znp),
 (152,zno),
 (154,znn),
 (159,znm),
 (178,znl),
 (182,znk),
 (185,znj),
 (214,ziQ),
 (215,zni),
 (217,znh),
 (219,zng),
 (231,znf),
 (234,zne),
 (238,znd),
 (240,znc),
 (244,znb),
 (245,zna),
 (246,zm9),
 (249,zm8),
 (250,zm7),
 (254,zm6),
 (256,zm5),
 (262,zm4),
 (268,zm3),
 (275,zm2),
 (277,zm1),
 (280,zm0),
 (295,zmZ),
 (300,zmY),
 (305,zmX),
 (309,zmW),
 (312,zmV),
 (313,zmU),
 (314,zmT),
 (315,zmS)]
theorem Tk:TOk Tryz.prog zwF:=zs8 ⟨zru,zrn,zrj,zrf,zrc,zq9,zoI,zoH,zoG,zoF,zoE,zoD,zoC,zoB,zoA,zoz,zoy,zox,zow,zov,zou,zot,zos,zor,zoq,zop,zlQ,zlP,zlO,zlN,zlM,zlL,zlK,zlJ,zlI,zlH,zlG,zlF,zlE,zlD,zlC,zlB,zlA,zlz,zly,zlx,zlw,zlv,zlu,zlt,zls,zlr,zlq,zlp,zlo,zln,zlm,zll,zlk,zlj,zli,zlh,zlg,zlf,zle,zld,zlc,zlb,trivial⟩
end Go.AI


namespace Go.AI
open Go.Proofs
set_option maxRecDepth 20000
theorem zaM:Tryz.prog.follows .mixedOrders=true:=rfl
theorem zp5 (O:List Heap) (a:Int):zan Tryz.prog 189 [ii a] O (bb false) [] O:=by
 refine zad Tk Tryz.func189 rfl Tryz.call189 Tryz.ntmps189 (Nat.le_of_ble_eq_true rfl) fun E=>?_
 refine zbH Tk Tryz.func189 ?_
 refine zbm (hT:=Tk) (r:=bb _) rfl rfl rfl trivial rfl rfl ?_
 simp
theorem zuF (O:List Heap) (a:Int):zan Tryz.prog 159 [ii a] O (bb false) [] O:=by
 refine zad Tk Tryz.func159 rfl Tryz.call159 Tryz.ntmps159 (Nat.le_of_ble_eq_true rfl) fun E=>?_
 refine zbH Tk Tryz.func159 ?_
 refine zbm (hT:=Tk) (r:=bb _) rfl rfl rfl trivial rfl rfl ?_
 simp
theorem zvE (O:List Heap) (a b:Int):zan Tryz.prog 158 [ii a,ii b] O (bb (decide (a<b))) [] O:=by
 refine zad Tk Tryz.func158 rfl Tryz.call158 Tryz.ntmps158 (Nat.le_of_ble_eq_true rfl) fun E=>?_
 refine zbH Tk Tryz.func158 ?_
 refine zgw Tk Tryz.func158 (zp5 _ a) rfl rfl rfl rfl rfl ?_
 refine zfA Tk Tryz.func158 rfl (fun h1=>by cases h1) (fun _=>?_)
 refine zfA Tk Tryz.func158 rfl (fun h1=>by cases h1) (fun _=>?_)
 refine zbm (hT:=Tk) (r:=bb _) rfl rfl rfl trivial rfl rfl ?_
 rfl
end Go.AI


namespace Go.AI
open Go.Proofs
set_option maxRecDepth 20000
theorem zvy {a b:Nat} (ha:a≤zas) (hb:b≤zas):IntKind.i64.wrap (IntKind.u64.wrap (IntKind.i64.wrap ((a:Int)+b)) / 2 ^ (1:Int).toNat)=((a+b) / 2:Nat):=by
 simp only[zas] at ha hb
 have h1:IntKind.u64.wrap (IntKind.i64.wrap ((a:Int)+b))=(a:Int)+b:=by
  simp only[IntKind.wrap,IntKind.bits,IntKind.signed]
  simp
  omega
 rw[h1,w64]
 ·simp
 ·simp;omega
 ·simp;omega
def lows (l:List Int) (x:Int):Nat:=(l.filter (· < x)).length
theorem zuu {l:List Int} {x:Int} {i:Nat} (hi:i≤l.length) (h1:∀ k (h:k<l.length),k<i→l[k]<x) (h2:∀ k (h:k<l.length),i≤k→x≤l[k]):lows l x=i:=by
 have e:l=l.take i++l.drop i:=(List.take_append_drop i l).symm
 unfold lows
 rw[e,List.filter_append]
 have a1:(l.take i).filter (fun y=>decide (y<x))=l.take i:=by
  rw[List.filter_eq_self]
  intro y hy
  obtain⟨k,hk,rfl⟩:=List.getElem_of_mem hy
  simp only[List.length_take] at hk
  have:=h1 k (by omega) (by omega)
  simpa using this
 have a2:(l.drop i).filter (fun y=>decide (y<x))=[]:=by
  rw[List.filter_eq_nil_iff]
  intro y hy
  obtain⟨k,hk,rfl⟩:=List.getElem_of_mem hy
  simp only[List.length_drop] at hk
  have:=h2 (i+k) (by omega) (by omega)
  simpa using this
 rw[a1,a2]
 simp
 omega
theorem zq0 (O:List Heap) (l:List Int) (x:Int) (hl:l.length≤zas) (hs:l.Pairwise (· < ·)):zan Tryz.prog 109 [ints l,ii x] O (.tup [ii (lows l x),bb (decide (x∈l))]) [] O:=by
 have hsort:∀ i j (hi:i<l.length) (hj:j<l.length),i<j→l[i]<l[j]:=fun i j hi hj h=>List.pairwise_iff_getElem.1 hs i j hi hj h
 refine zad Tk Tryz.func109 rfl Tryz.call109 Tryz.ntmps109 (Nat.le_of_ble_eq_true rfl) fun E=>?_
 refine zbH Tk Tryz.func109 ?_
 refine zah (fun p:Nat × Nat=>[(0,ints l),(1,ii x),(6,ii l.length),(7,ii p.1),(8,ii p.2)]) (fun _=>[]) (fun _=>O) 54
  (fun p=>p.1≤p.2∧p.2≤l.length∧(∀ k (h:k<l.length),k<p.1→l[k]<x)∧∀ k (h:k<l.length),p.2≤k→x≤l[k]) (fun p=>p.2 - p.1) (0,l.length)
  ⟨Nat.zero_le _,Nat.le_refl _,fun k h h'=>by simp at h',fun k h h'=>by simp at h';omega⟩ ⟨rfl,rfl,rfl,rfl,rfl,trivial⟩ rfl trivial rfl rfl ?_
 rintro ⟨i,j⟩ ⟨hij,hj,hlo,hhi⟩ ih
 simp only at hij hj hlo hhi
 have hlj:j≤zas:=Nat.le_trans hj hl
 refine zbH Tk Tryz.func109 ?_
 refine zeR Tk Tryz.func109 rfl (fun h1=>?_) (fun h1=>?_)
 ·have h1:i<j:=by simpa using h1
  refine zeQ Tk Tryz.func109 (by simp[IntKind.bits]) ?_
  have hm:=zvy (Nat.le_trans hij hlj) hlj
  have hmj:(i+j) / 2<j:=by omega
  refine zeQ Tk Tryz.func109 (by rw[hm];omega) ?_
  refine zgv Tk Tryz.func109 (d:=[vi (l[(i+j) / 2]'(by omega))]) (by rw[hm];exact zaj (f:=fun x=>[vi x]) (by omega)) ?_
  refine zgw Tk Tryz.func109 (zvE _ _ _) rfl rfl rfl rfl rfl ?_
  refine zeR Tk Tryz.func109 rfl (fun h2=>?_) (fun h2=>?_)
  ·have h2:l[(i+j) / 2]<x:=by simpa using h2
   refine ih ((i+j) / 2+1,j) _ _ ⟨by show (i+j) / 2+1≤j;omega,hj,fun k h h'=>?_,hhi⟩ (by simp only;omega) ⟨rfl,rfl,rfl,?_,rfl,trivial⟩ rfl trivial rfl rfl
   ·by_cases e:k=(i+j) / 2
    ·subst e;exact h2
    ·have h':k<(i+j) / 2+1:=h'
     have:=hsort k ((i+j) / 2) h (by omega) (by omega)
     omega
   ·show D.i (.v (.int .i64 _))=_
    rw[hm]
    exact congrArg ii (zaC (n:=j) (by omega) hlj)
  ·have h2:x≤l[(i+j) / 2]:=by simpa using h2
   refine ih (i,(i+j) / 2) _ _ ⟨by show i≤(i+j) / 2;omega,by show (i+j) / 2≤l.length;omega,hlo,fun k h h'=>?_⟩ (by simp only;omega) ⟨rfl,rfl,rfl,rfl,?_,trivial⟩ rfl trivial rfl rfl
   ·have h':(i+j) / 2≤k:=h'
    by_cases e:k=(i+j) / 2
    ·subst e;exact h2
    ·have:=hsort ((i+j) / 2) k (by omega) h (by omega)
     omega
   ·show D.i (.v (.int .i64 _))=_
    rw[hm]
 ·have h1:j≤i:=by simpa using h1
  have hij:i=j:=by omega
  subst hij
  have hlow:lows l x=i:=zuu hj hlo hhi
  rw[hlow]
  have hnot:∀ (hi:i<l.length),l[i]≠x→x ∉ l:=by
   intro hi hne hm
   obtain⟨k,hk,e⟩:=List.getElem_of_mem hm
   by_cases h3:k<i
   ·have:=hlo k hk h3;omega
   ·by_cases h4:k=i
    ·subst h4;exact hne e
    ·have:=hsort i k hi hk (by omega)
     have:=hhi i hi (Nat.le_refl _)
     omega
  refine zfA Tk Tryz.func109 rfl (fun h1=>?_) (fun h1=>?_)
  ·have h1:i<l.length:=by simpa using h1
   refine zeQ Tk Tryz.func109 (by omega) ?_
   refine zgv Tk Tryz.func109 (zaj h1) ?_
   refine zfA Tk Tryz.func109 rfl (fun h2=>?_) (fun h2=>?_)
   ·have h2:l[i]=x:=by simpa using h2
    refine zbm (hT:=Tk) (r:=.tup [ii _,bb _]) rfl rfl rfl trivial rfl rfl ?_
    have:x∈l:=by rw[← h2];simp
    simp[this]
   ·have h2:l[i]≠x:=by simpa using h2
    refine zeQ Tk Tryz.func109 (by omega) ?_
    refine zgv Tk Tryz.func109 (zaj h1) ?_
    refine zgw Tk Tryz.func109 (zuF _ _) rfl rfl rfl rfl rfl ?_
    refine zfA Tk Tryz.func109 rfl (fun h1=>by cases h1) (fun _=>?_)
    refine zbm (hT:=Tk) (r:=.tup [ii _,bb _]) rfl rfl rfl trivial rfl rfl ?_
    simp[hnot h1 h2]
  ·have h1:l.length≤i:=by simpa using h1
   refine zbm (hT:=Tk) (r:=.tup [ii _,bb _]) rfl rfl rfl trivial rfl rfl ?_
   have:x ∉ l:=by
    intro hm
    obtain⟨k,hk,e⟩:=List.getElem_of_mem hm
    have:=hlo k hk (by omega)
    omega
   simp[this]
theorem zda (O:List Heap) (l:List Int) (x:Int) (hl:l.length≤zas) (hs:l.Pairwise (· < ·)):zan Tryz.prog 59 [ints l,ii x] O (bb (decide (x∈l))) [] O:=by
 refine zad Tk Tryz.func59 rfl Tryz.call59 Tryz.ntmps59 (Nat.le_of_ble_eq_true rfl) fun E=>?_
 refine zbH Tk Tryz.func59 ?_
 refine zgw Tk Tryz.func59 (zq0 _ l x hl hs) rfl rfl rfl rfl rfl ?_
 refine zbm (hT:=Tk) (r:=bb _) rfl rfl rfl trivial rfl rfl ?_
 rfl
end Go.AI


namespace Go.AI
open Go.Proofs
set_option maxRecDepth 20000
abbrev big:Nat:=140737488355328
abbrev zat (l:List Int):Ob:=.arr 3 1 l.length (l.map fun x=>[vi x]) true
theorem zen (H:Heap) (nm:Nat) (ob:Ob):D.ret H [(nm,ob)] (.osl 0 nm) = .osl 0 nm:=by
 simp[D.ret,D.ret2,D.ret1,memH,zab]
theorem zi2 (nm:Nat) (ob ob':Ob) (Hr:Heap) (h:ob' = ob.ret [(nm,ob)] Hr):zeG [(nm,ob)] Hr [(nm,ob')]:=⟨⟨ob,by simp[look],h⟩,trivial⟩
theorem zkY (nm:Nat) (O:List Heap) (l:List Int) (hl:l.length * 8≤big):zan Tryz.prog 77 [ints l] O (.osl 0 nm) [(nm,zat l)] O:=by
 refine zad Tk Tryz.func77 rfl Tryz.call77 Tryz.ntmps77 (Nat.le_of_ble_eq_true rfl) fun E=>?_
 refine zbH Tk Tryz.func77 ?_
 refine ztq Tk Tryz.func77 rfl rfl fun b hb=>?_
 refine zeR Tk Tryz.func77 rfl (fun h1=>?_) (fun h1=>?_)
 ·have hl0:l=[]:=List.eq_nil_of_length_eq_zero (hb h1)
  subst hl0
  refine zma (zcg 2 nm 3 1 rfl rfl rfl) ?_
  exact zbm (hT:=Tk) (r:=.osl 0 nm) rfl rfl rfl (zi2 _ _ _ _ rfl) (zen _ _ _) rfl rfl
 ·refine zeQ Tk Tryz.func77 ⟨?_,?_⟩ ?_
  ·show (0+l.length) * 8≤140737488355328
   simp only[big] at hl;omega
  ·simp only[big] at hl;omega
  refine zma (ziV (l:=[(2,.osl 0 7)]) (Hv:=[(7,.arr 3 1 (0+l.length) ([]++l.map fun x=>[vi x]) true)]) ⟨rfl,trivial⟩ rfl ⟨rfl,trivial⟩ rfl rfl) ?_
  refine zma (zoM 7 nm rfl rfl) ?_
  refine zbm (hT:=Tk) (r:=.osl 0 nm) rfl rfl rfl (zi2 _ _ _ _ ?_) (zen _ _ _) rfl rfl
  rw[Nat.zero_add]
  rfl
theorem zdM (O:List Heap) (l r:List Int) (hl:l.length≤zas):zan Tryz.prog 41 [ints l,ints r] O (bb (decide (l=r))) [] O:=by
 refine zad Tk Tryz.func41 rfl Tryz.call41 Tryz.ntmps41 (Nat.le_of_ble_eq_true rfl) fun E=>?_
 refine zbH Tk Tryz.func41 ?_
 refine zeR Tk Tryz.func41 rfl (fun h1=>?_) (fun h1=>?_)
 ·refine zbm (hT:=Tk) (r:=bb _) rfl rfl rfl trivial rfl rfl ?_
  have h1:(l.length:Int)≠r.length:=by simpa using h1
  have:l≠r:=fun e=>h1 (by rw[e])
  simp[this]
 have hlen:l.length=r.length:=by
  have:(l.length:Int)=r.length:=by simpa using h1
  omega
 refine zdA (fun i:Nat=>[(0,ints l),(1,ints r),(4,bb false),(12,ii l.length),(13,ii i)]) (fun _=>[]::O) 26 (fun i=>i≤l.length∧∀ j (h:j<l.length),j<i→l[j]=r[j]) (fun i=>l.length - i) 0 ⟨Nat.zero_le _,fun j h h'=>by omega⟩ ⟨rfl,rfl,rfl,rfl,rfl,trivial⟩ rfl rfl ?_
 intro i ⟨hi,hno⟩ ih
 refine zbH Tk Tryz.func41 ?_
 refine zeR Tk Tryz.func41 rfl (fun h1=>?_) (fun h1=>?_)
 ·have h1:i<l.length:=by simpa using h1
  have h1':i<r.length:=by omega
  refine zus Tk Tryz.func41 zaM rfl ?_
  refine zqR Tk (by omega) ?_
  refine ztH Tk (zaj h1) ?_
  refine zqR Tk (by omega) ?_
  refine ztH Tk (zaj h1') ?_
  refine zqS Tk Tryz.func41 (by kernel_rfl) ?_
  refine zeR Tk Tryz.func41 rfl (fun h2=>?_) (fun h2=>?_)
  ·refine zbm (hT:=Tk) (r:=bb _) rfl rfl rfl trivial rfl rfl ?_
   have h2:l[i]≠r[i]:=by simpa using h2
   have:l≠r:=fun e=>h2 (by subst e;rfl)
   simp[this]
  ·have h2:l[i]=r[i]:=by simpa using h2
   refine ih (i+1) _ ?_ ?_ ⟨rfl,rfl,rfl,rfl,congrArg ii (zaC h1 hl),trivial⟩ rfl rfl
   ·refine⟨h1,fun j h h'=>?_⟩
    by_cases e:j=i
    ·subst e;exact h2
    ·exact hno j h (by omega)
   ·omega
 ·have h1:l.length≤i:=by simpa using h1
  refine zbm (hT:=Tk) (r:=bb _) rfl rfl rfl trivial rfl rfl ?_
  have:l=r:=List.ext_getElem hlen fun j h h'=>hno j h (by omega)
  simp[this]
def zal (n:Int):List Int→Option Int→Int
 | [],_=>0
 | x::r,prev=>if x<0∨x ≥ n then 2 else if prev.any (x ≤ ·) then 5 else zal n r (some x)
theorem zhM (O:List Heap) (l:List Int) (n:Int) (hl:l.length≤zas):zan Tryz.prog 67 [ints l,ii n] O (ii (zal n l none)) [] O:=by
 refine zad Tk Tryz.func67 rfl Tryz.call67 Tryz.ntmps67 (Nat.le_of_ble_eq_true rfl) fun E=>?_
 refine zbH Tk Tryz.func67 ?_
 let prev:Nat→Option Int:=fun i=>if i=0 then none else l[i - 1]?
 refine zdA (fun i:Nat=>[(0,ints l),(1,ii n),(7,ints l),(8,ii l.length),(9,ii i)]) (fun _=>[]::O) 33 (fun i=>i≤l.length∧zal n l none=zal n (l.drop i) (prev i)) (fun i=>l.length - i) 0 ⟨Nat.zero_le _,rfl⟩ ⟨rfl,rfl,rfl,rfl,rfl,trivial⟩ rfl rfl ?_
 intro i ⟨hi,hno⟩ ih
 rw[hno]
 refine zbH Tk Tryz.func67 ?_
 refine zeR Tk Tryz.func67 rfl (fun h1=>?_) (fun h1=>?_)
 ·have h1:i<l.length:=by simpa using h1
  rw[hno] at ih
  have hd:l.drop i=l[i]::l.drop (i+1):=(List.drop_eq_getElem_cons h1)
  have hnext:prev (i+1)=some l[i]:=by simp[prev,h1]
  refine zeQ Tk Tryz.func67 (by omega) ?_
  refine zgv Tk Tryz.func67 (zaj h1) ?_
  refine zfA Tk Tryz.func67 rfl (fun h2=>?_) (fun h2=>?_)
  ·have h2:l[i]<0:=by simpa using h2
   refine zeR Tk Tryz.func67 rfl (fun _=>?_) (fun h=>by cases h)
   refine zbm (hT:=Tk) (r:=ii _) rfl rfl rfl trivial rfl rfl ?_
   rw[hd]
   simp only[zal]
   rw[if_pos (.inl h2)]
  have h2:¬ l[i]<0:=by simpa using h2
  refine zeR Tk Tryz.func67 rfl (fun h3=>?_) (fun h3=>?_)
  ·have h3:l[i] ≥ n:=by simpa using h3
   refine zbm (hT:=Tk) (r:=ii _) rfl rfl rfl trivial rfl rfl ?_
   rw[hd]
   simp only[zal]
   rw[if_pos (.inr h3)]
  have h3:¬ l[i] ≥ n:=by simpa using h3
  refine zfA Tk Tryz.func67 rfl (fun h4=>?_) (fun h4=>?_)
  ·have h4:0<i:=by simpa using h4
   have hw:IntKind.i64.wrap ((i:Int) - 1)=((i - 1:Nat):Int):=by
    simp only[zas] at hl
    rw[w64 (by omega) (by omega)]
    omega
   have hp:prev i=some (l[i - 1]'(by omega)):=by
    simp only[prev,if_neg (show ¬ i=0 by omega)]
    exact List.getElem?_eq_getElem (by omega)
   refine zeQ Tk Tryz.func67 (by rw[hw];omega) ?_
   refine zgv Tk Tryz.func67 (by rw[hw];exact zaj (f:=fun x=>[vi x]) (show i - 1<l.length by omega)) ?_
   refine zeR Tk Tryz.func67 rfl (fun h5=>?_) (fun h5=>?_)
   ·have h5:l[i]≤l[i - 1]:=by simpa using h5
    refine zbm (hT:=Tk) (r:=ii _) rfl rfl rfl trivial rfl rfl ?_
    rw[hd,hp]
    simp only[zal]
    rw[if_neg (by omega),if_pos (by simpa using h5)]
   ·have h5:¬ l[i]≤l[i - 1]:=by simpa using h5
    refine ih (i+1) _ ⟨h1,?_⟩ (by omega) ⟨rfl,rfl,rfl,rfl,congrArg ii (zaC h1 hl),trivial⟩ rfl rfl
    rw[hnext,hd,hp]
    simp only[zal]
    rw[if_neg (by omega),if_neg (by simpa using h5)]
  ·have h4:i=0:=by
    have:¬ 0<i:=by simpa using h4
    omega
   refine zeR Tk Tryz.func67 rfl (fun h=>by cases h) (fun _=>?_)
   refine ih (i+1) _ ⟨h1,?_⟩ (by omega) ⟨rfl,rfl,rfl,rfl,congrArg ii (zaC h1 hl),trivial⟩ rfl rfl
   rw[hnext,hd]
   have hp:prev i=none:=by simp[prev,h4]
   rw[hp]
   simp only[zal]
   rw[if_neg (by omega)]
   simp
 ·have h1:l.length≤i:=by simpa using h1
  refine zbm (hT:=Tk) (r:=ii _) rfl rfl rfl trivial rfl rfl ?_
  rw[List.drop_eq_nil_of_le h1]
  rfl
end Go.AI


namespace Go.AI
structure Unf (σ:Type) where
 sts:List σ
 mkl:List Int
 eds:List (Int × Int × Int)
def kOf:List (Int × Int × Int)→Nat→Option Nat
 | [],k=>some k
 | e::r,k=>if (0≤e.1∧e.1<k)∧0≤e.2.2∧e.2.2≤k then kOf r (if e.2.2=k then k+1 else k) else none
theorem zky:∀ (l r:List (Int × Int × Int)) (k:Nat),kOf (l++r) k=(kOf l k).bind (kOf r)
 | [],r,k=>rfl
 | e::l,r,k=>by
  simp only[List.cons_append,kOf]
  split
  ·exact zky l r _
  ·rfl
section
variable {σ:Type} (eq:σ→σ→Bool) (lim:Bool) (step:σ→Int→σ × Bool × Int) (mkd:σ→Bool)
def zbA (i:Nat) (s:σ) (ev:Int) (U:Unf σ):Except Int (Unf σ):=
 if (step s ev).2.2≠0 then .error (step s ev).2.2 else
 if (step s ev).2.1=false then .ok U else
 if U.sts.findIdx (eq (step s ev).1)<U.sts.length then .ok { U with eds:=U.eds++[((i:Int),ev,((U.sts.findIdx (eq (step s ev).1):Nat):Int))] } else
 if lim=true∧U.sts.length=4096 then .error 3 else
 .ok { sts:=U.sts++[(step s ev).1],mkl:=U.mkl,eds:=U.eds++[((i:Int),ev,((U.sts.findIdx (eq (step s ev).1):Nat):Int))] }
def zav (i:Nat) (s:σ):List Int→Unf σ→Except Int (Unf σ)
 | [],U=>.ok U
 | ev::r,U=>match zbA eq lim step i s ev U with
  | .error e=>.error e
  | .ok U'=>zav i s r U'
def zbk (i:Nat) (s:σ) (U:Unf σ):Unf σ:=if mkd s then { U with mkl:=U.mkl++[(i:Int)] } else U
def zbx (alpha:List Int):Nat→Nat→Unf σ→Except Int (Unf σ)
 | 0,_,U=>.ok U
 | f+1,i,U=>match U.sts[i]? with
  | none=>.ok U
  | some s=>match zav eq lim step i s alpha (zbk mkd i s U) with
   | .error e=>.error e
   | .ok U'=>zbx alpha f (i+1) U'
def unf0 (first:σ):Unf σ:=⟨[first],[],[]⟩
def unfR (alpha:List Int) (first:σ):Except Int (Unf σ):=zbx eq lim step mkd alpha 4097 0 (unf0 first)
theorem zb7 (i:Nat) (s:σ) (U:Unf σ):(zbk mkd i s U).sts=U.sts∧(zbk mkd i s U).eds=U.eds:=by
 unfold zbk;split <;> exact⟨rfl,rfl⟩
end
theorem zbS {α:Type} {p q:α→Bool}:∀ {l:List α},(∀ x∈l,p x=q x)→l.findIdx p=l.findIdx q
 | [],_=>rfl
 | x::r,h=>by
  rw[List.findIdx_cons,List.findIdx_cons,h x (by simp),zbS (l:=r) fun y hy=>h y (by simp[hy])]
theorem za6 {α:Type} {p:α→Bool}:∀ {l:List α},(∀ x∈l,p x=false)→l.findIdx p=l.length
 | [],_=>rfl
 | x::r,h=>by
  rw[List.findIdx_cons,h x (by simp),za6 (l:=r) fun y hy=>h y (by simp[hy])]
  rfl
theorem zev {α:Type} {p:α→Bool}:∀ {l:List α} (r:List α),(∃ x∈l,p x=true)→(l++r).findIdx p=l.findIdx p
 | [],_,h=>by obtain⟨x,hx,_⟩:=h;cases hx
 | x::l,r,h=>by
  rw[List.cons_append,List.findIdx_cons,List.findIdx_cons]
  cases hx:p x with
  | true=>rfl
  | false=>
   rw[zev r]
   obtain⟨y,hy,hp⟩:=h
   rcases List.mem_cons.1 hy with rfl | hy
   ·rw[hx] at hp;cases hp
   ·exact⟨y,hy,hp⟩
theorem zcr {α:Type} {p:α→Bool}:∀ {l:List α},(∃ x∈l,p x=true)→l.findIdx p<l.length
 | [],h=>by obtain⟨x,hx,_⟩:=h;cases hx
 | x::l,h=>by
  rw[List.findIdx_cons]
  cases hx:p x with
  | true=>exact Nat.zero_lt_succ _
  | false=>
   have:=zcr (p:=p) (l:=l) (by
    obtain⟨y,hy,hp⟩:=h
    rcases List.mem_cons.1 hy with rfl | hy
    ·rw[hx] at hp;cases hp
    ·exact⟨y,hy,hp⟩)
   simp only[cond_false,List.length_cons]
   omega
theorem findIdx_le {α:Type} {p:α→Bool}:∀ {l:List α},l.findIdx p≤l.length
 | []=>Nat.le_refl _
 | x::l=>by
  have:=findIdx_le (p:=p) (l:=l)
  rw[List.findIdx_cons]
  cases p x with
  | true=>exact Nat.zero_le _
  | false=>simp only[cond_false,List.length_cons];omega
section
variable {σ:Type} [DecidableEq σ]
def eqB (a b:σ):Bool:=decide (a=b)
theorem zsy {l:List σ} (hn:l.Nodup) {i:Nat} (h:i<l.length):l.findIdx (eqB l[i])=i:=by
 induction l generalizing i with
 | nil=>cases h
 | cons x r ih=>
  rw[List.nodup_cons] at hn
  rw[List.findIdx_cons]
  cases i with
  | zero=>simp[eqB]
  | succ i=>
   have hi:i<r.length:=by simpa using h
   have hne:r[i]≠x:=fun e=>hn.1 (e ▸ List.getElem_mem hi)
   have e1:eqB ((x::r)[i+1]) x=false:=by simp[eqB,hne]
   rw[e1]
   simp only[cond_false,List.getElem_cons_succ]
   rw[ih hn.2 hi]
theorem zqa {l:List σ} {s:σ} (h:s∈l):l[l.findIdx (eqB s)]? = some s:=by
 induction l with
 | nil=>cases h
 | cons x r ih=>
  rw[List.findIdx_cons]
  by_cases e:s=x
  ·subst e;simp[eqB]
  ·have e1:eqB s x=false:=by simp[eqB,e]
   rw[e1]
   simp only[cond_false,List.getElem?_cons_succ]
   exact ih (by simpa [e] using h)
variable (step:σ→Int→σ × Bool × Int) (mkd:σ→Bool)
def eOf (sts:List σ) (i:Nat) (s:σ) (ev:Int):Option (Int × Int × Int):=if (step s ev).2.1=true then some ((i:Int),ev,((sts.findIdx (eqB (step s ev).1):Nat):Int)) else none
theorem zqN {sts r:List σ} {i:Nat} {s:σ} {ev:Int} (h:(step s ev).2.1=true→(step s ev).1∈sts):eOf step (sts++r) i s ev=eOf step sts i s ev:=by
 unfold eOf
 split
 ·rename_i hp
  rw[zev r ⟨_,h hp,by simp[eqB]⟩]
 ·rfl
theorem zcf {α β:Type} {f g:α→Option β}:∀ {l:List α},(∀ x∈l,f x=g x)→l.filterMap f=l.filterMap g
 | [],_=>rfl
 | x::r,h=>by
  simp only[List.filterMap_cons,h x (by simp)]
  rw[zcf (l:=r) fun y hy=>h y (by simp[hy])]
structure Fin1 (eq:σ→σ→Bool) (lim:Bool) (P:σ→Prop):Prop where
 step:∀ s ev,P s→(step s ev).2.1=true→P (step s ev).1
 eq:∀ s t,P s→P t→eq s t=eqB s t
 few:lim=true→∀ l:List σ,(∀ s∈l,P s)→l.Nodup→l.length<4096
structure UOk (P:σ→Prop) (U:Unf σ):Prop where
 ok:∀ s∈U.sts,P s
 nd:U.sts.Nodup
 fr:kOf U.eds 1=some U.sts.length
variable {step} {eq:σ→σ→Bool} {lim:Bool} {P:σ→Prop}
theorem zeg (hF:Fin1 step eq lim P) {i:Nat} {s:σ} {ev:Int} {U:Unf σ} (hU:UOk P U) (hs:P s) (hi:i<U.sts.length) :
  if (step s ev).2.2≠0 then zbA eq lim step i s ev U = .error (step s ev).2.2 else ∃ r,zbA eq lim step i s ev U = .ok ⟨U.sts++r,U.mkl,U.eds++[ev].filterMap (eOf step (U.sts++r) i s)⟩ ∧
   UOk P ⟨U.sts++r,U.mkl,U.eds++[ev].filterMap (eOf step (U.sts++r) i s)⟩∧((step s ev).2.1=true→(step s ev).1∈U.sts++r):=by
 unfold zbA
 split
 ·rfl
 cases hp:(step s ev).2.1 with
 | false=>
  refine⟨[],?_,?_,fun h=>by cases h⟩
  ·simp[List.filterMap_cons,eOf,hp]
  ·simpa [List.filterMap_cons,eOf,hp] using hU
 | true=>
  have hn:=hF.step s ev hs hp
  have hq:U.sts.findIdx (eq (step s ev).1)=U.sts.findIdx (eqB (step s ev).1):=zbS fun x hx=>hF.eq _ _ hn (hU.ok x hx)
  rw[hq]
  simp only[Bool.true_eq_false,if_false]
  by_cases hm:(step s ev).1∈U.sts
  ·have hlt:U.sts.findIdx (eqB (step s ev).1)<U.sts.length:=zcr ⟨_,hm,by simp[eqB]⟩
   rw[if_pos hlt]
   have e1:[ev].filterMap (eOf step (U.sts++[]) i s)=[((i:Int),ev,((U.sts.findIdx (eqB (step s ev).1):Nat):Int))]:=by
    simp[List.filterMap_cons,eOf,hp]
   refine⟨[],?_,⟨?_,?_,?_⟩,fun _=>by simpa using hm⟩
   ·rw[e1,List.append_nil]
   ·simpa using hU.ok
   ·simpa using hU.nd
   ·show kOf (U.eds++_) 1=some (U.sts++[]).length
    rw[e1,zky,hU.fr,List.append_nil]
    simp only[Option.bind_some,kOf]
    rw[if_pos ⟨⟨by omega,by omega⟩,by omega,by omega⟩,if_neg (by omega)]
  ·have hno:U.sts.findIdx (eqB (step s ev).1)=U.sts.length:=za6 fun x hx=>by
    simp only[eqB,decide_eq_false_iff_not]
    exact fun e=>hm (e ▸ hx)
   have hnd:(U.sts++[(step s ev).1]).Nodup:=by
    unfold List.Nodup
    rw[List.pairwise_append]
    refine⟨hU.nd,List.pairwise_singleton _ _,fun a ha b hb=>?_⟩
    rw[List.mem_singleton] at hb
    subst hb
    exact fun e=>hm (e ▸ ha)
   have hok:∀ t∈U.sts++[(step s ev).1],P t:=by
    intro t ht
    rcases List.mem_append.1 ht with ht | ht
    ·exact hU.ok t ht
    ·rw[List.mem_singleton] at ht;subst ht;exact hn
   have hfew:¬ (lim=true∧U.sts.length=4096):=by
    rintro ⟨h1,h2⟩
    have:=hF.few h1 _ hok hnd
    simp only[List.length_append,List.length_singleton] at this
    omega
   rw[hno,if_neg (Nat.lt_irrefl _),if_neg hfew]
   have e2:(U.sts++[(step s ev).1]).findIdx (eqB (step s ev).1)=U.sts.length:=by
    have h:=zsy hnd (i:=U.sts.length) (by simp)
    simpa using h
   have e1:[ev].filterMap (eOf step (U.sts++[(step s ev).1]) i s)=[((i:Int),ev,((U.sts.length:Nat):Int))]:=by
    simp[List.filterMap_cons,eOf,hp,e2]
   refine⟨[(step s ev).1],?_,⟨hok,hnd,?_⟩,fun _=>by simp⟩
   ·rw[e1]
   ·show kOf (U.eds++_) 1=some (U.sts++_).length
    rw[e1,zky,hU.fr]
    simp only[Option.bind_some,kOf]
    rw[if_pos ⟨⟨by omega,by omega⟩,by omega,by omega⟩,if_pos True.intro]
    simp
theorem zdv (hF:Fin1 step eq lim P) {i:Nat} {s:σ} (hs:P s):∀ (l:List Int) {U:Unf σ},UOk P U→i<U.sts.length →
  (∃ ev∈l,(step s ev).2.2≠0∧zav eq lim step i s l U = .error (step s ev).2.2)∨∃ r,zav eq lim step i s l U = .ok ⟨U.sts++r,U.mkl,U.eds++l.filterMap (eOf step (U.sts++r) i s)⟩ ∧
   UOk P ⟨U.sts++r,U.mkl,U.eds++l.filterMap (eOf step (U.sts++r) i s)⟩∧∀ ev∈l,(step s ev).2.2=0∧((step s ev).2.1=true→(step s ev).1∈U.sts++r)
 | [],U,hU,_=>.inr ⟨[],by simp[zav],by simpa using hU,by simp⟩
 | ev::l,U,hU,hi=>by
  have h:=zeg hF (ev:=ev) hU hs hi
  by_cases he:(step s ev).2.2≠0
  ·rw[if_pos he] at h
   refine .inl ⟨ev,by simp,he,?_⟩
   simp only[zav,h]
  rw[if_neg he] at h
  obtain⟨r,h1,h2,h3⟩:=h
  simp only[zav,h1]
  have hi':i<(U.sts++r).length:=by rw[List.length_append];omega
  rcases zdv hF hs l h2 hi' with ⟨e,he1,he2,he3⟩ | ⟨r',h4,h5,h6⟩
  ·exact .inl ⟨e,by simp[he1],he2,he3⟩
  ·have e1:[ev].filterMap (eOf step (U.sts++r) i s)++l.filterMap (eOf step (U.sts++(r++r')) i s)=(ev::l).filterMap (eOf step (U.sts++(r++r')) i s):=by
    rw[← List.append_assoc U.sts r r']
    rw[zcf (g:=eOf step (U.sts++r++r') i s) (l:=[ev]) fun x hx=>by rw[List.mem_singleton] at hx;subst hx;exact (zqN step h3).symm]
    rw[← List.filterMap_append]
    rfl
   simp only[List.append_assoc] at h4 h5 h6
   rw[e1] at h4 h5
   refine .inr ⟨r++r',h4,h5,fun x hx=>?_⟩
   rcases List.mem_cons.1 hx with rfl | hx
   ·refine⟨by simpa using he,fun hp=>?_⟩
    rw[← List.append_assoc]
    exact List.mem_append_left _ (h3 hp)
   ·exact h6 x hx
structure UAt (mkd:σ→Bool) (alpha:List Int) (P:σ→Prop) (step:σ→Int→σ × Bool × Int) (i:Nat) (U:Unf σ):Prop extends UOk P U where
 le:i≤U.sts.length
 pos:0<U.sts.length
 eds:U.eds=(List.range i).flatMap fun k=>match U.sts[k]? with
  | none=>[]
  | some s=>alpha.filterMap (eOf step U.sts k s)
 mkl:U.mkl=((List.range i).filter fun k=>match U.sts[k]? with
  | none=>false
  | some s=>mkd s).map fun k=>((k:Nat):Int)
 fine:∀ k s,k<i→U.sts[k]? = some s→∀ ev∈alpha,(step s ev).2.2=0∧((step s ev).2.1=true→(step s ev).1∈U.sts)
def UBad (alpha:List Int) (P:σ→Prop) (step:σ→Int→σ × Bool × Int) (e:Int):Prop:=e≠0∧∃ s,P s∧∃ ev∈alpha,(step s ev).2.2=e
theorem zee {α β:Type} {f g:α→List β}:∀ {l:List α},(∀ x∈l,f x=g x)→l.flatMap f=l.flatMap g
 | [],_=>rfl
 | x::r,h=>by
  simp only[List.flatMap_cons,h x (by simp)]
  rw[zee (l:=r) fun y hy=>h y (by simp[hy])]
theorem zeX {α:Type} {f g:α→Bool}:∀ {l:List α},(∀ x∈l,f x=g x)→l.filter f=l.filter g
 | [],_=>rfl
 | x::r,h=>by
  simp only[List.filter_cons,h x (by simp)]
  rw[zeX (l:=r) fun y hy=>h y (by simp[hy])]
theorem zhh (hF:Fin1 step eq lim P) {alpha:List Int} {B:Nat} (hB:∀ l:List σ,(∀ s∈l,P s)→l.Nodup→l.length≤B):∀ (f i:Nat) {U:Unf σ},UAt mkd alpha P step i U→B<i+f →
  (∃ e,zbx eq lim step mkd alpha f i U = .error e∧UBad alpha P step e)∨∃ V,zbx eq lim step mkd alpha f i U = .ok V∧UAt mkd alpha P step V.sts.length V
 | 0,i,U,h,hf=>by
  have:=hB _ h.ok h.nd
  have:=h.le
  omega
 | f+1,i,U,h,hf=>by
  simp only[zbx]
  cases hs:U.sts[i]? with
  | none=>
   have hi:i=U.sts.length:=by
    have:=List.getElem?_eq_none_iff.1 hs
    have:=h.le
    omega
   subst hi
   exact .inr ⟨U,rfl,h⟩
  | some s=>
   obtain⟨hlt,e⟩:=List.getElem?_eq_some_iff.1 hs
   have hPs:P s:=h.ok s (e ▸ List.getElem_mem hlt)
   obtain⟨m1,m2⟩:=zb7 mkd i s U
   have hM:UOk P (zbk mkd i s U):=⟨by rw[m1];exact h.ok,by rw[m1];exact h.nd,by rw[m1,m2];exact h.fr⟩
   rcases zdv hF hPs alpha hM (i:=i) (by rw[m1];exact hlt) with ⟨ev,he1,he2,he3⟩ | ⟨r,h4,h5,h6⟩
   ·simp only[he3]
    exact .inl ⟨_,rfl,he2,s,hPs,ev,he1,rfl⟩
   ·simp only[h4]
    rw[m1,m2] at *
    refine zhh hF hB f (i+1) (U:=_) ⟨h5,?_,?_,?_,?_,?_⟩ (by omega)
    ·show i+1≤(U.sts++r).length
     simp only[List.length_append];omega
    ·show 0<(U.sts++r).length
     simp only[List.length_append];omega
    ·show U.eds++alpha.filterMap (eOf step (U.sts++r) i s)=(List.range (i+1)).flatMap fun k=>match (U.sts++r)[k]? with
      | none=>[]
      | some s=>alpha.filterMap (eOf step (U.sts++r) k s)
     rw[List.range_succ,List.flatMap_append,h.eds]
     congr 1
     ·apply zee
      intro k hk
      rw[List.mem_range] at hk
      have hkl:k<U.sts.length:=by omega
      rw[List.getElem?_append_left hkl,List.getElem?_eq_getElem hkl]
      simp only
      apply zcf
      intro x hx
      exact (zqN step (h.fine k _ hk (List.getElem?_eq_getElem hkl) x hx).2).symm
     ·simp only[List.flatMap_cons,List.flatMap_nil,List.append_nil]
      rw[List.getElem?_append_left hlt,hs]
    ·show (zbk mkd i s U).mkl=((List.range (i+1)).filter fun k=>match (U.sts++r)[k]? with
      | none=>false
      | some s=>mkd s).map fun k=>((k:Nat):Int)
     rw[List.range_succ,List.filter_append,List.map_append]
     have e1:((List.range i).filter fun k=>match (U.sts++r)[k]? with
      | none=>false
      | some s=>mkd s)=((List.range i).filter fun k=>match U.sts[k]? with
      | none=>false
      | some s=>mkd s):=zeX fun k hk=>by
       rw[List.mem_range] at hk
       rw[List.getElem?_append_left (by omega)]
     rw[e1,← h.mkl]
     have e2:(match (U.sts++r)[i]? with
      | none=>false
      | some s=>mkd s)=mkd s:=by
      rw[List.getElem?_append_left hlt,hs]
     simp only[List.filter_cons,List.filter_nil,e2]
     unfold zbk
     split <;> simp
    ·intro k t hk ht x hx
     show (step t x).2.2=0∧((step t x).2.1=true→(step t x).1∈U.sts++r)
     have ht:(U.sts++r)[k]? = some t:=ht
     by_cases hki:k=i
     ·subst hki
      rw[List.getElem?_append_left hlt,hs] at ht
      simp only[Option.some.injEq] at ht
      subst ht
      exact h6 x hx
     ·have hkl:k<i:=by omega
      rw[List.getElem?_append_left (by omega)] at ht
      have:=h.fine k t hkl ht x hx
      exact⟨this.1,fun hp=>List.mem_append_left _ (this.2 hp)⟩
theorem ziX (hF:Fin1 step eq lim P) {alpha:List Int} {first:σ} (h0:P first) {B:Nat} (hB:∀ l:List σ,(∀ s∈l,P s)→l.Nodup→l.length≤B) (hb:B<4097) :
  (∃ e,unfR eq lim step mkd alpha first = .error e∧UBad alpha P step e)∨∃ V,unfR eq lim step mkd alpha first = .ok V∧UAt mkd alpha P step V.sts.length V:=by
 refine zhh mkd hF hB 4097 0 ⟨⟨?_,?_,rfl⟩,Nat.zero_le _,Nat.zero_lt_succ _,rfl,rfl,fun k s hk=>absurd hk (Nat.not_lt_zero _)⟩ (by omega)
 ·intro s hs
  rw[unf0,List.mem_singleton] at hs
  subst hs
  exact h0
 ·simp[unf0]
theorem zhi {eq':σ→σ→Bool} {lim':Bool} (hF:Fin1 step eq lim P) (hF':Fin1 step eq' lim' P) {alpha:List Int}:∀ (f i:Nat) {U:Unf σ},UOk P U →
  zbx eq lim step mkd alpha f i U=zbx eq' lim' step mkd alpha f i U
 | 0,i,U,h=>rfl
 | f+1,i,U,h=>by
  simp only[zbx]
  cases hs:U.sts[i]? with
  | none=>rfl
  | some s=>
   obtain⟨hlt,e⟩:=List.getElem?_eq_some_iff.1 hs
   have hPs:P s:=h.ok s (e ▸ List.getElem_mem hlt)
   obtain⟨m1,m2⟩:=zb7 mkd i s U
   have hM:UOk P (zbk mkd i s U):=⟨by rw[m1];exact h.ok,by rw[m1];exact h.nd,by rw[m1,m2];exact h.fr⟩
   have same:∀ (l:List Int) {U:Unf σ},UOk P U→i<U.sts.length→zav eq lim step i s l U=zav eq' lim' step i s l U:=by
    intro l
    induction l with
    | nil=>intro U _ _;rfl
    | cons ev l ih=>
     intro U hU hi
     have h1:=zeg hF (ev:=ev) hU hPs hi
     have e1:zbA eq lim step i s ev U=zbA eq' lim' step i s ev U:=by
      unfold zbA
      split
      ·rfl
      split
      ·rfl
      rename_i hp
      have hp:(step s ev).2.1=true:=by simpa using hp
      have hn:=hF.step s ev hPs hp
      have hq:U.sts.findIdx (eq (step s ev).1)=U.sts.findIdx (eqB (step s ev).1):=zbS fun x hx=>hF.eq _ _ hn (hU.ok x hx)
      have hq':U.sts.findIdx (eq' (step s ev).1)=U.sts.findIdx (eqB (step s ev).1):=zbS fun x hx=>hF'.eq _ _ hn (hU.ok x hx)
      rw[hq,hq']
      split
      ·rfl
      have hc:∀ b:Bool,(b=true→∀ l:List σ,(∀ s∈l,P s)→l.Nodup→l.length<4096)→¬ (b=true∧U.sts.length=4096):=by
       rintro b hb ⟨h1,h2⟩
       have:=hb h1 _ hU.ok hU.nd
       omega
      rw[if_neg (hc lim hF.few),if_neg (hc lim' hF'.few)]
     simp only[zav,← e1]
     by_cases he:(step s ev).2.2≠0
     ·rw[if_pos he] at h1
      rw[h1]
     ·rw[if_neg he] at h1
      obtain⟨r,h2,h3,_⟩:=h1
      rw[h2]
      exact ih h3 (by simp only[List.length_append];omega)
   have e2:=same alpha hM (by rw[m1];exact hlt)
   simp only[← e2]
   rcases zdv hF hPs alpha hM (i:=i) (by rw[m1];exact hlt) with ⟨ev,he1,he2,he3⟩ | ⟨r,h4,h5,h6⟩
   ·simp only[he3]
   ·simp only[h4]
    exact zhi hF hF' f (i+1) h5
theorem zoU {eq':σ→σ→Bool} {lim':Bool} (hF:Fin1 step eq lim P) (hF':Fin1 step eq' lim' P) {alpha:List Int} {first:σ} (h0:P first) :
  unfR eq lim step mkd alpha first=unfR eq' lim' step mkd alpha first:=by
 refine zhi mkd hF hF' 4097 0 ⟨?_,?_,rfl⟩
 ·intro s hs
  rw[unf0,List.mem_singleton] at hs
  subst hs
  exact h0
 ·simp[unf0]
end
end Go.AI


namespace Go.AI
open Go.Proofs
set_option maxRecDepth 20000
def zax {α:Type} (p:α→Bool):List α→Nat→Int
 | [],_=>-1
 | x::r,i=>if p x then (i:Int) else zax p r (i+1)
theorem zkG (O:List Heap) (l:List Int) (f d nm:Nat) (p:Int→Bool) (hl:l.length≤zas) (hp:∀ x∈l,zan Tryz.prog f [ii x,.own (d+1) nm 0 0] ([]::O) (bb (p x)) [] ([]::O)) :
  zan Tryz.prog 104 [ints l,.fn (.func f) [] [.own d nm 0 0]] O (ii (zax p l 0)) [] O:=by
 refine zad Tk Tryz.func104 rfl Tryz.call104 Tryz.ntmps104 (Nat.le_of_ble_eq_true rfl) fun E=>?_
 refine zbH Tk Tryz.func104 ?_
 refine zdA (fun i:Nat=>[(0,ints l),(1,.fn (.func f) [] [.own (d+1) nm 0 0]),(6,ints l),(7,ii l.length),(8,ii i)]) (fun _=>[]::O) 19 (fun i=>i≤l.length∧zax p l 0=zax p (l.drop i) i) (fun i=>l.length - i) 0 ⟨Nat.zero_le _,rfl⟩ ⟨rfl,rfl,rfl,rfl,rfl,trivial⟩ rfl rfl ?_
 intro i ⟨hi,hno⟩ ih
 rw[hno]
 rw[hno] at ih
 refine zbH Tk Tryz.func104 ?_
 refine zeR Tk Tryz.func104 rfl (fun h1=>?_) (fun h1=>?_)
 ·have h1:i<l.length:=by simpa using h1
  have hd:l.drop i=l[i]::l.drop (i+1):=(List.drop_eq_getElem_cons h1)
  refine zeQ Tk Tryz.func104 (by omega) ?_
  refine zgv Tk Tryz.func104 (zaj h1) ?_
  refine zgw Tk Tryz.func104 (hp l[i] (List.getElem_mem h1)) rfl rfl rfl rfl rfl ?_
  refine zeR Tk Tryz.func104 rfl (fun h2=>?_) (fun h2=>?_)
  ·refine zbm (hT:=Tk) (r:=ii _) rfl rfl rfl trivial rfl rfl ?_
   rw[hd]
   simp only[zax]
   rw[if_pos h2]
  ·refine ih (i+1) _ ⟨h1,?_⟩ (by omega) ⟨rfl,rfl,rfl,rfl,congrArg ii (zaC h1 hl),trivial⟩ rfl rfl
   rw[hd]
   simp only[zax]
   rw[if_neg (by rw[h2];simp)]
 ·have h1:l.length≤i:=by simpa using h1
  refine zbm (hT:=Tk) (r:=ii _) rfl rfl rfl trivial rfl rfl ?_
  rw[List.drop_eq_nil_of_le h1]
  rfl
theorem zhI {α:Type} (p:α→Bool):∀ (l:List α) (i:Nat),decide (zax p l i ≥ 0)=l.any p
 | [],i=>by simp[zax]
 | x::r,i=>by
  by_cases h:p x=true
  ·have e:zax p (x::r) i=(i:Int):=if_pos h
   rw[List.any_cons,h,Bool.true_or,decide_eq_true_iff,e]
   omega
  ·have e:zax p (x::r) i=zax p r (i+1):=if_neg h
   have h':p x=false:=by simpa using h
   rw[List.any_cons,h',Bool.false_or,← zhI p r (i+1)]
   exact decide_eq_decide.2 (by rw[e])
theorem zcS (O:List Heap) (l:List Int) (f d nm:Nat) (p:Int→Bool) (hl:l.length≤zas) (hp:∀ x∈l,zan Tryz.prog f [ii x,.own (d+2) nm 0 0] ([]::[]::O) (bb (p x)) [] ([]::[]::O)) :
  zan Tryz.prog 47 [ints l,.fn (.func f) [] [.own d nm 0 0]] O (bb (l.any p)) [] O:=by
 refine zad Tk Tryz.func47 rfl Tryz.call47 Tryz.ntmps47 (Nat.le_of_ble_eq_true rfl) fun E=>?_
 refine zbH Tk Tryz.func47 ?_
 refine zgw Tk Tryz.func47 (zkG _ l f (d+1) nm p hl hp) rfl rfl rfl rfl rfl ?_
 refine zbm (hT:=Tk) (r:=bb _) rfl rfl rfl trivial rfl rfl ?_
 exact congrArg bb (zhI p l 0)
end Go.AI


namespace Go.AI
open Go.Proofs
set_option maxRecDepth 20000
def chr (b:ByteArray) (i:Nat):Int:=((b.data.toList.getD i 0).toNat:Int)
def zux (c:Int):Bool:=(decide (97≤c) && decide (c≤122)) || (decide (65≤c) && decide (c≤90)) || decide (c=95)
def zwE (i:Nat) (c:Int):Bool:=zux c || (decide (i≠0) && decide (48≤c) && decide (c≤57))
def zuE (b:ByteArray):Bool:=(List.range b.size).all (fun i=>zwE i (chr b i)) && decide (0<b.size) && decide (b.size≤32)
end Go.AI


namespace Go.AI
open Go.Proofs
set_option maxRecDepth 20000
structure Vr where
 name:ByteArray
 low:Int
 high:Int
 init:Int
def zu1 (ds:List Vr) (v:Vr):Option Int:=
 if zuE v.name=false then some 7
 else if ds.any (fun x=>x.name.toList==v.name.toList) then some 8
 else if large v.low || large v.high then some 2
 else if v.low>v.high then some 5
 else if v.init<v.low∨v.init>v.high then some 2
 else none
where large (a:Int):Bool:=decide (65536<a) || decide (a < -65536)
def zmK (all:List Vr):List Vr→Nat→Int
 | [],_=>0
 | v::r,i=>match zu1 (all.take i) v with
  | some e=>e
  | none=>zmK all r (i+1)
end Go.AI


namespace Go.AI
open Go.Proofs
set_option maxRecDepth 20000
end Go.AI


namespace Go.AI
open Go.Proofs
set_option maxRecDepth 20000
inductive Ex where
 | mk (op val idx:Int) (args:List Ex)
end Go.AI


namespace Go.AI
open Go.Proofs
set_option maxRecDepth 20000
end Go.AI


namespace Go.AI
open Go.Proofs
set_option maxRecDepth 20000
mutual
def exOk:Ex→Prop
 | .mk _ _ _ a=>a.length≤zas∧zvW a
def zvW:List Ex→Prop
 | []=>True
 | x::xs=>exOk x∧zvW xs
end
end Go.AI


namespace Go.AI
open Go.Proofs
set_option maxRecDepth 20000
def arity (x:Int):Int × Bool:=
 if x=0 then (0,true) else
 if x=1 then (0,true) else
 if x=5 then (1,true) else
 if x=10 then (1,true) else
 if x=2 then (2,true) else
 if x=3 then (2,true) else
 if x=4 then (2,true) else
 if x=6 then (2,true) else
 if x=7 then (2,true) else
 if x=8 then (2,true) else
 if x=9 then (2,true) else
 if x=11 then (2,true) else
 if x=12 then (2,true) else
 if x=13 then (3,true) else
 (0,false)
end Go.AI


namespace Go.AI
open Go.Proofs
set_option maxRecDepth 20000
def within (l:List Vr) (xs:List Int):Bool:=match l,xs with
 | [],[]=>true
 | v::r,x::ys=>decide (v.low≤x) && decide (x≤v.high) && within r ys
 | _,_=>false
end Go.AI


namespace Go.AI
theorem zdD:∀ {S:List Heap} {d nm:Nat} {ob:Ob} (d' n':Nat),zaa (setAt S d nm ob) d' n' = if d=d' ∧ nm=n' ∧ d<S.length then some ob else zaa S d' n'
 | [],d,nm,ob,d',n'=>by simp[setAt]
 | H::S,0,nm,ob,d',n'=>by
  cases d' with
  | zero=>
   simp only[setAt,zaa,List.getElem?_cons_zero,zab]
   by_cases h:nm=n' <;> simp[h]
  | succ d'=>simp[setAt,zaa]
 | H::S,d+1,nm,ob,d',n'=>by
  cases d' with
  | zero=>simp[setAt,zaa]
  | succ d'=>
   have:=zdD (S:=S) (d:=d) (nm:=nm) (ob:=ob) d' n'
   simp only[zaa] at this
   simp only[setAt,zaa,List.getElem?_cons_succ,this]
   simp
theorem zii {S:List Heap} {d nm:Nat} {ob:Ob} (h:zaa S d nm=some ob):d<S.length:=by
 unfold zaa at h
 cases e:S[d]? with
 | none=>simp[e] at h
 | some H=>exact (List.getElem?_eq_some_iff.1 e).1
theorem length_set:∀ {S:List Heap} {d nm:Nat} {ob:Ob},(setAt S d nm ob).length=S.length
 | [],d,nm,ob=>by simp[setAt]
 | H::S,0,nm,ob=>rfl
 | H::S,d+1,nm,ob=>by simp[setAt,length_set]
theorem zaG {S:List Heap} {d nm:Nat} {ob ob':Ob} (h:zaa S d nm=some ob):zaa (setAt S d nm ob') d nm=some ob':=by
 rw[zdD,if_pos ⟨rfl,rfl,zii h⟩]
theorem zhv {S:List Heap} {d nm:Nat} {a b:Ob} (d' n':Nat):zaa (setAt S d nm b) d' n' = zaa (setAt (setAt S d nm a) d nm b) d' n':=by
 simp only[zdD,length_set]
 by_cases h:d=d' ∧ nm=n' ∧ d<S.length
 ·rw[if_pos h,if_pos h]
 ·rw[if_neg h,if_neg h,if_neg h]
theorem zdC {S:List Heap} {d nm:Nat} {a:Ob} (h:zaa S d nm=some a) (d' n':Nat):zaa (setAt S d nm a) d' n' = zaa S d' n':=by
 rw[zdD]
 by_cases e:d=d' ∧ nm=n' ∧ d<S.length
 ·obtain⟨rfl,rfl,_⟩:=e
  rw[if_pos ⟨rfl,rfl,zii h⟩,h]
 ·rw[if_neg e]
theorem zi7 {S:List Heap} {d nm:Nat} {ob ob':Ob} (h:zaa S d nm=some ob) (hs:ob'.sh=ob.sh):shape (setAt S d nm ob')=shape S:=by
 funext d' n'
 simp only[shape,zdD]
 by_cases e:d=d' ∧ nm=n' ∧ d<S.length
 ·obtain⟨rfl,rfl,_⟩:=e
  rw[if_pos ⟨rfl,rfl,zii h⟩,h]
  simp[hs]
 ·rw[if_neg e]
theorem zaE {c:Cx} {todo:List Item} {s:St} {l:List (Nat × D)} {H Hv:Heap} {O:List Heap} {n:Nat} (h:Rch c todo { σ:=l,S:=Hv::O,n:=n }) (hs:Sub s l) (hS:s.S=H::O) (hH:SubH H Hv) (hok:zgn l Hv=true) (hn:s.n=n):Rch c todo s:=zcH hs hS hH hok hn h
theorem zcj {c:Cx} {todo:List Item} {s6:St} {G P:Prop} (h1:(P→Rch c todo s6)→G) (h2:P→Rch c todo s6):G:=h1 h2
theorem zdd {α β:Type} {f:α→β} {l:List α} {i:Nat} (h:i<l.length):(l.take (i+1)).map f=(l.take i).map f++[f l[i]]:=by
 rw[List.take_add_one,List.getElem?_eq_getElem h,List.map_append]
 rfl
theorem beqT {a b:Int} (h:(a==b)=true):a=b:=by simpa using h
theorem beqF {a b:Int} (h:(a==b)=false):a≠b:=by simpa using h
theorem bneT {a b:Int} (h:(a != b)=true):a≠b:=by simpa using h
theorem bneF {a b:Int} (h:(a != b)=false):a=b:=by simpa using h
theorem notT {b:Bool} (h:(!b)=true):b=false:=by simpa using h
theorem notF {b:Bool} (h:(!b)=false):b=true:=by simpa using h
theorem zaD {H:Heap} {S:List Heap} {d nm:Nat} {o:Ob} (h:zaa S d nm=some o):zaa (H::S) (d+1) nm=some o:=h
theorem zfg {H:Heap} {S S':List Heap} (h:∀ d n,zaa S' d n=zaa S d n) (d n:Nat):zaa (H::S') d n=zaa (H::S) d n:=by
 cases d with
 | zero=>rfl
 | succ d=>have:=h d n;simpa [zaa] using this
end Go.AI


namespace Go.AI
open Go.Proofs
set_option maxRecDepth 20000
def zmy (op v ix:Int) (len:Nat) (n:Int):Int:=
 if (arity op).2=false then 11 else
 if (len:Int)≠(arity op).1 then 4 else
 if (op≠0∧v≠0)∨(op≠1∧ix≠0) then 6 else
 if (op=0∧(65536<v∨v < -65536))∨(op=1∧(ix<0∨ix ≥ n)) then 2 else 0
mutual
def zqp:Ex→Int→Int→Int→Int × Int
 | .mk op v ix args,n,lvl,c=>
  if c=64∨lvl>8 then (3,c) else
  if zmy op v ix args.length n≠0 then (zmy op v ix args.length n,c+1) else ztz args n (lvl+1) (c+1)
def ztz:List Ex→Int→Int→Int→Int × Int
 | [],_,_,c=>(0,c)
 | e::r,n,lvl,c=>if (zqp e n lvl c).1≠0 then zqp e n lvl c else ztz r n lvl (zqp e n lvl c).2
end
end Go.AI


namespace Go.AI
section
variable {c:Cx} {s:St} {E:Env} {K:Kn} {ρ:Nat→Nat→Loc} {H:Heap} {O:List Heap} {w:World}
theorem HInv.rebox {b:Nat} {cs cs':List D} (hh:HInv E K ρ (H::O) w) (ho:look H b=some (.box cs)) (hc:∀ vs,RepDL K ρ (shape (H::O)) vs cs→RepDL K ρ (shape (H::O)) vs cs'):HInv E K ρ (((b,.box cs')::H)::O) w:=by
 have hsh:shape (((b,.box cs')::H)::O)=shape (H::O):=zbn ho rfl
 have hcase:∀ d n o,zaa (((b,.box cs')::H)::O) d n=some o→∃ o0,zaa (H::O) d n=some o0∧(o=o0∨(d=0∧n=b∧o = .box cs' ∧ o0 = .box cs))∧(∀ l,zar l o ↔ zar l o0):=by
  intro d n o e
  rcases zbX (ob:=.box cs) e with ⟨rfl,rfl,rfl⟩ | ⟨_,e2⟩
  ·exact⟨.box cs,by simpa [zaa] using ho,.inr ⟨rfl,rfl,rfl,rfl⟩,fun l=>Iff.rfl⟩
  ·exact⟨o,e2,.inl rfl,fun _=>Iff.rfl⟩
 refine⟨hh.holds,?_,?_,hh.size,?_,?_,hh.outer,hh.Kle,hh.Knew,hh.rest⟩
 ·intro d n o e
  obtain⟨o0,e0,h1,_⟩:=hcase d n o e
  have h0:=hh.own _ _ _ e0
  have hdr:shape ((((b,.box cs')::H)::O).drop d)=shape ((H::O).drop d):=by
   cases d with
   | zero=>exact hsh
   | succ d=>rfl
  rw[hdr]
  rcases h1 with rfl | ⟨rfl,rfl,rfl,rfl⟩
  ·exact h0
  ·obtain⟨cl,T,a1,a2,a3⟩:=h0
   have e2:(fun d n=>ρ (0+d) n)=ρ:=by funext d n;rw[Nat.zero_add]
   rw[e2] at a2 ⊢
   exact⟨cl,T,a1,hc _ a2,a3⟩
 ·intro d n o d' n' o' e e' b1 b2 hbe
  obtain⟨o1,e1,_,h1⟩:=hcase d n o e
  obtain⟨o2,e2,_,h2⟩:=hcase d' n' o' e'
  exact hh.inj _ _ _ _ _ _ e1 e2 ((h1 _).1 b1) ((h2 _).1 b2) hbe
 ·intro b' hb hno
  exact hh.old b' hb fun d n o e=>hno d n o (by simpa [zaa] using e)
 ·intro n o e hb
  obtain⟨o1,e1,_,h1⟩:=hcase 0 n o e
  exact hh.loc _ _ e1 ((h1 _).1 hb)
theorem RepDL.mid {K:Kn} {ρ:Nat→Nat→Loc} {sh:Nat→Nat→Option Sh} {d d':D} (h:∀ v,RepD K ρ sh v d→RepD K ρ sh v d'):∀ {a b:List D} {vs:List Value},RepDL K ρ sh vs (a++d::b)→RepDL K ρ sh vs (a++d' :: b)
 | [],b,_,.cons r rs=>.cons (h _ r) rs
 | _::a,b,_,.cons r rs=>.cons r (RepDL.mid (a:=a) h rs)
theorem zaR (b nm e z:Nat) {pre post:List D} (hS:s.S=H::O) (hb:look H b=some (.box (pre ++ .i (.v (.slice none 0 0))::post))) (hf:look H nm=none):Wk c s { σ:=s.σ,S:=((b,.box (pre ++ .osl 0 nm::post))::(nm,.arr e z 0 [] true)::H)::O,n:=s.n }:=by
 intro K ρ a w hi
 have hh:=hi.h
 rw[hS] at hh
 let l0:Loc:=⟨0,0,none⟩
 have hown:∀ ρ' sh',OwnAt K ρ' sh' w l0 (.arr e z 0 [] true):=fun ρ' sh'=>⟨by simp,rfl,Nat.le_refl _,by simp[l0],.inl ⟨rfl,rfl⟩⟩
 have hg:Grow K ρ (H::O) w [(nm,.arr e z 0 [] true)] K (upd ρ nm l0) w:=by
  refine⟨K.le_refl,fun _ _ _ h=>.inl h,Nat.le_refl _,fun _ _=>rfl,⟨rfl,rfl,rfl⟩,fun d n' h=>?_,hh.holds,fun n' ob e'=>?_,fun n1 o1 n2 o2 e1 e2 b1 b2 _=>?_⟩
  ·refine zaI _ _ _ (h.imp id fun h e'=>?_)
   subst e'
   simp[zab] at h
  ·obtain⟨rfl,rfl⟩:=zaN e'
   rw[zaJ]
   exact⟨hown _ _,fun hb=>absurd rfl hb⟩
  ·obtain⟨rfl,rfl⟩:=zaN e1
   obtain⟨rfl,rfl⟩:=zaN e2
   rfl
 obtain⟨hI,hst⟩:=HInv.grow (S:=H::O) rfl hh (fun _ _ _ e=>e) (fun n' h=>by
  cases hl:look [(nm,Ob.arr e z 0 [] true)] n' with
  | none=>exact absurd hl h
  | some ob=>obtain⟨rfl,rfl⟩:=zaN hl;exact hf) hg
 have hbn:nm≠b:=fun e'=>by subst e';rw[hf] at hb;cases hb
 have hb':look ((nm,Ob.arr e z 0 [] true)::H) b=some (.box (pre ++ .i (.v (.slice none 0 0))::post)):=by rw[zab,if_neg hbn];exact hb
 have hI2:HInv c.E K (upd ρ nm l0) (((b,.box (pre ++ .osl 0 nm::post))::(nm,.arr e z 0 [] true)::H)::O) w:=by
  refine HInv.rebox hI hb' fun vs hv=>hv.mid fun v h1=>?_
  rw[zaL h1]
  have:=RepD.osl (K:=K) (ρ:=upd ρ nm l0) (sh:=shape (((nm,Ob.arr e z 0 [] true)::H)::O)) (dep:=0) (nm:=nm) (es:=z) (len:=0) (by simp[shape,zaa,zab,Ob.sh])
  rw[zaJ] at this
  exact this
 have hsh:shape (((b,.box (pre ++ .osl 0 nm::post))::(nm,.arr e z 0 [] true)::H)::O)=shape (((nm,Ob.arr e z 0 [] true)::H)::O):=zbn hb' rfl
 refine⟨K,upd ρ nm l0,hI2,hi.defers,hi.size,fun t' d e'=>?_⟩
 have:=hi.slots _ _ e'
 rw[hS] at this
 show RepD K _ (shape (((b,.box (pre ++ .osl 0 nm::post))::(nm,.arr e z 0 [] true)::H)::O)) _ _
 rw[hsh]
 exact this.stays hst
theorem zoN (b nm e z:Nat) (hS:s.S=H::O) (hb:look H b=some (.box [.i (.v (.slice none 0 0))])) (hf:look H nm=none):Wk c s { σ:=s.σ,S:=((b,.box [.osl 0 nm])::(nm,.arr e z 0 [] true)::H)::O,n:=s.n }:=zaR b nm e z (pre:=[]) (post:=[]) hS hb hf
end
end Go.AI


namespace Go.AI
open Go.Proofs
set_option maxRecDepth 20000
def zvG (op:Int) (l:List Int):Int:=
 if op=0∨op=1 then 1 else
 if op=2∨op=3∨op=4∨op=5 then (if l.all (· = 1) then 1 else 0) else
 if op=6∨op=7∨op=8∨op=9 then (if l.all (· = 1) then 2 else 0) else
 if op=10∨op=11∨op=12 then (if l.all (· = 2) then 2 else 0) else
 if op=13 then (if l.getD 0 0=2∧l.getD 1 0=l.getD 2 0 then l.getD 1 0 else 0) else 0
mutual
def zss:Ex→Int
 | .mk op _ _ args=>match ztt args with
  | some l=>zvG op l
  | none=>0
def ztt:List Ex→Option (List Int)
 | []=>some []
 | e::r=>if zss e=0 then none else (ztt r).map (zss e :: ·)
end
theorem zaO (l:List Int) (k:Int):Ob.arr 3 1 (l.length+1) ((l.map fun x=>[vi x])++[[vi k]]) true=zat (l++[k]):=by
 simp
end Go.AI


namespace Go.AI
open Go.Proofs
set_option maxRecDepth 20000
abbrev tr (p:Prop) [Decidable p]:Int:=if p then 1 else 0
def ap2 (op a b:Int):Int:=
 if op=2 then a+b else if op=3 then a - b else if op=4 then a * b else
 if op=6 then tr (a=b) else if op=7 then tr (a≠b) else if op=8 then tr (a<b) else if op=9 then tr (a≤b) else
 if op=11 then a * b else if a=0 then b else a
def ap1 (op a:Int):Int:=if op=5 then -a else 1 - a
def ztO (op:Int):List Int→Int
 | [a]=>ap1 op a
 | [a,b]=>ap2 op a b
 | _=>0
def zjV (x:Ex) (n:Int):Int × Int:=
 if n<0∨n>16 then (0,2) else if (zqp x n 1 0).1≠0 then (0,(zqp x n 1 0).1) else if zss x=0 then (0,16) else (zss x,0)
def zi1 (x:Ex) (n kind:Int):Int:=if (zjV x n).2=0∧(zjV x n).1≠kind then 16 else (zjV x n).2
end Go.AI


namespace Go.AI
open Go.Proofs
set_option maxRecDepth 20000
abbrev zts (a b:Int):Bool:=decide (b<a) || decide (a < -b)
mutual
def zjL (vals:List Int):Ex→Int × Bool
 | .mk op v ix args=>
  if op=0 then (v,true) else if op=1 then (vals.getD ix.toNat 0,true) else if op=13 then zwz vals args else
  match ztC vals args with
  | none=>(0,false)
  | some l=>(ztO op l,!zts (ztO op l) 1073741824)
def zwz (vals:List Int):List Ex→Int × Bool
 | [c,a,b]=>if (zjL vals c).2=false then (0,false) else if (zjL vals c).1=1 then zjL vals a else zjL vals b
 | _=>(0,false)
def ztC (vals:List Int):List Ex→Option (List Int)
 | []=>some []
 | e::r=>if (zjL vals e).2=false then none else (ztC vals r).map ((zjL vals e).1 :: ·)
end
section
variable {n:Int} {vals:List Int} (hn:(vals.length:Int)=n) (hv:∀ x∈vals,-65536≤x∧x≤65536)
include hn hv
end
end Go.AI


namespace Go.AI
open Go.Proofs
set_option maxRecDepth 20000
def zod (x:Ex) (vals:List Int):Int × Int:=
 if (zjV x vals.length).2≠0 then (0,(zjV x vals.length).2) else
 if vals.any (fun n=>zts n 65536) then (0,2) else
 if (zjL vals x).2=false then (0,17) else ((zjL vals x).1,0)
end Go.AI


namespace Go.AI
open Go.Proofs
set_option maxRecDepth 20000
structure Upd where
 v:Int
 x:Ex
structure Mv where
 frm:Int
 ev:Int
 to:Int
 g:Ex
 us:List Upd
structure Ext where
 alpha:List Int
 locs:Int
 init:Int
 marked:List Int
 vars:List Vr
 moves:List Mv
structure Sta where
 loc:Int
 vals:List Int
def mvOk (x:Mv):Prop:=exOk x.g∧x.us.length≤zas∧∀ u∈x.us,exOk u.x
structure extOk (m:Ext):Prop where
 al:m.alpha.length≤zas
 ma:m.marked.length≤zas
 va:m.vars.length≤zas
 na:∀ v∈m.vars,v.name.size≤zas
 mo:m.moves.length≤zas
 mv:∀ x∈m.moves,mvOk x
def zoT (n:Int):Option Int→List Upd→Int
 | _,[]=>0
 | prev,u::r=>if u.v<0∨u.v ≥ n then 2 else if prev.any (u.v ≤ ·) then 5 else if zi1 u.x n 1≠0 then zi1 u.x n 1 else zoT n (some u.v) r
def zvw (m:Ext) (prev:Option Mv) (x:Mv):Int:=
 if x.frm<0∨x.frm ≥ m.locs∨x.to<0∨x.to ≥ m.locs then 2 else
 if x.ev ∉ m.alpha then 9 else
 if prev.any (fun p=>decide (x.frm<p.frm∨(x.frm=p.frm∧x.ev<p.ev))) then 5 else
 if zi1 x.g m.vars.length 2≠0 then zi1 x.g m.vars.length 2 else zoT m.vars.length none x.us
end Go.AI


namespace Go.AI
open Go.Proofs
set_option maxRecDepth 20000
theorem zam {n:Int}:∀ {l:List Int} {p:Option Int},zal n l p=0→l.Pairwise (· < ·)∧(∀ x∈l,0≤x∧x<n)∧∀ y,p=some y→∀ x∈l,y<x
 | [],p,_=>⟨.nil,by simp,by simp⟩
 | x::r,p,h=>by
  simp only[zal] at h
  by_cases h1:x<0∨x ≥ n
  ·rw[if_pos h1] at h;cases h
  rw[if_neg h1] at h
  by_cases h2:p.any (x ≤ ·)=true
  ·rw[if_pos h2] at h;cases h
  rw[if_neg h2] at h
  obtain⟨a,b,c⟩:=zam h
  refine⟨List.pairwise_cons.2 ⟨c x rfl,a⟩,fun y hy=>?_,fun y hp z hz=>?_⟩
  ·rcases List.mem_cons.1 hy with rfl | hy
   ·omega
   ·exact b y hy
  ·subst hp
   have hyx:y<x:=by simpa using h2
   rcases List.mem_cons.1 hz with rfl | hz
   ·exact hyx
   ·have:=c x rfl z hz;omega
def zj5 (l:List Vr):Int:=if l.length>16 then 3 else zmK l l 0
def ztm (m:Ext):Option Mv→List Mv→Int
 | _,[]=>0
 | prev,x::r=>if zvw m prev x≠0 then zvw m prev x else ztm m (some x) r
def chk (m:Ext):Int:=
 if zal 32 m.alpha none≠0 then zal 32 m.alpha none else
 if m.locs<1∨m.locs>64∨m.init<0∨m.init ≥ m.locs then 2 else
 if zal m.locs m.marked none≠0 then zal m.locs m.marked none else
 if zj5 m.vars≠0 then zj5 m.vars else
 if m.moves.length>256 then 3 else ztm m none m.moves
end Go.AI


namespace Go.AI
abbrev Edg:=Int × Int × Int
structure Aut where
 alpha:List Int
 states:Int
 marked:List Int
 edges:List Edg
abbrev edgI (e:Edg):List I:=[vi e.1,vi e.2.1,vi e.2.2]
abbrev edgs (l:List Edg):D:=.i (.sl 3 l.length (l.map edgI))
abbrev autD (a:Aut):D:=.agg [ints a.alpha,ii a.states,ints a.marked,edgs a.edges]
abbrev autC (a:Aut):List D:=[ints a.alpha,ii a.states,ints a.marked,edgs a.edges]
def zcA (alpha:List Int) (n:Int):Option Edg→List Edg→Int
 | _,[]=>0
 | prev,x::r=>if x.1<0∨x.1 ≥ n∨x.2.2<0∨x.2.2 ≥ n then 2 else if x.2.1 ∉ alpha then 9 else
  if prev.any (fun y=>decide (x.1<y.1∨x.1=y.1∧x.2.1≤y.2.1))=true then 5 else zcA alpha n (some x) r
def chkA (a:Aut):Int:=if zal 32 a.alpha none≠0 then zal 32 a.alpha none else if a.states<0 then 2 else if a.states>4096 then 3 else
 if zal a.states a.marked none≠0 then zal a.states a.marked none else zcA a.alpha a.states none a.edges
def ltE (x y:Edg):Prop:=x.1<y.1∨x.1=y.1∧x.2.1<y.2.1
theorem zpZ {x y z:Edg} (h:ltE x y) (h':ltE y z):ltE x z:=by
 unfold ltE at *
 omega
theorem ze1 {alpha:List Int} {n:Int}:∀ {l:List Edg} {p:Option Edg},l.Pairwise ltE→(∀ x∈l,(0≤x.1∧x.1<n)∧(0≤x.2.2∧x.2.2<n)∧x.2.1∈alpha)→(∀ y,p=some y→∀ x∈l,ltE y x)→zcA alpha n p l=0
 | [],_,_,_,_=>rfl
 | x::r,p,hp,hb,hy=>by
  rw[List.pairwise_cons] at hp
  have hx:=hb x (by simp)
  simp only[zcA]
  rw[if_neg (by omega),if_neg (by simpa using hx.2.2),if_neg]
  ·exact ze1 hp.2 (fun z hz=>hb z (by simp[hz])) (fun y e z hz=>by cases e;exact hp.1 z hz)
  ·cases p with
   | none=>simp
   | some y=>
    have:=hy y rfl x (by simp)
    unfold ltE at this
    simp only[Option.any_some,decide_eq_true_eq]
    omega
theorem zaX {alpha:List Int} {n:Int}:∀ {l:List Edg} {p:Option Edg},zcA alpha n p l=0→l.Pairwise ltE∧(∀ x∈l,(0≤x.1∧x.1<n)∧(0≤x.2.2∧x.2.2<n)∧x.2.1∈alpha)∧∀ y,p=some y→∀ x∈l,ltE y x
 | [],p,_=>⟨.nil,by simp,by simp⟩
 | x::r,p,h=>by
  simp only[zcA] at h
  split at h
  ·cases h
  rename_i h1
  split at h
  ·cases h
  rename_i h2
  split at h
  ·cases h
  rename_i h3
  obtain⟨i1,i2,i3⟩:=zaX h
  refine⟨List.pairwise_cons.2 ⟨fun z hz=>i3 x rfl z hz,i1⟩,?_,?_⟩
  ·intro z hz
   rcases List.mem_cons.1 hz with rfl | hz
   ·exact⟨by omega,by omega,by simpa using h2⟩
   ·exact i2 z hz
  ·rintro y rfl z hz
   simp only[Option.any_some,decide_eq_true_eq] at h3
   have hxy:ltE y x:=by unfold ltE;omega
   rcases List.mem_cons.1 hz with rfl | hz
   ·exact hxy
   ·exact zpZ hxy (i3 x rfl z hz)
def lowE (l:List Edg) (s:Int):Nat:=l.findIdx fun e=>decide (s≤e.1)
def zdw (l:List Edg):Prop:=l.Pairwise fun x y=>x.1≤y.1
theorem zdV {l:List Edg} (h:l.Pairwise ltE):zdw l:=h.imp fun {a b} h=>by unfold ltE at h;omega
theorem zer (l:List Edg) (s:Int):lowE l s≤l.length:=findIdx_le
theorem zgz {l:List Edg} {s:Int} {j:Nat} (h:j<lowE l s) (hj:j<l.length):l[j].1<s:=by
 have:=List.not_of_lt_findIdx h
 simp only[decide_eq_false_iff_not] at this
 omega
theorem zir {l:List Edg} {s:Int} (hs:zdw l) {j:Nat} (h:lowE l s≤j) (hj:j<l.length):s≤l[j].1:=by
 have hl:lowE l s<l.length:=by omega
 have h0:decide (s≤(l[lowE l s]).1)=true:=List.findIdx_getElem (p:=fun e:Edg=>decide (s≤e.1)) (w:=hl)
 have h0:=of_decide_eq_true h0
 rcases Nat.lt_or_eq_of_le h with h | h
 ·have:=(List.pairwise_iff_getElem.1 hs) _ _ hl hj h
  omega
 ·simp only[h] at h0
  exact h0
theorem zjx {l:List Edg} (hs:zdw l) {s t:Int} (h:s≤t):lowE l s≤lowE l t:=by
 rcases Nat.lt_or_ge (lowE l t) (lowE l s) with h1 | h1
 ·have hl:lowE l t<l.length:=by have:=zer l s;omega
  have a:=zgz h1 hl
  have b:=zir hs (Nat.le_refl _) hl
  omega
 ·exact h1
def outR (l:List Edg) (s:Int):List Edg:=(l.take (lowE l (s+1))).drop (lowE l s)
theorem zd1 (l:List Edg) (s:Int):(outR l s).length=lowE l (s+1) - lowE l s:=by
 have:=zer l (s+1)
 unfold outR
 rw[List.length_drop,List.length_take]
 omega
theorem zmk {l:List Edg} {s:Int} {j:Nat} (h:j<(outR l s).length):∃ h':lowE l s+j<l.length,(outR l s)[j]=l[lowE l s+j]:=by
 have h1:=zd1 l s
 have:=zer l (s+1)
 refine⟨by omega,?_⟩
 simp only[outR,List.getElem_drop,List.getElem_take]
theorem zml {l:List Edg} (hs:zdw l) {s:Int}:∀ x∈outR l s,x.1=s:=by
 intro x hx
 obtain⟨j,hj,rfl⟩:=List.getElem_of_mem hx
 obtain⟨h',e⟩:=zmk hj
 rw[e]
 have h1:=zir hs (Nat.le_add_right (lowE l s) j) h'
 have h2:=zgz (s:=s+1) (j:=lowE l s+j) (by rw[zd1] at hj;omega) h'
 omega
theorem zsf {l:List Edg} (hs:zdw l) {x:Edg} (hx:x∈l):x∈outR l x.1:=by
 obtain⟨j,hj,rfl⟩:=List.getElem_of_mem hx
 have h1:lowE l (l[j]).1≤j:=by
  rcases Nat.lt_or_ge j (lowE l (l[j]).1) with h | h
  ·have:=zgz h hj;omega
  ·exact h
 have h2:j<lowE l ((l[j]).1+1):=by
  rcases Nat.lt_or_ge j (lowE l ((l[j]).1+1)) with h | h
  ·exact h
  ·have:=zir hs h hj;omega
 have hlen:j - lowE l (l[j]).1<(outR l (l[j]).1).length:=by rw[zd1];omega
 obtain⟨h',e⟩:=zmk hlen
 rw[List.mem_iff_getElem]
 refine⟨_,hlen,?_⟩
 rw[e]
 congr 1
 omega
theorem zmj {l:List Edg} {s:Int}:∀ x∈outR l s,x∈l:=fun x hx=>List.mem_of_mem_take (List.mem_of_mem_drop hx)
end Go.AI


namespace Go.AI
def mrgR (k:Bool→Bool→Bool) (a b:List Int):List Int:=match a,b with
 | [],[]=>[]
 | x::a,[]=>(if k true false=true then [x] else [])++mrgR k a []
 | [],y::b=>(if k false true=true then [y] else [])++mrgR k [] b
 | x::a,y::b=>if x<y then (if k true false=true then [x] else [])++mrgR k a (y::b) else if y<x then (if k false true=true then [y] else [])++mrgR k (x::a) b else (if k true true=true then [x] else [])++mrgR k a b
termination_by a.length+b.length
theorem zbO (k:Bool→Bool→Bool):∀ (n:Nat) (a b:List Int),a.length+b.length≤n→a.Pairwise (· < ·)→b.Pairwise (· < ·) →
  (∀ x,x∈mrgR k a b ↔ (x∈a∨x∈b)∧k (decide (x∈a)) (decide (x∈b))=true)∧(mrgR k a b).Pairwise (· < ·)∧(mrgR k a b).length≤a.length+b.length
 | n,[],[],_,_,_=>by rw[mrgR];simp
 | 0,_::_,_,h,_,_=>by simp at h
 | 0,[],_::_,h,_,_=>by simp at h
 | n+1,x::a,[],h,ha,hb=>by
  rw[List.pairwise_cons] at ha
  obtain⟨h1,h2,h3⟩:=zbO k n a [] (by simp at h ⊢;omega) ha.2 hb
  have hx:x ∉ a:=fun hx=>by have:=ha.1 x hx;omega
  rw[mrgR]
  refine⟨fun z=>?_,?_,?_⟩
  ·rw[List.mem_append,h1]
   by_cases e:z=x
   ·subst e;cases hk:k true false <;> simp[hx,hk]
   ·have:¬ z∈(if k true false=true then [x] else []):=by split <;> simp[e]
    simp[this,e]
  ·rw[List.pairwise_append]
   refine⟨by split <;> simp,h2,fun p hp q hq=>?_⟩
   have hp:p=x:=by split at hp <;> simp at hp;exact hp
   subst hp
   exact ha.1 q (by have:=((h1 q).1 hq).1;simpa using this)
  ·rw[List.length_append]
   have:(if k true false=true then [x] else []).length≤1:=by split <;> simp
   simp at h3 ⊢
   omega
 | n+1,[],y::b,h,ha,hb=>by
  rw[List.pairwise_cons] at hb
  obtain⟨h1,h2,h3⟩:=zbO k n [] b (by simp at h ⊢;omega) ha hb.2
  have hx:y ∉ b:=fun hx=>by have:=hb.1 y hx;omega
  rw[mrgR]
  refine⟨fun z=>?_,?_,?_⟩
  ·rw[List.mem_append,h1]
   by_cases e:z=y
   ·subst e;cases hk:k false true <;> simp[hx,hk]
   ·have:¬ z∈(if k false true=true then [y] else []):=by split <;> simp[e]
    simp[this,e]
  ·rw[List.pairwise_append]
   refine⟨by split <;> simp,h2,fun p hp q hq=>?_⟩
   have hp:p=y:=by split at hp <;> simp at hp;exact hp
   subst hp
   exact hb.1 q (by have:=((h1 q).1 hq).1;simpa using this)
  ·rw[List.length_append]
   have:(if k false true=true then [y] else []).length≤1:=by split <;> simp
   simp at h3 ⊢
   omega
 | n+1,x::a,y::b,h,ha',hb'=>by
  have ha:=List.pairwise_cons.1 ha'
  have hb:=List.pairwise_cons.1 hb'
  have hxa:x ∉ a:=fun hx=>by have:=ha.1 x hx;omega
  have hyb:y ∉ b:=fun hx=>by have:=hb.1 y hx;omega
  rw[mrgR]
  by_cases c1:x<y
  ·rw[if_pos c1]
   obtain⟨h1,h2,h3⟩:=zbO k n a (y::b) (by simp at h ⊢;omega) ha.2 hb'
   have hxb:x ∉ y::b:=fun hx=>by
    rcases List.mem_cons.1 hx with rfl | hx
    ·omega
    ·have:=hb.1 x hx;omega
   refine⟨fun z=>?_,?_,?_⟩
   ·rw[List.mem_append,h1]
    by_cases e:z=x
    ·subst e;cases hk:k true false <;> simp[hxa,hxb,hk]
    ·have:¬ z∈(if k true false=true then [x] else []):=by split <;> simp[e]
     simp[this,e]
   ·rw[List.pairwise_append]
    refine⟨by split <;> simp,h2,fun p hp q hq=>?_⟩
    have hp:p=x:=by split at hp <;> simp at hp;exact hp
    subst hp
    rcases ((h1 q).1 hq).1 with hq | hq
    ·exact ha.1 q hq
    ·rcases List.mem_cons.1 hq with rfl | hq
     ·exact c1
     ·have:=hb.1 q hq;omega
   ·rw[List.length_append]
    have:(if k true false=true then [x] else []).length≤1:=by split <;> simp
    simp at h3 ⊢
    omega
  ·rw[if_neg c1]
   by_cases c2:y<x
   ·rw[if_pos c2]
    obtain⟨h1,h2,h3⟩:=zbO k n (x::a) b (by simp at h ⊢;omega) ha' hb.2
    have hya:y ∉ x::a:=fun hx=>by
     rcases List.mem_cons.1 hx with rfl | hx
     ·omega
     ·have:=ha.1 y hx;omega
    refine⟨fun z=>?_,?_,?_⟩
    ·rw[List.mem_append,h1]
     by_cases e:z=y
     ·subst e;cases hk:k false true <;> simp[hya,hyb,hk]
     ·have:¬ z∈(if k false true=true then [y] else []):=by split <;> simp[e]
      simp[this,e]
    ·rw[List.pairwise_append]
     refine⟨by split <;> simp,h2,fun p hp q hq=>?_⟩
     have hp:p=y:=by split at hp <;> simp at hp;exact hp
     subst hp
     rcases ((h1 q).1 hq).1 with hq | hq
     ·rcases List.mem_cons.1 hq with rfl | hq
      ·exact c2
      ·have:=ha.1 q hq;omega
     ·exact hb.1 q hq
    ·rw[List.length_append]
     have:(if k false true=true then [y] else []).length≤1:=by split <;> simp
     simp at h3 ⊢
     omega
   ·rw[if_neg c2]
    have e:x=y:=by omega
    subst e
    obtain⟨h1,h2,h3⟩:=zbO k n a b (by simp at h ⊢;omega) ha.2 hb.2
    refine⟨fun z=>?_,?_,?_⟩
    ·rw[List.mem_append,h1]
     by_cases e:z=x
     ·subst e;cases hk:k true true <;> simp[hxa,hyb,hk]
     ·have:¬ z∈(if k true true=true then [x] else []):=by split <;> simp[e]
      simp[this,e]
    ·rw[List.pairwise_append]
     refine⟨by split <;> simp,h2,fun p hp q hq=>?_⟩
     have hp:p=x:=by split at hp <;> simp at hp;exact hp
     subst hp
     rcases ((h1 q).1 hq).1 with hq | hq
     ·exact ha.1 q hq
     ·exact hb.1 q hq
    ·rw[List.length_append]
     have:(if k true true=true then [x] else []).length≤1:=by split <;> simp
     simp at h3 ⊢
     omega
theorem zdU:∀ {a b:List Int},a.Pairwise (· < ·)→b.Pairwise (· < ·)→(∀ x,x∈a ↔ x∈b)→a=b
 | [],[],_,_,_=>rfl
 | [],y::b,_,_,h=>absurd ((h y).2 (by simp)) (by simp)
 | x::a,[],_,_,h=>absurd ((h x).1 (by simp)) (by simp)
 | x::a,y::b,ha,hb,h=>by
  rw[List.pairwise_cons] at ha hb
  have hxy:x=y:=by
   have h1:=(h x).1 (by simp)
   have h2:=(h y).2 (by simp)
   rcases List.mem_cons.1 h1 with e | e1
   ·exact e
   rcases List.mem_cons.1 h2 with e | e2
   ·exact e.symm
   have:=hb.1 x e1
   have:=ha.1 y e2
   omega
  subst hxy
  rw[zdU ha.2 hb.2 fun z=>?_]
  have hz:=h z
  simp only[List.mem_cons] at hz
  constructor
  ·intro m
   rcases hz.1 (.inr m) with e | e
   ·have:=ha.1 z m;omega
   ·exact e
  ·intro m
   rcases hz.2 (.inr m) with e | e
   ·have:=hb.1 z m;omega
   ·exact e
abbrev orK (p q:Bool):Bool:=p || q
abbrev minK (p q:Bool):Bool:=p && !q
theorem zpV {a b:List Int} (ha:a.Pairwise (· < ·)) (hb:b.Pairwise (· < ·)) (x:Int):x∈mrgR orK a b ↔ x∈a∨x∈b:=by
 rw[(zbO orK _ a b (Nat.le_refl _) ha hb).1]
 simp[orK]
theorem zsk {a:List Int} (ha:a.Pairwise (· < ·)):mrgR orK a a=a:=
 zdU (zbO orK _ a a (Nat.le_refl _) ha ha).2.1 ha fun x=>by rw[zpV ha ha];simp
theorem zun {a:List Int} (ha:a.Pairwise (· < ·)):mrgR orK [] a=a:=
 zdU (zbO orK _ [] a (Nat.le_refl _) .nil ha).2.1 ha fun x=>by rw[zpV .nil ha];simp
theorem zpU {a b:List Int} (ha:a.Pairwise (· < ·)) (hb:b.Pairwise (· < ·)):(mrgR minK a b).length=0 ↔ ∀ x∈a,x∈b:=by
 have h:=(zbO minK _ a b (Nat.le_refl _) ha hb).1
 rw[List.length_eq_zero_iff]
 constructor
 ·intro e x hx
  have:=h x
  rw[e] at this
  simp only[List.not_mem_nil,false_iff,not_and,minK] at this
  have:=this (.inl hx)
  simpa [hx] using this
 ·intro hs
  rw[List.eq_nil_iff_forall_not_mem]
  intro x hx
  have:=(h x).1 hx
  simp only[minK,Bool.and_eq_true,decide_eq_true_eq,Bool.not_eq_true',decide_eq_false_iff_not] at this
  exact this.2.2 (hs x this.2.1)
end Go.AI
