/- The layer of abstract runs, part 3. -/
import Derived.Test.YtnojpbbaohoadaaGreatDoorElkB
set_option linter.unusedSimpArgs false
set_option linter.unusedVariables false
set_option linter.all false
set_option maxHeartbeats 4000000
namespace Go.AI
inductive TK where
 |sc
 |str
 |bool
 |int (k:IntKind)
 |slice (e:Nat)
 |ptr (e:Nat)
 |struct (fs:List (Nat×Nat×Bool))
 |arr (n e:Nat)
 |map (k e:Nat)
def TK.agg:TK→Bool
 |.struct _|.arr _ _=>true
 |_=>false
structure TI where
 size:Nat
 bytes:Nat
 k:TK
 zero:List Value
 cmp:List TK:=[]
abbrev TT:=List (Nat×TI)
def TK.kk:TK→Option KK
 |.str=>some .str
 |.int k=>some (.int k)
 |_=>none
def TK.isKK:TK→KK→Bool
 |.str,.str=>true
 |.int k,.int k'=>decide (k=k')
 |_,_=>false
def TK.mc:TK→Option MC
 |.bool=>some (.b [])
 |.int k=>some (.i k [])
 |_=>none
def TI.kk (i:TI):Option KK:=match i.k.kk with
 |some x=>some x
 |none=>match i.cmp with
  |[.int k1,.int k2]=>bif decide (k1=k2) then some (.pair k1) else none
  |_=>none
def TI.isKK (i:TI):KK→Bool
 |.pair k=>match i.cmp with
  |[.int k1,.int k2]=>decide (k1=k)&&decide (k2=k)
  |_=>false
 |kk=>i.k.isKK kk
def D.keyOf:D→Option Value
 |.i (.v x)=>some x
 |.agg [.i (.v (.int k a)),.i (.v (.int k' b))]=>some (.agg ⟨[.int k a,.int k' b]⟩)
 |_=>none
def zgi:List Value→Bool
 |[.bool false]=>true
 |_=>false
def ziW (k:IntKind):List Value→Bool
 |[.int k' 0]=>decide (k=k')
 |_=>false
def keyB:Value→Value→Bool
 |.string a,.string b=>a==b
 |.int _ a,.int _ b=>a==b
 |.agg ⟨[.int _ a,.int _ b]⟩,.agg ⟨[.int _ c,.int _ d]⟩=>a==c&&b==d
 |_,_=>false
def zdR {α:Type}:List (Value×α)→Value→Option α
 |[],_=>none
 |(k',x)::r,k=>bif keyB k k' then some x else zdR r k
def mset {α:Type}:List (Value×α)→Value→α→List (Value×α)
 |[],k,x=>[(k,x)]
 |(k',y)::r,k,x=>bif keyB k k' then (k,x)::r else (k',y)::mset r k x
def ziS (es:List (Value×Bool)) (k:Value):Bool:=(zdR es k).getD false
def zpW (es:List (Value×Int)) (k:Value):Int:=(zdR es k).getD 0
def mhas {α:Type} (es:List (Value×α)) (k:Value):Bool:=(zdR es k).isSome
inductive Ask where
 |val (d:D)
 |new (adds:Heap) (d:D)
 |mod (s:St)
 |need (p:Prop) (a:Ask)
 |elem (xs:List (List I)) (i:Nat) (k:List I→Ask)
 |obj (dep nm:Nat) (k:Ob→Ask)
 |anyb (p:Bool→Prop)
 |call (f:FuncId) (args:List D)
 |alt (own dat:Ask)
 |bad
def force (d:D) (k:D→Ask):Ask:=match d with
 |.dead=>k .dead
 |.i (.v x)=>k (.i (.v x))
 |.i (.sl a b c)=>k (.i (.sl a b c))
 |.i (.ptr a b c e)=>k (.i (.ptr a b c e))
 |.agg cs=>k (.agg cs)
 |.tup cs=>k (.tup cs)
 |.own a b c e=>k (.own a b c e)
 |.osl a b=>k (.osl a b)
 |.psl a b=>k (.psl a b)
 |.xsl a b c=>k (.xsl a b c)
 |.bt=>k .bt
 |.bf=>k .bf
 |.fn a b c=>k (.fn a b c)
theorem force_eq (d:D) (k:D→Ask):force d k=k d:=by
 unfold force
 split<;>rfl
def zcu (l:List D) (k:List D→Ask):Ask:=match l with
 |[]=>k []
 |d::r=>force d fun d=>zcu r fun r=>k (d::r)
theorem zbL (l:List D) (k:List D→Ask):zcu l k=k l:=by
 induction l generalizing k with
 |nil=>rfl
 |cons d r ih=>simp only[zcu,force_eq,ih]
mutual
def D.shift (k:Nat):D→D
 |.own dep nm j off=>.own (dep+k) nm j off
 |.osl dep nm=>.osl (dep+k) nm
 |.psl _ _=>.dead
 |.fn f a b=>.fn f (D.shifts k a) (D.shifts k b)
 |.agg cs=>.agg (D.shifts k cs)
 |.tup cs=>.tup (D.shifts k cs)
 |d=>d
def D.shifts (k:Nat):List D→List D
 |[]=>[]
 |d::r=>d.shift k::D.shifts k r
end
mutual
def D.kill (m:Nat):D→D
 |.own 0 nm j off=>bif Nat.beq nm m then .dead else .own 0 nm j off
 |.osl 0 nm=>bif Nat.beq nm m then .dead else .osl 0 nm
 |.psl nm k=>bif Nat.beq nm m then .dead else .psl nm k
 |.fn f a b=>.fn f (D.kills m a) (D.kills m b)
 |.agg cs=>.agg (D.kills m cs)
 |.tup cs=>.tup (D.kills m cs)
 |d=>d
def D.kills (m:Nat):List D→List D
 |[]=>[]
 |d::r=>d.kill m::D.kills m r
end
def zdS (m:Nat):List (Nat×D)→List (Nat×D)
 |[]=>[]
 |(t,d)::r=>(t,d.kill m)::zdS m r
def Ob.kill (m:Nat):Ob→Ob
 |.box cs=>.box (D.kills m cs)
 |.tb T cs=>.tb T (D.kills m cs)
 |o=>o
def zbp (m:Nat):Heap→Heap
 |[]=>[]
 |(t,o)::r=>bif Nat.beq t m then zbp m r else (t,o.kill m)::zbp m r
def D.toB:D→Option Bool
 |.bt=>some true
 |.bf=>some false
 |.i (.v (.bool b))=>some b
 |_=>none
def D.toI:D→Option I
 |.i x=>some x
 |.bt=>some (.v (.bool true))
 |.bf=>some (.v (.bool false))
 |.xsl es n xs=>some (.sl es n xs)
 |.fn (.func k) [] []=>some (.v (.func (.func k) #[] #[]))
 |_=>none
def D.toIs:List D→Option (List I)
 |[]=>some []
 |d::r=>match d.toI,D.toIs r with
  |some x,some xs=>some (x::xs)
  |_,_=>none
section
variable (T:TT) (s:St)
def evD:Operand→D
 |.tmp t=>s.get t
 |.const v=>bif v.oneCell' then .i (.v v) else .dead
 |.global _=>.dead
 |.func f=>.fn (.func f) [] []
def cellsOf (t:Nat) (d:D) (k:List D→Ask):Ask:=match look T t with
 |some i=>bif Nat.beq d.cells.length i.size&&D.ones d.cells then zcu d.cells k else .bad
 |none=>.bad
def zeroOf (t:Nat) (k:List D→Ask):Ask:=match look T t with
 |some i=>zcu (i.zero.map fun v=>.i (.v v)) k
 |none=>.bad
def zgT (i:TI) (off:Nat) (cs:List D) (k:D→Ask):Ask:=
 bif i.k.agg then (bif Nat.ble (off+i.size) cs.length then zcu ((cs.drop off).take i.size) fun l=>k (.agg l) else .bad)
 else match cs.drop off with
  |d::_=>force d k
  |[]=>.bad
def zcx (dep nm:Nat) (k:Ob→Ask):Ask:=match dep with
 |0=>match zab s.S 0 nm with
  |some o=>k o
  |none=>.bad
 |dep+1=>.obj (dep+1) nm k
def zhq (t:Nat) (p:D):Ask:=match look T t with
 |none=>.bad
 |some i=>match p with
  |.own dep nm x off=>zcx s dep nm fun
   |.box cs=>zgT i off (D.shifts dep cs) .val
   |.arr _ _ _ xs _=>.elem xs x fun d=>zgT i off (d.map .i) .val
   |.mp _ _=>.bad
   |.tb _ _=>.bad
  |.i (.ptr _ xs x off)=>.elem xs x fun d=>zgT i off (d.map .i) .val
  |_=>.bad
def zeR (t:Nat) (p:D) (f:Nat):Ask:=match look T t with
 |some {k:=.struct fs,.. }=>match fs[f]? with
  |some (o,_,_)=>match p with
   |.own dep nm i off=>.val (.own dep nm i (off+o))
   |.i (.ptr es xs i off)=>.val (.i (.ptr es xs i (off+o)))
   |.i (.v (.pointer (some ⟨b,o',none⟩)))=>.val (.i (.v (.pointer (some ⟨b,o'+o,none⟩))))
   |_=>.bad
  |none=>.bad
 |_=>.bad
def zjJ (t:Nat) (k:Nat→Ask):Ask:=match look T t with
 |some i=>k i.size
 |none=>.bad
def zco (t:Nat) (x ix:D):Ask:=match ix with
 |.i (.v (.int _ k))=>match look T t with
  |some {k:=.slice e,.. }=>zjJ T e fun z=>match x with
   |.i (.sl es n xs)=>bif Nat.beq es z then .need (0≤k∧k<n) (.val (.i (.ptr es xs k.toNat 0))) else .bad
   |.xsl es n xs=>bif Nat.beq es z then .need (0≤k∧k<n) (.val (.i (.ptr es xs k.toNat 0))) else .bad
   |.osl dep nm=>zcx s dep nm fun
    |.arr _ es n _ _=>bif Nat.beq es z then .need (0≤k∧k<n) (.val (.own dep nm k.toNat 0)) else .bad
    |_=>.bad
   |.psl nm m=>zcx s 0 nm fun
    |.arr _ es _ _ _=>bif Nat.beq es z then .need (0≤k∧k<m) (.val (.own 0 nm k.toNat 0)) else .bad
    |_=>.bad
   |.i (.v (.slice (some ⟨b,o,none⟩) n _))=>.need (0≤k∧k<n) (.val (.i (.v (.pointer (some ⟨b,o+k.toNat*z,none⟩)))))
   |_=>.bad
  |some {k:=.arr n e,.. }=>zjJ T e fun z=>match x with
   |.own dep nm i off=>.need (0≤k∧k<n) (.val (.own dep nm i (off+k.toNat*z)))
   |.i (.ptr es xs i off)=>.need (0≤k∧k<n) (.val (.i (.ptr es xs i (off+k.toNat*z))))
   |_=>.bad
  |_=>.bad
 |_=>.bad
def zbe:List TK→List D→List D→Option Bool
 |[],[],[]=>some true
 |.int k::r,.i (.v (.int k1 a))::xs,.i (.v (.int k2 b))::ys=>bif decide (k=k1)&&decide (k=k2) then (match zbe r xs ys with|some e=>some ((a==b)&&e)|none=>none) else none
 |.str::r,.i (.v (.string a))::xs,.i (.v (.string b))::ys=>match zbe r xs ys with|some e=>some ((a.toList==b.toList)&&e)|none=>none
 |.bool::r,.i (.v (.bool a))::xs,.i (.v (.bool b))::ys=>match zbe r xs ys with|some e=>some ((a==b)&&e)|none=>none
 |_,_,_=>none
def zxJ (op:BinOp) (t:Nat) (x y:D):Ask:=match x,y with
 |.i (.v (.int k a)),.i (.v (.int k' b))=>match op with
  |.add=>bif decide (k=k') then .val (.i (.v (.int k (k.wrap (a+b))))) else .bad
  |.sub=>bif decide (k=k') then .val (.i (.v (.int k (k.wrap (a-b))))) else .bad
  |.mul=>bif decide (k=k') then .val (.i (.v (.int k (k.wrap (a*b))))) else .bad
  |.quo=>bif decide (k=k') then .need (b≠0) (.val (.i (.v (.int k (k.wrap (a.tdiv b)))))) else .bad
  |.rem=>bif decide (k=k') then .need (b≠0) (.val (.i (.v (.int k (a.tmod b))))) else .bad
  |.and=>bif decide (k=k') then .val (.i (.v (.int k (bits .and k a b)))) else .bad
  |.or=>bif decide (k=k') then .val (.i (.v (.int k (bits .or k a b)))) else .bad
  |.xor=>bif decide (k=k') then .val (.i (.v (.int k (bits .xor k a b)))) else .bad
  |.andNot=>bif decide (k=k') then .val (.i (.v (.int k (bits .andNot k a b)))) else .bad
  |.eql=>bif decide (k=k') then .val (.i (.v (.bool (a==b)))) else .bad
  |.neq=>bif decide (k=k') then .val (.i (.v (.bool (a != b)))) else .bad
  |.lss=>bif decide (k=k') then .val (.i (.v (.bool (a<b)))) else .bad
  |.leq=>bif decide (k=k') then .val (.i (.v (.bool (a≤b)))) else .bad
  |.gtr=>bif decide (k=k') then .val (.i (.v (.bool (a>b)))) else .bad
  |.geq=>bif decide (k=k') then .val (.i (.v (.bool (a≥b)))) else .bad
  |.shl=>.need (0≤b∧b≤k.bits) (.val (.i (.v (.int k (k.wrap (a*2 ^ b.toNat))))))
  |.shr=>.need (0≤b∧b≤k.bits) (.val (.i (.v (.int k (a/2 ^ b.toNat)))))
 |.i (.v (.string a)),.i (.v (.string b))=>match op with
  |.add=>.need (a.size+b.size≤9223372036854775807) (.val (.i (.v (.string (a++b)))))
  |.eql=>.val (.i (.v (.bool (a.toList==b.toList))))
  |.neq=>.val (.i (.v (.bool (!(a.toList==b.toList)))))
  |_=>.bad
 |.i (.v (.bool a)),.i (.v (.bool b))=>match look T t with
  |some {k:=.bool,.. }=>match op with
   |.eql=>.val (.i (.v (.bool (a==b))))
   |.neq=>.val (.i (.v (.bool (!(a==b)))))
   |_=>.bad
  |_=>.bad
 |.agg xs,.agg ys=>match look T t with
  |some {cmp:=c::cs,.. }=>match zbe (c::cs) xs ys with
   |some e=>match op with
    |.eql=>.val (.i (.v (.bool e)))
    |.neq=>.val (.i (.v (.bool (!e))))
    |_=>.bad
   |none=>.bad
  |_=>.bad
 |x,y=>match look T t with
  |some {k:=.ptr _,.. }=>match y with
   |.i (.v (.pointer none))=>match op,x with
    |.eql,.i (.v (.pointer none))=>.val (.i (.v (.bool true)))
    |.neq,.i (.v (.pointer none))=>.val (.i (.v (.bool false)))
    |.eql,.i (.ptr _ _ _ _)=>.val (.i (.v (.bool false)))
    |.neq,.i (.ptr _ _ _ _)=>.val (.i (.v (.bool true)))
    |.eql,.own _ _ _ _=>.val (.i (.v (.bool false)))
    |.neq,.own _ _ _ _=>.val (.i (.v (.bool true)))
    |_,_=>.bad
   |_=>.bad
  |some {k:=.slice _,.. }=>match y with
   |.i (.v (.slice none 0 0))=>match op,x with
    |.eql,.i (.sl _ n _)=>.anyb fun b=>b=true→n=0
    |_,_=>.bad
   |_=>.bad
  |_=>.bad
def exUn (op:UnOp) (x:D):Ask:=match op,x with
 |.not,.i (.v (.bool b))=>.val (.i (.v (.bool (!b))))
 |.not,.bt=>.val .bf
 |.not,.bf=>.val .bt
 |.neg,.i (.v (.int k n))=>.val (.i (.v (.int k (k.wrap (0-n)))))
 |_,_=>.bad
def u8s:List (List I)→Option (List Int)
 |[]=>some []
 |[.v (.int .u8 n)]::r=>(match u8s r with
  |some l=>some (n::l)
  |none=>none)
 |_=>none
def bytesOf (l:List Int):ByteArray:=l.foldl (fun r n=>r.push (UInt8.ofNat n.toNat)) ByteArray.empty
def zsX (src dst:Nat) (x:D):Ask:=match x,look T src,look T dst with
 |.i (.v (.int _ n)),some _,some {k:=.int k,.. }=>.val (.i (.v (.int k (k.wrap n))))
 |.i (.sl es _ xs),some {k:=.slice e,.. },some {k:=.str,.. }=>(match look T e with
  |some {k:=.int .u8,.. }=>bif Nat.beq es 1 then (match u8s xs with
   |some l=>.val (.i (.v (.string (bytesOf l))))
   |none=>.bad) else .bad
  |_=>.bad)
 |_,_,_=>.bad
def zsU (c a b:D):Ask:=match c with
 |.bt=>force a .val
 |.bf=>force b .val
 |.i (.v (.bool c))=>match a.toB,b.toB with
  |some x,some y=>.val (.i (.v (.bool (bif c then x else y))))
  |_,_=>.bad
 |_=>.bad
def zqa (t:Nat) (x:D):Ask:=match x,look T t with
 |.i (.sl _ n _),some {k:=.slice _,.. }=>.val (.i (.v (.int .i64 n)))
 |.xsl _ n _,some {k:=.slice _,.. }=>.val (.i (.v (.int .i64 n)))
 |.i (.v (.slice none 0 0)),some {k:=.slice _,.. }=>.val (.i (.v (.int .i64 0)))
 |.i (.v (.slice (some _) n _)),some {k:=.slice _,.. }=>.val (.i (.v (.int .i64 n)))
 |.osl dep nm,some {k:=.slice _,.. }=>zcx s dep nm fun
  |.arr _ _ n _ _=>.val (.i (.v (.int .i64 n)))
  |_=>.bad
 |.i (.v (.string b)),some {k:=.str,.. }=>.val (.i (.v (.int .i64 b.size)))
 |_,_=>.bad
def zii (x:D) (k:Nat→Nat→List (List I)→Ask):Ask:=match x with
 |.i (.sl es n xs)=>k es n xs
 |.xsl es n xs=>k es n xs
 |.osl dep nm=>zcx s dep nm fun
  |.arr _ es n xs false=>k es n xs
  |_=>.bad
 |_=>.bad
def zfH (t:Nat) (x:D) (lo hi mx:Option D):Ask:=match look T t with
 |some {k:=.slice e,.. }=>zjJ T e fun z=>zii s x fun es n xs=>bif !Nat.beq es z then .bad else match lo,hi,mx with
  |none,none,none=>.val (.i (.sl es n xs))
  |some (.i (.v (.int _ a))),none,none=>.need (0≤a∧a≤n) (.val (.i (.sl es (n-a.toNat) (xs.drop a.toNat))))
  |none,some (.i (.v (.int _ b))),none=>.need (0≤b∧b≤n) (.val (.i (.sl es b.toNat (xs.take b.toNat))))
  |some (.i (.v (.int _ a))),some (.i (.v (.int _ b))),none=>.need (0≤a∧a≤b∧b≤n) (.val (.i (.sl es (b.toNat-a.toNat) ((xs.take b.toNat).drop a.toNat))))
  |none,some (.i (.v (.int _ b))),some (.i (.v (.int _ c)))=>.need (0≤b∧b=c∧b≤n) (.val (.xsl es b.toNat (xs.take b.toNat)))
  |_,_,_=>.bad
 |some {k:=.str,.. }=>match x with
  |.i (.v (.string b))=>match lo,hi,mx with
   |some (.i (.v (.int _ l))),none,none=>.need (0≤l∧l≤b.size) (.val (.i (.v (.string (b.extract l.toNat b.size)))))
   |none,some (.i (.v (.int _ h))),none=>.need (0≤h∧h≤b.size) (.val (.i (.v (.string (b.extract 0 h.toNat)))))
   |_,_,_=>.bad
  |_=>.bad
 |_=>.bad
def zlE (t:Nat) (x ix:D):Ask:=match look T t,x,ix with
 |some {k:=.str,.. },.i (.v (.string b)),.i (.v (.int _ k))=>.need (0≤k∧k<b.size) (.val (.i (.v (.int .u8 (b.data.toList.getD k.toNat 0).toNat))))
 |_,_,_=>.bad
def zlF (t:Nat) (x:D) (f:Nat):Ask:=match look T t with
 |some {k:=.struct fs,.. }=>match fs[f]?,x with
  |some (o,z,true),.agg cs=>bif Nat.ble (o+z) cs.length then zcu ((cs.drop o).take z) fun l=>.val (.agg l) else .bad
  |some (o,_,false),.agg cs=>match cs.drop o with
   |d::_=>force d .val
   |[]=>.bad
  |_,_=>.bad
 |_=>.bad
def zlB (fs:Nat→Option (Nat×Nat)) (cs:List D):List (Nat×D)→Option (List D)
 |[]=>some cs
 |(i,d)::r=>match fs i with
  |none=>none
  |some (o,z)=>bif Nat.beq d.cells.length z&&Nat.ble (o+z) cs.length&&D.ones d.cells then zlB fs (cs.take o++d.cells++cs.drop (o+z)) r else none
def zlG (t:Nat) (parts:List (Nat×D)):Ask:=match look T t with
 |some i=>match i.k with
  |.struct fs=>match zlB (fun j=>(fs[j]?).map fun p=>(p.1,p.2.1)) (i.zero.map fun v=>.i (.v v)) parts with
   |some cs=>zcu cs fun l=>.val (.agg l)
   |none=>.bad
  |.arr _ e=>zjJ T e fun z=>match zlB (fun j=>some (j*z,z)) (i.zero.map fun v=>.i (.v v)) parts with
   |some cs=>zcu cs fun l=>.val (.agg l)
   |none=>.bad
  |_=>.bad
 |none=>.bad
def chunk (z:Nat):Nat→List I→List (List I)
 |0,_=>[]
 |n+1,l=>l.take z::chunk z n (l.drop z)
def repl {α:Type}:Nat→List α→List α
 |0,_=>[]
 |n+1,l=>l++repl n l
def zc3 (dst t len:Nat) (parts:List (Nat×D)):Ask:=match look T t with
 |some {k:=.slice e,.. }=>match look T e with
  |some i=>match len with
   |0=>match parts with
    |[]=>.new [(dst,.arr e i.size 0 [] true)] (.osl 0 dst)
    |_=>.bad
   |len+1=>match zlB (fun j=>some (j*i.size,i.size)) (repl (len+1) (i.zero.map fun v=>.i (.v v))) parts with
    |some cs=>match D.toIs cs with
     |some l=>bif Nat.ble ((len+1)*i.size) 16777216 then .alt (.new [(dst,.arr e i.size (len+1) (chunk i.size (len+1) l) true)] (.osl 0 dst)) (.new [] (.i (.sl i.size (len+1) (chunk i.size (len+1) l)))) else .bad
     |none=>.bad
    |none=>.bad
  |none=>.bad
 |_=>.bad
def setAt:List Heap→Nat→Nat→Ob→List Heap
 |H::O,0,nm,ob=>((nm,ob)::H)::O
 |H::O,d+1,nm,ob=>H::setAt O d nm ob
 |[],_,_,_=>[]
def zfR (cs:List D) (off:Nat) (l:List D):List D:=cs.take off++l++cs.drop (off+l.length)
def zbO (cs:List I) (off:Nat) (l:List I):List I:=cs.take off++l++cs.drop (off+l.length)
def zc9 (t:Nat) (p v:D):Ask:=match look T t with
 |none=>.bad
 |some i=>bif !(Nat.beq v.cells.length i.size&&D.ones v.cells) then .bad else match p with
  |.own dep nm x off=>zcx s dep nm fun
   |.box cs=>bif Nat.ble (off+i.size) cs.length then (match dep with
     |0=>zcu (zfR cs off v.cells) fun cs'=>.mod {s with S:=setAt s.S 0 nm (.box cs')}
     |dep+1=>match D.toIs v.cells with
      |some l=>zcu (zfR cs off (l.map .i)) fun cs'=>.mod {s with S:=setAt s.S (dep+1) nm (.box cs')}
      |none=>.bad) else .bad
   |.arr ty es n xs true=>match D.toIs v.cells with
    |some l=>bif Nat.beq off 0&&Nat.beq i.size es then .mod {s with S:=setAt s.S dep nm (.arr ty es n (xs.set x l) true)}
     else .elem xs x fun d=>bif Nat.ble (off+i.size) d.length then .mod {s with S:=setAt s.S dep nm (.arr ty es n (xs.set x (zbO d off l)) true)} else .bad
    |none=>.bad
   |_=>.bad
  |_=>.bad
def zxg (x:D) (z:Nat) (k:Nat→List (List I)→Ask):Ask:=match x with
 |.i (.sl es n xs)=>bif Nat.beq es z then k n xs else .bad
 |.xsl es n xs=>bif Nat.beq es z then k n xs else .bad
 |.i (.v (.slice none 0 0))=>k 0 []
 |.osl dep nm=>zcx s dep nm fun
  |.arr _ es n xs _=>bif Nat.beq es z then k n xs else .bad
  |_=>.bad
 |_=>.bad
def zfk (dst t:Nat) (x y:D):Ask:=match look T t with
 |some {k:=.slice e,.. }=>match look T e with
  |some i=>zxg s y i.size fun m ys=>match x with
   |.osl 0 nm=>(match zab s.S 0 nm with
    |some (.arr ty es n xs true)=>bif Nat.beq ty e&&Nat.beq es i.size then .need ((n+m)*i.bytes≤140737488355328∧n+m≤9223372036854775807)
      (match s.S with
      |H::O=>(match look (zbp nm H) dst with
       |none=>bif Nat.ble s.n dst then .bad else .mod {σ:=(dst,.osl 0 dst)::zdS nm s.σ,S:=((dst,.arr e i.size (n+m) (xs++ys) true)::zbp nm H)::O,n:=s.n}
       |some _=>.bad)
      |[]=>.bad) else .bad
    |_=>.bad)
   |.i (.v (.slice none 0 0))=>.need (m*i.bytes≤140737488355328∧m≤9223372036854775807) (.new [(dst,.arr e i.size m ys true)] (.osl 0 dst))
   |.xsl es n xs=>bif Nat.beq es i.size then .need ((n+m)*i.bytes≤140737488355328∧n+m≤9223372036854775807∧0<m) (.new [(dst,.arr e i.size (n+m) (xs++ys) true)] (.osl 0 dst)) else .bad
   |_=>.bad
  |none=>.bad
 |_=>.bad
def zvx (k:IntKind) (a:Int):List D→Ask
 |[]=>.val (.i (.v (.int k a)))
 |.i (.v (.int _ b))::r=>zvx k (if b<a then b else a) r
 |_=>.bad
def zvy (k:IntKind) (a:Int):List D→Ask
 |[]=>.val (.i (.v (.int k a)))
 |.i (.v (.int _ b))::r=>zvy k (if b>a then b else a) r
 |_=>.bad
def zdy (dst t:Nat) (l c:D):Ask:=match look T t,l,c with
 |some {k:=.slice e,.. },.i (.v (.int .i64 a)),.i (.v (.int .i64 b))=>match look T e with
  |some i=>.need (0≤a∧a≤b∧b*i.bytes≤140737488355328∧b≤140737488355328)
    (.new [(dst,.arr e i.size a.toNat (List.replicate a.toNat (i.zero.map .v)) true)] (.osl 0 dst))
  |none=>.bad
 |_,_,_=>.bad
def zxI (x:D):Ask:=match x with
 |.own a b c d=>.val (.own a b c d)
 |.i (.ptr a b c d)=>.val (.i (.ptr a b c d))
 |.fn (.func f) a b=>.val (.fn (.func f) a b)
 |.i (.v (.pointer (some a)))=>.val (.i (.v (.pointer (some a))))
 |_=>.bad
def zhp (dst t:Nat) (r:Option D):Ask:=match look T t with
 |some {k:=.map kt vt,.. }=>match look T kt,look T vt,r with
  |some ki,some vi,none=>(match ki.kk,vi.k.mc with
   |some kk,some m=>.new [(dst,.mp kk m)] (.osl 0 dst)
   |_,_=>.bad)
  |some ki,some vi,some (.i (.v (.int _ _)))=>(match ki.kk,vi.k.mc with
   |some kk,some m=>.new [(dst,.mp kk m)] (.osl 0 dst)
   |_,_=>.bad)
  |_,_,_=>.bad
 |_=>.bad
def zei (t:Nat) (x ix:D) (ok:Bool):Ask:=match look T t with
 |some {k:=.map kt vt,.. }=>match look T kt,look T vt with
  |some ki,some vi=>match x,ix.keyOf with
   |.osl dep nm,some key=>zcx s dep nm fun
    |.mp kk (.b es)=>bif ki.isKK kk&&kk.ok key&&zgi vi.zero&&!vi.k.agg then (match ok with
      |true=>.val (.tup [.i (.v (.bool (ziS es key))),.i (.v (.bool (mhas es key)))])
      |false=>.val (.i (.v (.bool (ziS es key))))) else .bad
    |.mp kk (.i k es)=>bif ki.isKK kk&&kk.ok key&&ziW k vi.zero&&!vi.k.agg then (match ok with
      |true=>.val (.tup [.i (.v (.int k (zpW es key))),.i (.v (.bool (mhas es key)))])
      |false=>.val (.i (.v (.int k (zpW es key))))) else .bad
    |_=>.bad
   |_,_=>.bad
  |_,_=>.bad
 |_=>.bad
def zfj (t:Nat) (x ix v:D):Ask:=match look T t with
 |some {k:=.map kt _,.. }=>match look T kt with
  |some ki=>match x,ix.keyOf with
   |.osl dep nm,some key=>zcx s dep nm fun
    |.mp kk (.b es)=>bif ki.isKK kk&&kk.ok key then (match v.toB with
      |some b=>.mod {s with S:=setAt s.S dep nm (.mp kk (.b (mset es key b)))}
      |none=>.bad) else .bad
    |.mp kk (.i k es)=>bif ki.isKK kk&&kk.ok key then (match v with
      |.i (.v (.int k' n))=>bif decide (k=k') then .mod {s with S:=setAt s.S dep nm (.mp kk (.i k (mset es key n)))} else .bad
      |_=>.bad) else .bad
    |_=>.bad
   |_,_=>.bad
  |none=>.bad
 |_=>.bad
def ownL:List Oper→Nat→Bool
 |[],_=>false
 |p::r,t=>match p.op with
  |.assign (.tmp x)=>bif Nat.beq x t then true else ownL r t
  |.move (.tmp x)=>bif Nat.beq x t then true else ownL r t
  |.call {callee:=.builtin .append,args:=args,.. }=>match args.toList with
   |.tmp x::_=>bif Nat.beq x t then true else ownL r t
   |_=>ownL r t
  |_=>ownL r t
def ownB (ops:Array Oper) (o:Oper):Bool:=match o.dst with
 |some t=>ownL ops.toList t
 |none=>true
def exec (o:Oper):Ask:=match o.op with
 |.makeMap t r=>match o.dst with
  |some dst=>zhp T dst t (r.map (evD s))
  |none=>.bad
 |.lookup t x ix ok=>zei T s t (evD s x) (evD s ix) ok
 |.mapUpdate t m k v|.insert t m k v=>match o.dst with
  |none=>zfj T s t (evD s m) (evD s k) (evD s v)
  |some _=>.bad
 |.move x|.assign x=>force (evD s x) .val
 |.pick c a b=>zsU (evD s c) (evD s a) (evD s b)
 |.alloc t=>match o.dst with
  |some dst=>zeroOf T t fun cs=>.new [(dst,.box cs)] (.own 0 dst 0 0)
  |none=>.bad
 |.box t x=>match o.dst with
  |some dst=>cellsOf T t (evD s x) fun cs=>.new [(dst,.box cs)] (.own 0 dst 0 0)
  |none=>.bad
 |.build t parts=>zlG T t (parts.toList.map fun p=>(p.1,evD s p.2))
 |.buildSlice t len parts=>match o.dst with
  |some dst=>zc3 T dst t len (parts.toList.map fun p=>(p.1,evD s p.2))
  |none=>.bad
 |.load t a=>zhq T s t (evD s a)
 |.store t a v=>match o.dst with
  |none=>zc9 T s t (evD s a) (evD s v)
  |some _=>.bad
 |.nilCheck x=>zxI (evD s x)
 |.binOp op t x y _=>zxJ T op t (evD s x) (evD s y)
 |.unOp op _ x=>exUn op (evD s x)
 |.convert src dst x=>zsX T src dst (evD s x)
 |.makeFunc fn first cap=>zcu (first.toList.map (evD s)) fun a=>zcu (cap.toList.map (evD s)) fun b=>.val (.fn fn a b)
 |.makeSlice t l c=>match o.dst with
  |some dst=>zdy T dst t (evD s l) (evD s c)
  |none=>.bad
 |.slice t x lo hi mx=>zfH T s t (evD s x) (lo.map (evD s)) (hi.map (evD s)) (mx.map (evD s))
 |.fieldAddr t x f=>zeR T t (evD s x) f
 |.field t x f=>zlF T t (evD s x) f
 |.indexAddr t x ix=>zco T s t (evD s x) (evD s ix)
 |.index t x ix=>zlE T t (evD s x) (evD s ix)
 |.extract t ix=>match evD s t with
  |.tup l=>match l[ix]? with
   |some d=>force d .val
   |none=>.bad
  |_=>.bad
 |.call c=>match c.callee with
  |.builtin .len=>match c.args.toList,c.argTypes.toList with
   |[x],[t]=>zqa T s t (evD s x)
   |_,_=>.bad
  |.builtin .append=>match c.args.toList,c.argTypes.toList,o.dst with
   |[x,y],[t,t'],some dst=>bif Nat.beq t t' then zfk T s dst t (evD s x) (evD s y) else .bad
   |_,_,_=>.bad
  |.builtin .min=>match c.args.toList.map (evD s) with
   |.i (.v (.int k a))::r=>zvx k a r
   |_=>.bad
  |.builtin .max=>match c.args.toList.map (evD s) with
   |.i (.v (.int k a))::r=>zvy k a r
   |_=>.bad
  |.value f=>match evD s f with
   |.fn (.func k) first cap=>zcu (first++c.args.toList.map (evD s)++cap) (.call k)
   |_=>.bad
  |_=>.bad
 |_=>.bad
end
end Go.AI
