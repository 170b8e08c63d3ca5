/- The layer of abstract runs, part 14. -/
import Derived.Test.YtnojpbbaohoadaaGreatDoorIbxM
import Derived.Laws.MakeOwn
import Derived.Laws.Small
set_option linter.unusedSimpArgs false
set_option linter.unusedVariables false
set_option linter.all false
set_option maxHeartbeats 4000000
namespace Go.AI
section
variable {P:Program} {T:TT} {E:Env} {K:Kn} {ρ:Nat→Nat→Loc} {S:List Heap} {w:World} {s:St} {dst:Nat}
def SndO (P:Program) (dst:Nat) (K:Kn) (ρ:Nat→Nat→Loc) (S:List Heap) (w:World) (a:Act) (o:Oper):Ask→Prop
 |.val d=>∃v,(execOp a.eval o).run P w=.ok (.value v) w∧RepD K ρ (shape S) v d
 |.new adds d=>(∀nm,look adds nm≠none→zab S 0 nm=none)→∃v K' ρ' w',(execOp a.eval o).run P w=.ok (.value v) w'∧Grow K ρ S w adds K' ρ' w'∧RepD K' ρ' (shape (addS S adds)) v d
 |.need p k=>p→SndO P dst K ρ S w a o k
 |.elem xs i k=>∀d,xs[i]? = some d→SndO P dst K ρ S w a o (k d)
 |.obj dep nm k=>∀ob,zab S dep nm=some ob→SndO P dst K ρ S w a o (k ob)
 |.anyb p=>∃b,(execOp a.eval o).run P w=.ok (.value (.bool b)) w∧p b
 |.alt x y=>SndO P dst K ρ S w a o x∧SndO P dst K ρ S w a o y
 |.call f args=>∃vs,(execOp a.eval o).run P w=(callFunc f vs.toArray).run P w∧RepDL K ρ (shape S) vs args
 |_=>True
theorem za8 {m:Sem Value} {a:Act} {o:Oper} (hrun:∀v w',m.run P w=.ok v w' → (execOp a.eval o).run P w=.ok (.value v) w'):∀{k:Ask},SndV P dst K ρ S w m k→SndO P dst K ρ S w a o k
 |.val d,⟨v,h1,h2⟩=>⟨v,hrun _ _ h1,h2⟩
 |.new adds d,h=>fun hf=>let ⟨v,K',ρ',w',h1,h2⟩:=h hf;⟨v,K',ρ',w',hrun _ _ h1,h2⟩
 |.need p k,h=>fun hp=>za8 hrun (h hp)
 |.elem xs i k,h=>fun d hd=>za8 hrun (h d hd)
 |.obj dep nm k,h=>fun ob ho=>za8 hrun (h ob ho)
 |.anyb p,⟨b,h1,h2⟩=>⟨b,hrun _ _ h1,h2⟩
 |.alt x y,⟨h1,h2⟩=>⟨za8 hrun h1,za8 hrun h2⟩
 |.call f args,h=>h.elim
 |.mod _,_=>trivial
 |.bad,_=>trivial
theorem zd3 {a:Act} (s:St):∀(l:List Operand),(∀x∈l,RepD K ρ (shape S) (a.eval x) (evD s x))→RepDL K ρ (shape S) (l.map a.eval) (l.map (evD s))
 |[],_=>.nil
 |x::l,h=>.cons (h x (by simp)) (zd3 s l fun y hy=>h y (by simp[hy]))
theorem zgN {a:Act} (s:St):∀(l:List (Nat×Operand)),(∀p∈l,RepD K ρ (shape S) (a.eval p.2) (evD s p.2))→RepParts K ρ (shape S) (l.map fun p=>(p.1,a.eval p.2)) (l.map fun p=>(p.1,evD s p.2))
 |[],_=>.nil
 |(i,x)::l,h=>.cons (h (i,x) (by simp)) (zgN s l fun y hy=>h y (by simp[hy]))
theorem zrp (ts:Array TypeId) (ty:TypeId):∀(l:List D) (vs:List Value) (k:IntKind) (x:Int),RepDL K ρ (shape S) vs l→SndV P dst K ρ S w (vs.foldlM Builtin.min2 (.int k x)) (zvs k x l)
 |[],_,k,x,.nil=>⟨.int k x,by simp,zbg rfl⟩
 |d::r,_,k,x,.cons (x:=v) (xs:=vs) h hs=>by
  unfold zvs
  split
  ·rename_i h1;cases h1
  ·rename_i k' b r' h1;simp only[List.cons.injEq] at h1;obtain⟨rfl,rfl⟩:=h1;obtain rfl:=zaP h;have ih:=zrp ts ty r vs k (if b<x then b else x) hs;have e:List.foldlM Builtin.min2 (.int k x) (.int k' b::vs)=List.foldlM Builtin.min2 (.int k (if b<x then b else x)) vs:=by
    simp[List.foldlM_cons,Builtin.min2]
   rw[e];exact ih
  ·trivial
theorem zrq (ts:Array TypeId) (ty:TypeId):∀(l:List D) (vs:List Value) (k:IntKind) (x:Int),RepDL K ρ (shape S) vs l→SndV P dst K ρ S w (vs.foldlM Builtin.max2 (.int k x)) (zvt k x l)
 |[],_,k,x,.nil=>⟨.int k x,by simp,zbg rfl⟩
 |d::r,_,k,x,.cons (x:=v) (xs:=vs) h hs=>by
  unfold zvt
  split
  ·rename_i h1;cases h1
  ·rename_i k' b r' h1;simp only[List.cons.injEq] at h1;obtain⟨rfl,rfl⟩:=h1;obtain rfl:=zaP h;have ih:=zrq ts ty r vs k (if b>x then b else x) hs;have e:List.foldlM Builtin.max2 (.int k x) (.int k' b::vs)=List.foldlM Builtin.max2 (.int k (if b>x then b else x)) vs:=by
    simp[List.foldlM_cons,Builtin.max2]
   rw[e];exact ih
  ·trivial
theorem ziC (hT:TOk P T) (hw:HInv E K ρ S w) {t:Nat} {vl vc:Value} {l c:D} (hl:RepD K ρ (shape S) vl l) (hc:RepD K ρ (shape S) vc c) :
  SndV P dst K ρ S w (Instr.makeSlice t vl vc) (zdw T dst t l c):=by
 unfold zdw
 split
 ·rename_i sz by_ e z cm a b hi;have hu:P.underlying t=some (.slice e):=(hT _ _ hi).kind;obtain rfl:=zaP hl;obtain rfl:=zaP hc
  cases he:look T e with
  |none=>trivial
  |some i=>
   have hok:=hT _ _ he;intro hneed;obtain⟨h1,h2,h3,h4⟩:=hneed;intro hf;have hf:=hf dst (by simp[zac]);obtain⟨inf,hi1,hi2,hi3,zz,hi4,hi5,-⟩:=hok.info;have hzs:zz.cells.size=i.size:=by rw[←Array.length_toList,hi5,hok.len]
   have hr:=run_make (P:=P) w t e inf zz hu hi1 hi4 .i64 .i64 a b h1 h2 (by rw[hi3,Int.mul_comm];omega) (by omega);rw[hi2] at hr;have hel:∀d∈List.replicate a.toNat (i.zero.map I.v),d.length=i.size:=by
    intro d hd;rw[List.eq_of_mem_replicate hd,List.length_map,hok.len]
   have hpos:0<zz.cells.size:=by have:=hok.pos;omega
   have hcells:(madeCells zz.cells (b.toNat*i.size)).toList=repl b.toNat i.zero:=by
    have:=range_zero zz.cells b.toNat hpos;rw[hzs,hi5] at this;unfold madeCells;rw[hzs];exact this
   have hflat:(List.replicate a.toNat (i.zero.map I.v)).flatten=repl a.toNat (i.zero.map I.v):=by
    generalize a.toNat=n
    induction n with
    |zero=>rfl
    |succ n ih=>simp[List.replicate_succ,repl,ih]
   have htake:(repl b.toNat i.zero).take (a.toNat*i.size)=repl a.toNat i.zero:=by
    have hab:a.toNat≤b.toNat:=by omega
    have hlz:=hok.len;generalize b.toNat=n at hab ⊢;generalize a.toNat=m at hab ⊢
    induction m generalizing n with
    |zero=>simp[repl]
    |succ m ih=>
     obtain⟨k,rfl⟩:∃k,n=k+1:=⟨n-1,by omega⟩;simp only[repl];rw[Nat.add_mul,Nat.one_mul,Nat.add_comm,←hlz,List.take_length_add_append,hlz,ih k (by omega)]
   have hrepz:∀n,RepL K (repl n i.zero) (repl n (i.zero.map I.v)):=by
    intro n
    induction n with
    |zero=>exact .nil
    |succ n ih=>
     refine RepL.append ?_ ih;have:∀l:List Value,(∀x∈l,x.oneCell'=true)→RepL K l (l.map I.v):=by
      intro l hl
      induction l with
      |nil=>exact .nil
      |cons x l ih=>exact .cons (.v (hl x (by simp))) (ih fun y hy=>hl y (by simp[hy]))
     exact this _ hok.one
   obtain⟨lc,g,r⟩:=ziQ (dst:=dst) (ty:=e) (cap:=b.toNat) (n:=a.toNat) (es:=i.size) (cs:=madeCells zz.cells (b.toNat*i.size)) hw hf (.inl rfl) hel (by simp) (by omega) (by simp only[maxLen];omega)
    (by rw[size_madeCells]) (by rw[hcells,htake,hflat];exact hrepz _)
   exact⟨_,_,_,_,hr,g,r⟩
 ·trivial
theorem zwT {x:D} {vx:Value} (hx:RepD K ρ (shape S) vx x) {a:Act} {o:Oper} {y:Operand} (ho:o.op=.nilCheck y) (hy:a.eval y=vx):SndO P dst K ρ S w a o (zxM x):=by
 unfold zxM
 split
 ·refine⟨vx,?_,hx⟩
  cases hx with
  |box e=>simp[execOp,ho,hy]
  |arr e l=>simp[execOp,ho,hy]
 ·refine⟨vx,?_,hx⟩
  cases hx with
  |i r=>cases r with
   |ptr=>simp[execOp,ho,hy]
 ·refine⟨vx,?_,hx⟩
  cases hx with
  |fn r s=>simp[execOp,ho,hy]
 ·refine⟨vx,?_,hx⟩;have:=zaP hx;subst this;simp[execOp,ho,hy]
 ·trivial
theorem zsQ {v:Value}:RepD K ρ (shape S) v (evD s (.const v)):=by
 unfold evD
 dsimp only
 cases h:v.oneCell' with
 |true=>exact zbg h
 |false=>exact .dead _
theorem Inv.ev {a:Act} (h:Inv E K ρ s a w) (x:Operand):RepD K ρ (shape s.S) (a.eval x) (evD s x):=by
 cases x with
 |tmp t=>exact h.get t
 |const v=>exact zsQ
 |global g=>exact .dead _
 |func f=>exact .fn .nil .nil
theorem zeA {a:Act} {x:Option Operand} (h:∀y,x=some y→RepD K ρ (shape S) (a.eval y) (evD s y)) :
  (∀d,x.map (evD s)=some d→∃v,x.map a.eval=some v∧RepD K ρ (shape S) v d)∧(x.map (evD s)=none→x.map a.eval=none):=by
 cases x with
 |none=>exact⟨fun d h=>by simp at h,fun _=>rfl⟩
 |some y=>exact⟨fun d hd=>⟨a.eval y,rfl,by simp at hd;subst hd;exact h y rfl⟩,fun h=>by simp at h⟩
theorem zpx {a:Act} {o:Oper} {t:Nat} {p v:D}:SndO P dst K ρ S w a o (zc9 T s t p v):=by
 unfold zc9
 cases look T t with
 |none=>trivial
 |some i=>
  dsimp only
  cases !(Nat.beq v.cells.length i.size&&D.ones v.cells) with
  |true=>trivial
  |false=>
   simp only[cond_false]
   split
   ·rename_i dep nm x off;have hk:∀ob:Ob,SndO P dst K ρ S w a o ((fun
      |.box cs=>bif Nat.ble (off+i.size) cs.length then (match dep with
        |0=>zcs (zfR cs off v.cells) fun cs'=>.mod {s with S:=setAt s.S 0 nm (.box cs')}
        |dep+1=>match D.toIs v.cells with
         |some l=>zcs (zfR cs off (l.map .i)) fun cs'=>.mod {s with S:=setAt s.S (dep+1) nm (.box cs')}
         |none=>.bad) else .bad
      |.arr ty es n xs true=>match D.toIs v.cells with
       |some l=>bif Nat.beq off 0&&Nat.beq i.size es then .mod {s with S:=setAt s.S dep nm (.arr ty es n (xs.set x l) true)}
        else .elem xs x fun d=>bif Nat.ble (off+i.size) d.length then .mod {s with S:=setAt s.S dep nm (.arr ty es n (xs.set x (zbR d off l)) true)} else .bad
       |none=>.bad
      |_=>.bad:Ob→Ask) ob):=by
     intro ob
     cases ob with
     |mp=>trivial
     |tb=>trivial
     |box cs=>
      dsimp only
      cases Nat.ble (off+i.size) cs.length with
      |false=>trivial
      |true=>
       simp only[cond_true]
       cases dep with
       |zero=>dsimp only;rw[zbN];trivial
       |succ d=>
        dsimp only
        cases D.toIs v.cells with
        |none=>trivial
        |some l=>dsimp only;rw[zbN];trivial
     |arr ty es n xs wr=>
      cases wr with
      |false=>trivial
      |true=>
       dsimp only
       cases D.toIs v.cells with
       |none=>trivial
       |some l=>
        dsimp only
        cases Nat.beq off 0&&Nat.beq i.size es with
        |true=>trivial
        |false=>
         intro d _
         dsimp only
         cases Nat.ble (off+i.size) d.length<;>trivial
    unfold zcv
    cases dep with
    |zero=>
     dsimp only
     cases zab s.S 0 nm with
     |none=>trivial
     |some ob=>exact hk ob
    |succ d=>exact fun ob _=>hk ob
   ·trivial
theorem zgE {a:Act} {o:Oper} {t:Nat} {x y z:D}:SndO P dst K ρ S w a o (zfg T s t x y z):=by
 unfold zfg
 split<;>try trivial
 split<;>try trivial
 split<;>try trivial
 rename_i ki hki _ _ dep nm key hkx;have hk:∀(k:Ob→Ask),(∀ob,SndO P dst K ρ S w a o (k ob))→SndO P dst K ρ S w a o (zcv s dep nm k):=by
  intro k hk;unfold zcv
  cases dep with
  |zero=>
   dsimp only
   cases zab s.S 0 nm with
   |none=>trivial
   |some ob=>exact hk ob
  |succ d=>exact fun ob _=>hk ob
 refine hk _ fun ob=>?_
 cases ob with
 |box=>trivial
 |tb=>trivial
 |arr=>trivial
 |mp kk m=>
  cases m with
  |b l=>
   dsimp only
   cases (ki.isKK kk&&kk.ok key) with
   |false=>trivial
   |true=>simp only[cond_true];split<;>trivial
  |i k l=>
   dsimp only
   cases (ki.isKK kk&&kk.ok key) with
   |false=>trivial
   |true=>
    simp only[cond_true]
    split
    ·rename_i k' n
     cases decide (k=k')<;>trivial
    ·trivial
theorem zi9 (hT:TOk P T) (hw:HInv E K ρ s.S w) {a:Act} {o:Oper} (hd:o.dst=some dst∨(o.dst=none)) (hops:∀x∈o.op.operands,RepD K ρ (shape s.S) (a.eval x) (evD s x)) :
  SndO P dst K ρ s.S w a o (exec T s o):=by
 have hdst:∀{k:Nat→Ask},SndO P dst K ρ s.S w a o (k dst)→SndO P dst K ρ s.S w a o (match o.dst with|some d=>k d|none=>.bad):=by
  intro k hk;rcases hd with hd|hd<;>rw[hd]
  ·exact hk
  ·trivial
 unfold exec
 cases hop:o.op with
 |move x=>
  rw[hop] at hops
  dsimp only
  rw[force_eq];exact⟨a.eval x,by simp[execOp,hop],hops x (by simp[Op.operands])⟩
 |assign x=>
  rw[hop] at hops
  dsimp only
  rw[force_eq];exact⟨a.eval x,by simp[execOp,hop],hops x (by simp[Op.operands])⟩
 |pick c x y=>
  rw[hop] at hops;refine za8 (m:=do pure (if ←asBool (a.eval c) then a.eval x else a.eval y)) ?_ (zur (hops c (by simp[Op.operands])) (hops x (by simp[Op.operands])) (hops y (by simp[Op.operands])));intro v w' h;simp only[execOp,hop]
  cases hc:a.eval c<;>simp[hc,asBool] at h ⊢ <;> simp_all
 |alloc t=>
  refine hdst (k:=fun dst=>zeroOf T t fun cs=>.new [(dst,.box cs)] (.own 0 dst 0 0)) (za8 (m:=Instr.alloc t true (.tuple #[])) ?_ (zrv hT hw));intro v w' h;simp[execOp,hop,h]
 |box t x=>
  rw[hop] at hops;refine hdst (k:=fun dst=>cellsOf T t (evD s x) fun cs=>.new [(dst,.box cs)] (.own 0 dst 0 0)) (za8 (m:=Instr.box t (a.eval x)) ?_ (zwV hT hw (hops x (by simp[Op.operands]))));intro v w' h;simp[execOp,hop,h]
 |build t parts=>
  rw[hop] at hops;refine za8 (m:=Instr.build t (parts.map fun (i,x)=>(i,a.eval x))) ?_ (zru hT ?_)
  ·intro v w' h;simp[execOp,hop,h]
  ·have:=zgN (K:=K) (ρ:=ρ) (S:=s.S) (a:=a) s parts.toList fun p hp=>hops p.2 (by simp[Op.operands];exact⟨p.1,by simpa using hp⟩);simpa using this
 |buildSlice t len parts=>
  rw[hop] at hops;refine hdst (k:=fun dst=>zc1 T dst t len (parts.toList.map fun p=>(p.1,evD s p.2))) (za8 (m:=Instr.buildSlice t len (parts.map fun (i,x)=>(i,a.eval x))) ?_ (zhD hT hw ?_))
  ·intro v w' h;simp[execOp,hop,h]
  ·have:=zgN (K:=K) (ρ:=ρ) (S:=s.S) (a:=a) s parts.toList fun p hp=>hops p.2 (by simp[Op.operands];exact⟨p.1,by simpa using hp⟩);simpa using this
 |load t x=>
  rw[hop] at hops;refine za8 (m:=Instr.loadAt t (a.eval x)) ?_ (znd hT hw (hops x (by simp[Op.operands])));intro v w' h;simp[execOp,hop,h]
 |nilCheck x=>
  rw[hop] at hops;exact zwT (hops x (by simp[Op.operands])) hop rfl
 |binOp op t x y yt=>
  rw[hop] at hops;refine za8 (m:=do eqGuard op t x y (a.eval x) (a.eval y);binOp op t (a.eval x) (a.eval y)) ?_ (zwW hT (hops x (by simp[Op.operands])) (hops y (by simp[Op.operands])));intro v w' h;simp only[execOp,hop];rw[Sem.run_bind,h];rfl
 |unOp op t x=>
  rw[hop] at hops;refine za8 (m:=Op.unary op (a.eval x)) ?_ (zyv (hops x (by simp[Op.operands])));intro v w' h;simp[execOp,hop,h]
 |convert src tgt x=>
  rw[hop] at hops;refine za8 (m:=convert src tgt (a.eval x)) ?_ (zus hT hw (hops x (by simp[Op.operands])));intro v w' h;simp[execOp,hop,h]
 |makeFunc fn first cap=>
  rw[hop] at hops
  dsimp only
  rw[zbN,zbN];refine⟨.func fn (first.map a.eval) (cap.map a.eval),by simp[execOp,hop,Instr.makeFunc],?_⟩;have h1:=zd3 (K:=K) (ρ:=ρ) (S:=s.S) (a:=a) s first.toList fun x hx=>hops x (by simp[Op.operands];exact .inl (by simpa using hx))
  have h2:=zd3 (K:=K) (ρ:=ρ) (S:=s.S) (a:=a) s cap.toList fun x hx=>hops x (by simp[Op.operands];exact .inr (by simpa using hx));have:=RepD.fn (f:=fn) h1 h2;refine cast ?_ this;congr 2<;>apply Array.ext'<;>simp
 |makeSlice t l c=>
  rw[hop] at hops;refine hdst (k:=fun dst=>zdw T dst t (evD s l) (evD s c)) (za8 (m:=Instr.makeSlice t (a.eval l) (a.eval c)) ?_ (ziC hT hw (hops l (by simp[Op.operands])) (hops c (by simp[Op.operands]))));intro v w' h;simp[execOp,hop,h]
 |slice t x lo hi mx=>
  rw[hop] at hops;have h1:=zeA (K:=K) (ρ:=ρ) (S:=s.S) (a:=a) (s:=s) (x:=lo) fun y hy=>hops y (by subst hy;simp[Op.operands]);have h2:=zeA (K:=K) (ρ:=ρ) (S:=s.S) (a:=a) (s:=s) (x:=hi) fun y hy=>hops y (by subst hy;simp[Op.operands]);have h3:=zeA (K:=K) (ρ:=ρ) (S:=s.S) (a:=a) (s:=s) (x:=mx) fun y hy=>hops y (by subst hy;simp[Op.operands]);refine za8 (m:=Instr.sliceAt t (a.eval x) (lo.map a.eval) (hi.map a.eval) (mx.map a.eval)) ?_ (zro hT hw (hops x (by simp[Op.operands])) h1.1 h1.2 h2.1 h2.2 h3.1 h3.2);intro v w' h;simp[execOp,hop,h]
 |fieldAddr t x f=>
  rw[hop] at hops;refine za8 (m:=Instr.fieldAt t (a.eval x) f) ?_ (ziE hT (hops x (by simp[Op.operands])) f);intro v w' h;simp[execOp,hop,h]
 |field t x f=>
  rw[hop] at hops;refine za8 (m:=Instr.field t (a.eval x) f) ?_ (zrs hT (hops x (by simp[Op.operands])) f);intro v w' h;simp[execOp,hop,h]
 |indexAddr t x ix=>
  rw[hop] at hops;refine za8 (m:=Instr.indexAt t (a.eval x) (a.eval ix)) ?_ (ziD hT hw (hops x (by simp[Op.operands])) (hops ix (by simp[Op.operands])));intro v w' h;simp[execOp,hop,h]
 |index t x ix=>
  rw[hop] at hops;refine za8 (m:=Instr.index t (a.eval x) (a.eval ix)) ?_ (zrr hT (hops x (by simp[Op.operands])) (hops ix (by simp[Op.operands])));intro v w' h;simp[execOp,hop,h]
 |extract t ix=>
  rw[hop] at hops;have h:=hops t (by simp[Op.operands])
  dsimp only
  split
  ·rename_i l hl;rw[hl] at h
   split
   ·rename_i d hd';rw[force_eq];generalize hv:a.eval t=vt at h
    cases h with
    |tup r=>
     obtain⟨y,hy,hr⟩:=r.get hd';exact⟨y,by simp[execOp,hop,hv,Instr.extract,hy],hr⟩
   ·trivial
  ·trivial
 |call c=>
  rw[hop] at hops;obtain⟨callee,args,argTypes⟩:=c
  cases callee with
  |value f=>
   dsimp only
   have h:=hops f (by simp[Op.operands,Call.operands])
   split
   ·rename_i k first cap hf
    rw[hf] at h;rw[zbN];generalize hv:a.eval f=vf at h;have hargs:=zd3 (K:=K) (ρ:=ρ) (S:=s.S) (a:=a) s args.toList fun x hx=>hops x (by simp[Op.operands,Call.operands];exact .inr (by simpa using hx))
    cases h with
    |fn r1 r2=>
     refine⟨_,?_,(r1.append hargs).append r2⟩;simp[execOp,hop,resolve,hv,Deferred.ofValue,invoke];congr 2
     apply Array.ext'
     simp
   ·trivial
  |invoke r m=>trivial
  |builtin b=>
   cases b<;>try trivial
   case append=>
    dsimp only
    split
    ·rename_i x y t t' dd h1 h2 h3;obtain⟨al⟩:=args;obtain⟨tl⟩:=argTypes;simp only at h1 h2;subst h1;subst h2;have hdd:dd=dst:=by
      rcases hd with hd|hd<;>rw[hd] at h3<;>simp at h3
      exact h3.symm
     subst hdd
     cases hb:Nat.beq t t' with
     |false=>trivial
     |true=>
      obtain rfl:=Nat.eq_of_beq_eq_true hb;refine za8 (m:=Builtin.append_ #[t,t] o.type #[a.eval x,a.eval y]) ?_ (zhF hT hw (hops x (by simp[Op.operands,Call.operands])) (hops y (by simp[Op.operands,Call.operands])));intro v w' h;simp[execOp,hop,resolve,invoke,builtin,h]
    ·trivial
   case len=>
    dsimp only
    split
    ·rename_i x t h1 h2;obtain⟨al⟩:=args;obtain⟨tl⟩:=argTypes;simp only at h1 h2;subst h1;subst h2;refine za8 (m:=Builtin.len_ #[t] o.type #[a.eval x]) ?_ (zwU hT (hops x (by simp[Op.operands,Call.operands])));intro v w' h;simp[execOp,hop,resolve,invoke,builtin,h]
    ·trivial
   case min=>
    dsimp only
    have hargs:=zd3 (K:=K) (ρ:=ρ) (S:=s.S) (a:=a) s args.toList fun x hx=>hops x (by simp[Op.operands,Call.operands];simpa using hx)
    split
    ·rename_i k n r h1;rw[h1] at hargs;generalize hvs:args.toList.map a.eval=vs at hargs
     cases hargs with
     |cons h hs=>
      obtain rfl:=zaP h;rename_i vs';refine za8 (m:=vs'.foldlM Builtin.min2 (.int k n)) ?_ (zrp #[] 0 r vs' k n hs);intro v w' hh;have:(args.map a.eval).toList=.int k n::vs':=by simpa using hvs
      simp[execOp,hop,resolve,invoke,builtin,Builtin.min_,hvs,hh]
    ·trivial
   case max=>
    dsimp only
    have hargs:=zd3 (K:=K) (ρ:=ρ) (S:=s.S) (a:=a) s args.toList fun x hx=>hops x (by simp[Op.operands,Call.operands];simpa using hx)
    split
    ·rename_i k n r h1;rw[h1] at hargs;generalize hvs:args.toList.map a.eval=vs at hargs
     cases hargs with
     |cons h hs=>
      obtain rfl:=zaP h;rename_i vs';refine za8 (m:=vs'.foldlM Builtin.max2 (.int k n)) ?_ (zrq #[] 0 r vs' k n hs);intro v w' hh;simp[execOp,hop,resolve,invoke,builtin,Builtin.max_,hvs,hh]
    ·trivial
 |store t x y=>
  dsimp only
  cases o.dst with
  |none=>
   exact zpx
  |some _=>trivial
 |mapUpdate t x y z=>
  dsimp only
  cases o.dst with
  |none=>exact zgE
  |some _=>trivial
 |insert t x y z=>
  dsimp only
  cases o.dst with
  |none=>exact zgE
  |some _=>trivial
 |lookup t x ix ok=>
  rw[hop] at hops;refine za8 (m:=Instr.lookup t (a.eval x) (a.eval ix) ok) ?_ (zpw hT hw (hops x (by simp[Op.operands])) (hops ix (by simp[Op.operands])) ok);intro v w' h;simp[execOp,hop,h]
 |makeMap t r=>
  rw[hop] at hops;refine hdst ?_;refine za8 (m:=Instr.makeMap t (r.map a.eval)) ?_ (zkW hT hw (fun d hd=>?_) fun hd=>?_)
  ·intro v w' h;simp[execOp,hop,h]
  ·cases r with
   |none=>cases hd
   |some x=>
    simp only[Option.map_some,Option.some.injEq] at hd;subst hd;exact⟨_,rfl,hops x (by simp[Op.operands])⟩
  ·cases r with
   |none=>rfl
   |some x=>cases hd
 |_=>trivial
def turns (o:Oper):Bool:=match o.op with
 |.store _ _ _=>true
 |.mapUpdate _ _ _ _=>true
 |.insert _ _ _ _=>true
 |.call {callee:=.builtin .append,.. }=>true
 |_=>false
def zby (s:St) (o:Oper):Option Nat:=match o.op with
 |.call {callee:=.builtin .append,args:=args,.. }=>match args.toList with
  |[x,_]=>zvf (evD s x)
  |_=>none
 |_=>none
theorem zvq (hT:TOk P T) {a:Act} (h:Inv E K ρ s a w) {o:Oper} (hm:turns o=true):SndM P E K ρ s.S a w o (zby s o) (exec T s o):=by
 unfold turns at hm
 split at hm
 ·rename_i t x y hop;unfold exec;rw[hop]
  dsimp only
  cases hd:o.dst with
  |none=>
   have:zby s o=none:=by simp[zby,hop]
   rw[this];exact zrn hT h hop hd (h.ev x) (h.ev y)
  |some _=>trivial
 ·rename_i t x y z hop;unfold exec;rw[hop]
  dsimp only
  cases hd:o.dst with
  |none=>
   have:zby s o=none:=by simp[zby,hop]
   rw[this];exact zhS hT h (.inl hop) hd (h.ev x) (h.ev y) (h.ev z)
  |some _=>trivial
 ·rename_i t x y z hop;unfold exec;rw[hop]
  dsimp only
  cases hd:o.dst with
  |none=>
   have:zby s o=none:=by simp[zby,hop]
   rw[this];exact zhS hT h (.inr hop) hd (h.ev x) (h.ev y) (h.ev z)
  |some _=>trivial
 ·rename_i args argTypes hop;unfold exec;rw[hop]
  dsimp only
  split
  ·rename_i x y t t' dd h1 h2 h3;obtain⟨al⟩:=args;obtain⟨tl⟩:=argTypes;simp only at h1 h2;subst h1;subst h2
   cases hb:Nat.beq t t' with
   |false=>trivial
   |true=>
    obtain rfl:=Nat.eq_of_beq_eq_true hb;have:zby s o=zvf (evD s x):=by simp[zby,hop]
    rw[this];exact zhE hT h hop h3 (h.ev x) (h.ev y)
  ·trivial
 ·cases hm
end
end Go.AI
