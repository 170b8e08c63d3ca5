/- The layer of abstract runs, part 18. -/
import Derived.Test.YtnojpbbaohoadaaGreatDoorIbxQ
set_option linter.unusedSimpArgs false
set_option linter.unusedVariables false
set_option linter.all false
set_option maxHeartbeats 4000000
namespace Go.AI
inductive MS where
 |at (ops:Array Oper) (rest:List Nat) (s:St) (o:Oper) (a:Ask) (k:List Item)
 |know (ops:Array Oper) (l:List Nat) (t:Nat) (b:Bool) (s:St) (k:List Item)
 |drawn (id:Nat) (ops:Array Oper) (s:St) (k:List Item)
 |cnd (b:Bool) (x:Operand) (ct cf:Code) (s:St) (k:List Item)
 |loop (body:Code) (s:St) (k:List Item)
 |ret (s:St)
 |stop (id:Nat) (ops:Array Oper) (draw:Bool) (s:St) (k:List Item)
 |pause (ops:Array Oper) (i:Nat) (rest:List Nat) (o:Oper) (s:St) (k:List Item)
 |bad
def zcc (adds H:Heap):Bool:=match adds with
 |[]=>true
 |(n,_)::r=>match look H n with
  |none=>zcc r H
  |some _=>false
theorem zcr:∀{adds H:Heap},zcc adds H=true→∀nm,look adds nm≠none→look H nm=none
 |[],H,_,nm,h=>absurd rfl h
 |(n,o)::r,H,hb,nm,h=>by
  simp only[zcc] at hb
  cases hl:look H n with
  |some _=>simp[hl] at hb
  |none=>
   simp only[hl] at hb;rw[zac] at h
   by_cases hn:n=nm
   ·subst hn;exact hl
   ·rw[if_neg hn] at h;exact zcr hb nm h
def setM (s:St) (t:Nat) (d:D):St:=match s with
 |⟨σ,S,n⟩=>⟨(t,d)::σ,S,n⟩
theorem zdH (s:St) (t:Nat) (d:D):setM s t d=s.set t d:=by cases s;rfl
def zri (s:St) (t:Nat) (d:D) (S':List Heap):St:=match s with
 |⟨σ,_,n⟩=>⟨(t,d)::σ,S',n⟩
theorem ziz (s:St) (t:Nat) (d:D) (S':List Heap):zri s t d S'={ σ:=(t,d)::s.σ,S:=S',n:=s.n}:=by cases s;rfl
def zkn {α β:Type}:List (Nat×α)→(List (Nat×α)→β)→β
 |[],k=>k []
 |(t,d)::r,k=>zkn r fun r'=>k ((t,d)::r')
theorem zhj {α β:Type}:∀(l:List (Nat×α)) (k:List (Nat×α)→β),zkn l k=k l
 |[],k=>rfl
 |(t,d)::r,k=>by simp only[zkn,zhj r]
def zlm {β:Type} (S:List Heap) (k:List Heap→β):β:=match S with
 |[]=>k []
 |H::O=>k (H::O)
theorem zid {β:Type} (S:List Heap) (k:List Heap→β):zlm S k=k S:=by cases S<;>rfl
def modM (s s':St) (k:St→MS):MS:=match s with
 |⟨_,_,n⟩=>bif Nat.beq s'.n n then zkn s'.σ fun σ=>zlm s'.S fun S=>k ⟨σ,S,n⟩ else .bad
def fin0 (o:Oper) (s:St) (a:Ask) (stop:MS) (k:St→MS):MS:=match a with
 |.val d=>match o.dst with
  |some t=>bif Nat.ble (t+1) s.n then k (setM s t d) else .bad
  |none=>.bad
 |.new adds d=>match o.dst,s.S with
  |some t,H::O=>bif Nat.ble (t+1) s.n&&zcc adds H then k (zri s t d ((adds++H)::O)) else .bad
  |_,_=>.bad
 |.mod s'=>bif turns o then modM s s' k else .bad
 |.bad=>.bad
 |_=>stop
def fin1 (own:Bool) (o:Oper) (s:St) (a:Ask) (stop:MS) (k:St→MS):MS:=match a with
 |.alt x y=>fin0 o s (bif own then x else y) .bad k
 |a=>fin0 o s a stop k
def memS:List Nat→Nat→Bool
 |[],_=>false
 |x::r,n=>bif Nat.beq x n then true else memS r n
def ownX (stp:List Nat) (ops:Array Oper) (o:Oper):Bool:=bif ownB ops o then true else match o.dst with
 |some t=>memS stp (100000+t)
 |none=>false
def zv8 (stp:List Nat) (o:Oper):Bool:=match o.dst with
 |some t=>memS stp (200000+t)
 |none=>false
def run (T:TT) (stp:List Nat):Nat→List Item→St→MS
 |0,_,_=>.bad
 |n+1,todo,s=>match todo with
  |[]=>.ret s
  |.inRegion ops l::k=>match l with
   |[]=>run T stp n k s
   |i::rest=>match ops[i]? with
    |none=>.bad
    |some o=>match o.guard with
     |none=>bif zv8 stp o then .pause ops i rest o s k else fin1 (ownX stp ops o) o s (exec T s o) (.at ops rest s o (exec T s o) k) fun s'=>run T stp n (.inRegion ops rest::k) s'
     |some (j,want)=>match (ops[j]?).bind (·.dst) with
      |none=>.bad
      |some t=>match s.get t with
       |.bt=>bif want then fin1 (ownX stp ops o) o s (exec T s o) (.at ops rest s o (exec T s o) k) fun s'=>run T stp n (.inRegion ops rest::k) s'
        else match o.dst with
         |some d=>bif Nat.ble (d+1) s.n then run T stp n (.inRegion ops rest::k) (setM s d (.tup [])) else .bad
         |none=>.bad
       |.bf=>bif want then (match o.dst with
         |some d=>bif Nat.ble (d+1) s.n then run T stp n (.inRegion ops rest::k) (setM s d (.tup [])) else .bad
         |none=>.bad)
        else fin1 (ownX stp ops o) o s (exec T s o) (.at ops rest s o (exec T s o) k) fun s'=>run T stp n (.inRegion ops rest::k) s'
       |.tup []=>(match o.dst with
         |some d=>bif Nat.ble (d+1) s.n then run T stp n (.inRegion ops rest::k) (setM s d (.tup [])) else .bad
         |none=>.bad)
       |.i (.v (.bool b))=>.know ops (i::rest) t b s k
       |_=>.bad
  |.code c::k=>match c with
   |.skip=>run T stp n k s
   |.region id ops draw=>bif memS stp id then .stop id ops draw s k else bif draw then .drawn id ops s k else run T stp n (.inRegion ops (List.range ops.size)::k) s
   |.seq x y=>run T stp n (.code x::.code y::k) s
   |.cond x a b=>match evD s x with
    |.bt=>run T stp n (.code a::k) s
    |.bf=>run T stp n (.code b::k) s
    |.i (.v (.bool t))=>.cnd t x a b s k
    |_=>.bad
   |.block id x=>run T stp n (.code x::.inBlock id::k) s
   |.loop x=>.loop x s k
   |.exit id=>match exitTo id k with
    |some k'=>run T stp n k' s
    |none=>.bad
   |.ret=>.ret s
   |_=>.bad
  |.inBlock _::k=>run T stp n k s
  |.inLoop x::k=>.loop x s k
  |_=>.bad
section
variable {c:Cx}
def Ret (c:Cx) (s:St):Prop:=∀K ρ a w,Inv c.E K ρ s a w→∃v,(results c.fn a.tmps).run c.P w=.ok v w∧c.post v w
def MSx (c:Cx):MS→Prop
 |.at ops rest s o a k=>Does c o s (fun s'=>RG c ops rest s' k) a
 |.know ops l t b s k=>RG c ops l s k
 |.drawn id ops s k=>Rch c (.code (.region id ops true)::k) s
 |.cnd b x ct cf s k=>Rch c (.code (.cond x ct cf)::k) s
 |.loop body s k=>Rch c (.code body::.inLoop body::k) s
 |.ret s=>Ret c s
 |.stop id ops draw s k=>Rch c (.code (.region id ops draw)::k) s
 |.pause ops i rest o s k=>RG c ops (i::rest) s k
 |.bad=>False
def Tgt (c:Cx) (todo:List Item) (s:St):Prop:=match todo with
 |.inRegion ops l::k=>RG c ops l s k
 |_=>Rch c todo s
theorem zjO {ops:Array Oper} {l:List Nat} {s:St} {k:List Item} (h:RG c ops l s k):Rch c (.inRegion ops l::k) s:=by
 intro K ρ a w b cs hi hb hk;obtain⟨e,a',w',⟨rfl,hq⟩,harr⟩:=wp_ops l a w (h K ρ a w hi) b k cs;obtain⟨v,w'',fr,hp,hst,h3⟩:=hq b cs hb hk;exact⟨v,w'',fr,hp,Steps.trans harr hst,h3⟩
theorem zfs {todo:List Item} {s:St} (h:Tgt c todo s):Rch c todo s:=by
 unfold Tgt at h
 split at h
 ·exact zjO h
 ·exact h
theorem zrD (hfn:c.P.funcs[c.f]? = some c.fn) {s:St} (h:Ret c s):Rch c [] s∧∀k,Rch c (.code .ret::k) s:=by
 refine⟨fun K ρ a w b cs hi hb hk=>?_,fun k K ρ a w b cs hi hb hk=>?_⟩
 ·obtain⟨v,hr,hp⟩:=h K ρ a w hi;exact⟨v,w,_,hp,.one step_end,hb,rfl,hi.defers,hk,c.fn,by rw[←hfn,←hb];rfl,hr⟩
 ·obtain⟨v,hr,hp⟩:=h K ρ a w hi;exact⟨v,w,_,hp,.one step_ret,hb,rfl,hi.defers,hk,c.fn,by rw[←hfn,←hb];rfl,hr⟩
theorem zln (hT:TOk c.P c.T) {o:Oper} {s:St} {ops:Array Oper} {rest:List Nat} {k:List Item} {g:St→MS} (hg:∀s',MSx c (g s')→RG c ops rest s' k) {a:Ask} {stop:MS}
  (hstop:MSx c stop→Does c o s (fun s'=>RG c ops rest s' k) a) (h:MSx c (fin0 o s a stop g)):Does c o s (fun s'=>RG c ops rest s' k) a:=by
 unfold fin0 at h
 split at h
 ·rename_i d;simp only[Does]
  split at h
  ·rename_i t ht;rw[ht]
   cases hb:Nat.ble (t+1) s.n with
   |false=>rw[hb] at h;exact h.elim
   |true=>
    rw[hb] at h;rw[cond_true,zdH] at h;exact⟨Nat.le_of_ble_eq_true hb,hg _ h⟩
  ·exact h.elim
 ·rename_i adds d;simp only[Does]
  split at h
  ·rename_i t H O ht hS;rw[ht,hS]
   cases hb:Nat.ble (t+1) s.n&&zcc adds H with
   |false=>rw[hb] at h;exact h.elim
   |true=>
    rw[hb] at h;simp only[Bool.and_eq_true] at hb;rw[cond_true,ziz] at h;exact⟨Nat.le_of_ble_eq_true hb.1,zcr hb.2,hg _ h⟩
  ·exact h.elim
 ·rename_i s';simp only[Does]
  cases hb:turns o with
  |false=>rw[hb] at h;exact h.elim
  |true=>
   rw[hb,cond_true] at h;refine⟨rfl,hg _ ?_⟩;unfold modM at h;obtain⟨σ0,S0,n0⟩:=s
   dsimp only at h
   cases hn:Nat.beq s'.n n0 with
   |false=>rw[hn] at h;exact h.elim
   |true=>
    rw[hn,cond_true,zhj,zid] at h;have e:s'=⟨s'.σ,s'.S,n0⟩:=by rw[←Nat.eq_of_beq_eq_true hn]
    rw[e];exact h
 ·exact h.elim
 ·exact hstop h
theorem zsF (hT:TOk c.P c.T) {o:Oper} {s:St} {ops:Array Oper} {rest:List Nat} {k:List Item} {g:St→MS} (hg:∀s',MSx c (g s')→RG c ops rest s' k) {a:Ask} {own:Bool} {stop:MS}
  (hstop:MSx c stop→Does c o s (fun s'=>RG c ops rest s' k) a) (h:MSx c (fin1 own o s a stop g)):Does c o s (fun s'=>RG c ops rest s' k) a:=by
 unfold fin1 at h
 split at h
 ·rename_i x y
  cases own with
  |true=>exact .inl (zln hT (ops:=ops) (stop:=.bad) hg (fun h=>h.elim) h)
  |false=>exact .inr (zln hT (ops:=ops) (stop:=.bad) hg (fun h=>h.elim) h)
 ·exact zln hT (ops:=ops) hg hstop h
theorem za5 (hT:TOk c.P c.T) (hfn:c.P.funcs[c.f]? = some c.fn):∀(n:Nat) (todo:List Item) (s:St),MSx c (run c.T c.stop n todo s)→Tgt c todo s:=by
 intro n
 induction n with
 |zero=>intro todo s h;exact h.elim
 |succ n ih=>
  intro todo s h;have ihR:∀todo s,MSx c (run c.T c.stop n todo s)→Rch c todo s:=fun todo s h=>zfs (ih todo s h);have ihG:∀ops l k s,MSx c (run c.T c.stop n (.inRegion ops l::k) s)→RG c ops l s k:=fun ops l k s h=>ih _ s h;unfold run at h
  split at h
  ·exact (zrD hfn h).1
  ·rename_i ops l k;show RG c ops l s k
   split at h
   ·exact zv7 (ihR _ _ h)
   ·rename_i i rest
    split at h
    ·exact h.elim
    ·rename_i o ho;have hrun:MSx c (fin1 (ownX c.stop ops o) o s (exec c.T s o) (.at ops rest s o (exec c.T s o) k) fun s'=>run c.T c.stop n (.inRegion ops rest::k) s')→zaN ops s o=some true→RG c ops (i::rest) s k:=by
      intro h hw;exact zw9 ho hw (zbJ hT (zsF hT (ops:=ops) (rest:=rest) (k:=k) (stop:=.at ops rest s o (exec c.T s o) k) (fun s' h=>ihG _ _ _ _ h) (fun h=>h) h))
     split at h
     ·rename_i hg
      cases hpb:zv8 c.stop o with
      |true=>rw[hpb] at h;exact h
      |false=>
       rw[hpb] at h;exact hrun h (by unfold zaN;rw[hg])
     ·rename_i j want hg
      split at h
      ·exact h.elim
      ·rename_i t ht
       split at h
       ·rename_i hs
        cases want with
        |true=>exact hrun h (by unfold zaN;simp only[hg,ht,hs])
        |false=>
         simp only[cond_false] at h
         split at h
         ·rename_i d hd
          cases hb:Nat.ble (d+1) s.n with
          |false=>rw[hb] at h;exact h.elim
          |true=>
           rw[hb,cond_true,zdH] at h;exact zkY ho (by unfold zaN;simp only[hg,ht,hs]) hd (Nat.le_of_ble_eq_true hb) (ihG _ _ _ _ h)
         ·exact h.elim
       ·rename_i hs
        cases want with
        |false=>exact hrun h (by unfold zaN;simp only[hg,ht,hs];rfl)
        |true=>
         simp only[cond_true] at h
         split at h
         ·rename_i d hd
          cases hb:Nat.ble (d+1) s.n with
          |false=>rw[hb] at h;exact h.elim
          |true=>
           rw[hb,cond_true,zdH] at h;exact zkY ho (by unfold zaN;simp only[hg,ht,hs];rfl) hd (Nat.le_of_ble_eq_true hb) (ihG _ _ _ _ h)
         ·exact h.elim
       ·rename_i hs
        split at h
        ·rename_i d hd
         cases hb:Nat.ble (d+1) s.n with
         |false=>rw[hb] at h;exact h.elim
         |true=>
          rw[hb,cond_true,zdH] at h;exact zkY ho (by unfold zaN;simp only[hg,ht,hs]) hd (Nat.le_of_ble_eq_true hb) (ihG _ _ _ _ h)
        ·exact h.elim
       ·exact h
       ·exact h.elim
  ·rename_i x k;show Rch c (.code x::k) s
   split at h
   ·exact zuG (ihR _ _ h)
   ·rename_i id ops draw
    cases hm:memS c.stop id with
    |true=>rw[hm] at h;exact h
    |false=>
     rw[hm] at h
     cases draw with
     |true=>exact h
     |false=>exact zhW (ihG _ _ _ _ h)
   ·exact zxd (ihR _ _ h)
   ·split at h
    ·rename_i hx;exact zpI hx (ihR _ _ h)
    ·rename_i hx;exact zpJ hx (ihR _ _ h)
    ·exact h
    ·exact h.elim
   ·exact zrG (ihR _ _ h)
   ·exact zuH h
   ·split at h
    ·rename_i he;exact zuJ he (ihR _ _ h)
    ·exact h.elim
   ·exact (zrD hfn h).2 k
   ·exact h.elim
  ·exact zk1 (ihR _ _ h)
  ·exact zpH h
  ·exact h.elim
theorem zaX (hT:TOk c.P c.T) (hfn:c.P.funcs[c.f]? = some c.fn) {todo:List Item} {s:St} (h:MSx c (run c.T c.stop 1000 todo s)):Rch c todo s:=zfs (za5 hT hfn 1000 todo s h)
def zwh {α:Type}:List α→Bool
 |[]=>false
 |_::_=>true
section
variable {ops:Array Oper} {rest:List Nat} {s:St} {o:Oper} {k:List Item}
def cont (T:TT) (stp:List Nat) (ops:Array Oper) (rest:List Nat) (s:St) (o:Oper) (a:Ask) (k:List Item):MS:=fin1 (ownX stp ops o) o s a (.at ops rest s o a k) fun s'=>run T stp 1000 (.inRegion ops rest::k) s'
theorem zjc (hT:TOk c.P c.T) (hfn:c.P.funcs[c.f]? = some c.fn) {a:Ask} (h:MSx c (cont c.T c.stop ops rest s o a k)):Does c o s (fun s'=>RG c ops rest s' k) a:=
 zsF hT (ops:=ops) (rest:=rest) (k:=k) (stop:=.at ops rest s o a k) (fun s' h=>za5 hT hfn 1000 (.inRegion ops rest::k) s' h) (fun h=>h) h
variable (hT:TOk c.P c.T) (hfn:c.P.funcs[c.f]? = some c.fn)
include hT hfn
theorem m_go {id:Nat} {draw:Bool} (h:MSx c (bif draw then .drawn id ops s k else run c.T c.stop 1000 (.inRegion ops (List.range ops.size)::k) s)):MSx c (.stop id ops draw s k):=by
 cases draw with
 |true=>exact h
 |false=>exact zhW (za5 hT hfn 1000 (.inRegion ops (List.range ops.size)::k) s h)
theorem zxt {i:Nat} {s':St} (ho:ops[i]? = some o) (hg:o.guard=none) (hw:∀K ρ a w,Inv c.E K ρ s a w→∃K' ρ',Inv c.E K' ρ' s' a w) (h:MSx c (cont c.T c.stop ops rest s' o (exec c.T s' o) k)):MSx c (.pause ops i rest o s k):=by
 have h1:RG c ops (i::rest) s' k:=zw9 ho (by unfold zaN;rw[hg]) (zbJ hT (zjc hT hfn h));intro K ρ a w hi;obtain⟨K',ρ',hi'⟩:=hw K ρ a w hi;exact h1 K' ρ' a w hi'
theorem zcY {p:Prop} {a:Ask} (hp:p) (h:MSx c (cont c.T c.stop ops rest s o a k)):MSx c (.at ops rest s o (.need p a) k):=⟨hp,zjc hT hfn h⟩
theorem zeq {xs:List (List I)} {i:Nat} {g:List I→Ask} {d:List I} (hd:xs[i]? = some d) (h:MSx c (cont c.T c.stop ops rest s o (g d) k)):MSx c (.at ops rest s o (.elem xs i g) k):=⟨d,hd,zjc hT hfn h⟩
theorem zu1 {dep nm:Nat} {g:Ob→Ask} {ob:Ob} (hd:zab s.S dep nm=some ob) (h:MSx c (cont c.T c.stop ops rest s o (g ob) k)):MSx c (.at ops rest s o (.obj dep nm g) k):=⟨ob,hd,zjc hT hfn h⟩
theorem zwf {p:Bool→Prop} {t:Nat} (ht:o.dst=some t) (hn:Nat.ble (t+1) s.n=true) (h:∀b,p b→MSx c (run c.T c.stop 1000 (.inRegion ops rest::k) (setM s t (.i (.v (.bool b)))))):MSx c (.at ops rest s o (.anyb p) k):=by
 show Does _ _ _ _ _;simp only[Does,ht];exact⟨Nat.le_of_ble_eq_true hn,fun b hb=>by have h':=h b hb;rw[zdH] at h';exact za5 hT hfn 1000 (.inRegion ops rest::k) _ h'⟩
theorem zcZ {f:FuncId} {args:List D} {res:D} {Hr H':Heap} {O':List Heap} {t:Nat} (hspec:zao c.P f (D.imms (zhe s.S) args) s.S res Hr (H'::O')) (ht:o.dst=some t) (hn:Nat.ble (t+1) s.n=true)
  (hne:zwh s.S=true) (hsh:shape (H'::O')=shape s.S) (hf:zcc Hr H'=true) (h:MSx c (run c.T c.stop 1000 (.inRegion ops rest::k) (zri s t res.down ((zcE Hr++H')::O')))):MSx c (.at ops rest s o (.call f args) k):=
 zkw hspec ht (Nat.le_of_ble_eq_true hn) (by
  intro e;rw[e] at hne
  cases hne) hsh (zcr hf) (by rw[ziz] at h;exact za5 hT hfn 1000 (.inRegion ops rest::k) _ h)
theorem zbu {l:List Nat} {t:Nat} {b:Bool} (ht:s.get t=.i (.v (.bool b))) (h1:b=true→MSx c (run c.T c.stop 1000 (.inRegion ops l::k) (setM s t .bt))) (h2:b=false→MSx c (run c.T c.stop 1000 (.inRegion ops l::k) (setM s t .bf))) :
  MSx c (.know ops l t b s k):=zxa ht (fun e=>by have h':=h1 e;rw[zdH] at h';exact za5 hT hfn 1000 (.inRegion ops l::k) _ h') (fun e=>by have h':=h2 e;rw[zdH] at h';exact za5 hT hfn 1000 (.inRegion ops l::k) _ h')
theorem za3 {b:Bool} {x:Operand} {ct cf:Code} (hx:evD s x=.i (.v (.bool b))) (h1:b=true→MSx c (run c.T c.stop 1000 (.code ct::k) s)) (h2:b=false→MSx c (run c.T c.stop 1000 (.code cf::k) s)):MSx c (.cnd b x ct cf s k):=
 zuK hx (fun e=>zfs (za5 hT hfn 1000 _ _ (h1 e))) (fun e=>zfs (za5 hT hfn 1000 _ _ (h2 e)))
end
end
end Go.AI
