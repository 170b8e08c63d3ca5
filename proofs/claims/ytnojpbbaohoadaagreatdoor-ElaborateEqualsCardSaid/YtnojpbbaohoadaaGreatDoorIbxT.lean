/- The layer of abstract runs, part 20. -/
import Derived.Test.YtnojpbbaohoadaaGreatDoorIbxS
import Derived.IntWalk
import Derived.Sort.Grow
import Derived.Deep.Draws
set_option linter.unusedSimpArgs false
set_option linter.unusedVariables false
set_option linter.all false
set_option maxHeartbeats 4000000
namespace Go.AI
inductive MD where
 |at (o:Oper) (rest:List Oper) (x:SH) (acc:List Pl) (a:Ask)
 |know (b:Bool) (t:Nat) (o:Oper) (rest:List Oper) (x:SH) (acc:List Pl)
 |modS (o:Oper) (rest:List Oper) (x:SH) (acc:List Pl) (s':St)
 |done (x:SH) (acc:List Pl)
 |bad
def zp0 (i:Nat):List Oper→Bool
 |[]=>false
 |o::r=>match o.guard with
  |some (j,_)=>bif Nat.beq j i then true else zp0 i r
  |none=>zp0 i r
def Pl.one (t:Nat) (d:D):Pl:=⟨[(t,d)],[],none⟩
def asBool:D→Option Bool
 |.i (.v (.bool b))=>some b
 |_=>none
def zhk {α β:Type}:List (Nat×α)→(List (Nat×α)→β)→β
 |[],k=>k []
 |(t,d)::r,k=>zhk r fun r'=>k ((t,d)::r')
theorem zie {α β:Type}:∀(l:List (Nat×α)) (k:List (Nat×α)→β),zhk l k=k l
 |[],k=>rfl
 |(t,d)::r,k=>by simp only[zhk,zie r]
def zhi {β:Type} (x:SH) (k:SH→β):β:=zhk x.1 fun a=>zhk x.2 fun b=>k (a,b)
theorem zfa {β:Type} (x:SH) (k:SH→β):zhi x k=k x:=by simp only[zhi,zie]
section
variable (T:TT) (ops:Array Oper) (O:List Heap) (n:Nat)
abbrev vw (o:Oper) (x:SH):St:=St.of O n (zaI ops o x)
def zvo (o:Oper) (rest:List Oper) (x:SH) (acc:List Pl) (a:Ask) (stop:MD) (k:Pl→MD):MD:=match a with
 |.alt _ _=>.bad
 |.val d=>match o.dst,zby (vw ops O n o x) o with
  |some t,none=>bif Nat.ble (t+1) n then (bif zp0 acc.length ops.toList then (match asBool d with
    |some b=>.know b t o rest x acc
    |none=>k (.one t d)) else k (.one t d)) else .bad
  |_,_=>.bad
 |.new adds d=>match o.dst,zby (vw ops O n o x) o with
  |some t,none=>bif Nat.ble (t+1) n&&zcc adds (zaI ops o x).2 then k ⟨[(t,d)],adds,none⟩ else .bad
  |_,_=>.bad
 |.mod s'=>bif turns o then .modS o rest x acc s' else .bad
 |.bad=>.bad
 |_=>stop
def finD (o:Oper) (rest:List Oper) (x:SH) (acc:List Pl) (a:Ask) (stop:MD) (k:Pl→MD):MD:=match a with
 |.alt y z=>zvo ops O n o rest x acc (bif ownB ops o then y else z) .bad k
 |a=>zvo ops O n o rest x acc a stop k
def runD:List Oper→SH→List Pl→MD
 |[],x,acc=>.done x acc
 |o::rest,x,acc=>zhi x fun x=>match zaN ops (vw ops O n o x) o with
  |none=>.bad
  |some false=>match o.dst with
   |some t=>bif Nat.ble (t+1) n then runD rest ((Pl.one t (.tup [])).ap x) (acc++[.one t (.tup [])]) else .bad
   |none=>.bad
  |some true=>finD ops O n o rest x acc (exec T (vw ops O n o x) o) (.at o rest x acc (exec T (vw ops O n o x) o)) fun p=>runD rest (p.ap x) (acc++[p])
def zxU (o:Oper) (rest:List Oper) (x:SH) (acc:List Pl) (a:Ask):MD:=finD ops O n o rest x acc a (.at o rest x acc a) fun p=>runD T ops O n rest (p.ap x) (acc++[p])
end
def PQ (O:List Heap) (n:Nat) (v:SH) (p:Pl) (s':St):Prop:=
 s'.S=(p.adds++rmv p.rem v.2)::O∧s'.n=n ∧
  ∀t d,look p.sets t=some d→d=.dead∨look s'.σ t=some d∨(d=.bt∧look s'.σ t=some (.i (.v (.bool true))))∨(d=.bf∧look s'.σ t=some (.i (.v (.bool false))))
theorem zeX {c:Cx} {ops:Array Oper} {O:List Heap} {n:Nat} {o:Oper} {v:SH} {p:Pl} (hw:zaN ops (St.of O n v) o=some true) (hg:p.rem=zby (St.of O n v) o)
  (h:∀E,EOk c.E E O→Stp {c with E:=E} o (St.of O n v) (PQ O n v p)):zc3 c ops O n o v p:=by
 refine .inr ⟨hw,fun E hE K ρ a w hi next Qe hn=>h E hE K ρ a w hi next Qe fun val w' s' K' ρ' hle hk hi' hq=>?_⟩;obtain⟨h1,h2,h3⟩:=hq;have hh:=hi'.h;rw[h1] at hh hk;refine hn val w' p.sets K' ρ' hle (fun d n x e1 e2=>hk d n x (by rw[←hg];exact e1) e2) ⟨hh,hi'.defers,by rw[hi'.size,h2],fun t d e=>?_⟩ fun t d e=>.inr e;have hsl:=fun d (e:look s'.σ t=some d)=>hi'.slots t d e;rw[h1] at hsl;rcases h3 t d e with rfl|h4|⟨rfl,h4⟩|⟨rfl,h4⟩
 ·exact .dead _
 ·exact hsl _ h4
 ·have:=zaP (hsl _ h4);rw[this];exact .bt
 ·have:=zaP (hsl _ h4);rw[this];exact .bf
section
variable (c:Cx) (ops:Array Oper) (O:List Heap) (n:Nat) (F:SH→List Pl→Prop)
def GD (rest:List Oper) (x:SH) (acc:List Pl):Prop:=∃qs,zdX c ops O n rest qs x∧F (zbS qs x) (acc++qs)
def DG (o:Oper) (rest:List Oper) (x:SH) (acc:List Pl) (a:Ask):Prop:=
 ∃p,p.rem=zby (vw ops O n o x) o∧(∀E,EOk c.E E O→Does {c with E:=E} o (vw ops O n o x) (PQ O n (zaI ops o x) p) a)∧GD c ops O n F rest (p.ap x) (acc++[p])
def MDx:MD→Prop
 |.at o rest x acc a=>DG c ops O n F o rest x acc a
 |.know b t o rest x acc=>(b=true→GD c ops O n F rest ((Pl.one t .bt).ap x) (acc++[.one t .bt]))∧(b=false→GD c ops O n F rest ((Pl.one t .bf).ap x) (acc++[.one t .bf]))
 |.modS o rest x acc s'=>∃p,p.rem=zby (vw ops O n o x) o∧PQ O n (zaI ops o x) p s'∧GD c ops O n F rest (p.ap x) (acc++[p])
 |.done x acc=>F x acc
 |.bad=>False
end
section
variable {c:Cx} {ops:Array Oper} {O:List Heap} {n:Nat} {F:SH→List Pl→Prop}
theorem zdR {o:Oper} {rest:List Oper} {x:SH} {acc:List Pl} {p:Pl} (hs:zc3 c ops O n o (zaI ops o x) p) (h:GD c ops O n F rest (p.ap x) (acc++[p])):GD c ops O n F (o::rest) x acc:=by
 obtain⟨qs,h1,h2⟩:=h;refine⟨p::qs,⟨hs,h1⟩,?_⟩;rw[List.append_assoc] at h2;exact h2
theorem zaU {α:Type} {t t':Nat} {d d':α} (h:look [(t,d)] t'=some d'):t=t'∧d=d':=by
 rw[zac] at h
 split at h
 ·rename_i e;exact⟨e,by simpa using h⟩
 ·simp[look] at h
theorem zi7 {o:Oper} {rest:List Oper} {x:SH} {acc:List Pl} {a:Ask} {stop:MD} {k:Pl→MD} (hk:∀p,MDx c ops O n F (k p)→GD c ops O n F rest (p.ap x) (acc++[p])) (hstop:MDx c ops O n F stop→DG c ops O n F o rest x acc a)
  (h:MDx c ops O n F (zvo ops O n o rest x acc a stop k)):DG c ops O n F o rest x acc a:=by
 unfold zvo at h
 split at h
 ·exact h.elim
 ·rename_i d
  split at h
  ·rename_i t ht hg;have hval:Nat.ble (t+1) n=true→MDx c ops O n F (k (.one t d))→DG c ops O n F o rest x acc (.val d):=by
    intro hb h;refine⟨.one t d,hg.symm,fun E hE=>?_,hk _ h⟩;simp only[Does,ht];refine⟨Nat.le_of_ble_eq_true hb,rfl,rfl,fun t' d' e=>?_⟩;obtain⟨rfl,rfl⟩:=zaU e;exact .inr (.inl (by simp[St.set,zac]))
   cases hb:Nat.ble (t+1) n with
   |false=>rw[hb] at h;exact h.elim
   |true=>
    rw[hb] at h;simp only[cond_true] at h
    cases hsrc:zp0 acc.length ops.toList with
    |false=>rw[hsrc] at h;exact hval hb h
    |true=>
     rw[hsrc] at h;simp only[cond_true] at h
     split at h
     ·rename_i b hbool;have hd:d=.i (.v (.bool b)):=by
       unfold asBool at hbool
       split at hbool
       ·simpa using hbool
       ·cases hbool
      subst hd
      cases b with
      |true=>
       refine⟨.one t .bt,hg.symm,fun E hE=>?_,h.1 rfl⟩;simp only[Does,ht];refine⟨Nat.le_of_ble_eq_true hb,rfl,rfl,fun t' d' e=>?_⟩;obtain⟨rfl,rfl⟩:=zaU e;exact .inr (.inr (.inl ⟨rfl,by simp[St.set,zac]⟩))
      |false=>
       refine⟨.one t .bf,hg.symm,fun E hE=>?_,h.2 rfl⟩;simp only[Does,ht];refine⟨Nat.le_of_ble_eq_true hb,rfl,rfl,fun t' d' e=>?_⟩;obtain⟨rfl,rfl⟩:=zaU e;exact .inr (.inr (.inr ⟨rfl,by simp[St.set,zac]⟩))
     ·exact hval hb h
  ·exact h.elim
 ·rename_i adds d
  split at h
  ·rename_i t ht hg
   cases hb:Nat.ble (t+1) n&&zcc adds (zaI ops o x).2 with
   |false=>rw[hb] at h;exact h.elim
   |true=>
    rw[hb] at h;simp only[Bool.and_eq_true] at hb;refine⟨⟨[(t,d)],adds,none⟩,hg.symm,fun E hE=>?_,hk _ h⟩;simp only[Does,ht,St.of];refine⟨Nat.le_of_ble_eq_true hb.1,zcr hb.2,rfl,rfl,fun t' d' e=>?_⟩;obtain⟨rfl,rfl⟩:=zaU e;exact .inr (.inl (by simp[zac]))
  ·exact h.elim
 ·rename_i s'
  cases ht:turns o with
  |false=>rw[ht] at h;exact h.elim
  |true=>
   rw[ht] at h;obtain⟨p,h1,h2,h3⟩:=h;exact⟨p,h1,fun E hE=>⟨ht,h2⟩,h3⟩
 ·exact h.elim
 ·exact hstop h
theorem zsE {o:Oper} {rest:List Oper} {x:SH} {acc:List Pl} {a:Ask} {stop:MD} {k:Pl→MD} (hk:∀p,MDx c ops O n F (k p)→GD c ops O n F rest (p.ap x) (acc++[p])) (hstop:MDx c ops O n F stop→DG c ops O n F o rest x acc a)
  (h:MDx c ops O n F (finD ops O n o rest x acc a stop k)):DG c ops O n F o rest x acc a:=by
 unfold finD at h
 split at h
 ·rename_i y z
  cases hb:ownB ops o with
  |true=>
   rw[hb] at h;obtain⟨p,h1,h2,h3⟩:=zi7 (stop:=.bad) hk (fun h=>h.elim) h;exact⟨p,h1,fun E hE=>.inl (h2 E hE),h3⟩
  |false=>
   rw[hb] at h;obtain⟨p,h1,h2,h3⟩:=zi7 (stop:=.bad) hk (fun h=>h.elim) h;exact⟨p,h1,fun E hE=>.inr (h2 E hE),h3⟩
 ·exact zi7 hk hstop h
variable (hT:TOk c.P c.T)
include hT
theorem zcf:∀(rest:List Oper) (x:SH) (acc:List Pl),MDx c ops O n F (runD c.T ops O n rest x acc)→GD c ops O n F rest x acc
 |[],x,acc,h=>⟨[],trivial,by rw[List.append_nil];exact h⟩
 |o::rest,x,acc,h=>by
  unfold runD at h;rw[zfa] at h
  split at h
  ·exact h.elim
  ·rename_i hw
   split at h
   ·rename_i t ht
    cases hb:Nat.ble (t+1) n with
    |false=>rw[hb] at h;exact h.elim
    |true=>
     rw[hb] at h;exact zdR (.inl ⟨hw,t,ht,Nat.le_of_ble_eq_true hb,rfl⟩) (zcf rest _ _ h)
   ·exact h.elim
  ·rename_i hw;obtain⟨p,h1,h2,h3⟩:=zsE (stop:=.at o rest x acc (exec c.T (vw ops O n o x) o)) (fun p h=>zcf rest _ _ h) (fun h=>h) h;exact zdR (zeX hw h1 fun E hE=>zbJ (c:={ c with E:=E}) hT (h2 E hE)) h3
theorem znV {o:Oper} {rest:List Oper} {x:SH} {acc:List Pl} {a:Ask} (h:MDx c ops O n F (zxU c.T ops O n o rest x acc a)):DG c ops O n F o rest x acc a:=
 zsE (stop:=.at o rest x acc a) (fun p h=>zcf hT rest _ _ h) (fun h=>h) h
variable {o:Oper} {rest:List Oper} {x:SH} {acc:List Pl}
theorem zes {q:Prop} {a:Ask} (hp:q) (h:MDx c ops O n F (zxU c.T ops O n o rest x acc a)):MDx c ops O n F (.at o rest x acc (.need q a)):=by
 obtain⟨p,h1,h2,h3⟩:=znV hT h;exact⟨p,h1,fun E hE=>⟨hp,h2 E hE⟩,h3⟩
theorem zwo {xs:List (List I)} {i:Nat} {g:List I→Ask} {d:List I} (hd:xs[i]? = some d) (h:MDx c ops O n F (zxU c.T ops O n o rest x acc (g d))):MDx c ops O n F (.at o rest x acc (.elem xs i g)):=by
 obtain⟨p,h1,h2,h3⟩:=znV hT h;exact⟨p,h1,fun E hE=>⟨d,hd,h2 E hE⟩,h3⟩
end
def zfI (g:Option Nat):List (Nat×D)→List (Nat×D)
 |[]=>[]
 |(t,d)::r=>bif d.within (butG g) then zfI g r else (t,.dead)::zfI g r
theorem zdU {g:Option Nat} {t:Nat} {d:D}:∀{l:List (Nat×D)},look (zfI g l) t=some d→d=.dead
 |[],h=>by simp[zfI,look] at h
 |(k,x)::r,h=>by
  simp only[zfI] at h
  cases hw:x.within (butG g) with
  |true=>rw[hw] at h;exact zdU h
  |false=>
   rw[hw,cond_false,zac] at h
   split at h
   ·simpa using h.symm
   ·exact zdU h
def dstL (o:Oper) (s':St):List (Nat×D):=match o.dst with
 |some t=>[(t,s'.get t)]
 |none=>[]
def zy4 (S:List Heap):Heap:=match S with
 |(y::_)::_=>[y]
 |_=>[]
def zxn (ops:Array Oper) (O:List Heap) (n:Nat) (o:Oper) (x:SH) (s':St):Pl:=
 ⟨dstL o s' ++ zfI (zby (vw ops O n o x) o) x.1,zy4 s'.S,zby (vw ops O n o x) o⟩
section
variable {c:Cx} {ops:Array Oper} {O:List Heap} {n:Nat} {F:SH→List Pl→Prop} (hT:TOk c.P c.T) {o:Oper} {rest:List Oper} {x:SH} {acc:List Pl}
include hT
theorem zlA {s':St} {p:Pl} (hp:zxn ops O n o x s'=p) (hS:s'.S=(p.adds++rmv p.rem (zaI ops o x).2)::O) (hn:s'.n=n) (h:MDx c ops O n F (runD c.T ops O n rest (p.ap x) (acc++[p]))):MDx c ops O n F (.modS o rest x acc s'):=by
 subst hp;refine⟨zxn ops O n o x s',rfl,⟨hS,hn,fun t d e=>?_⟩,zcf hT _ _ _ h⟩;simp only[zxn,zbY] at e
 cases hl:look (dstL o s') t with
 |none=>rw[hl] at e;exact .inl (zdU e)
 |some d'=>
  rw[hl] at e;simp only[Option.some.injEq] at e;subst e;unfold dstL at hl
  split at hl
  ·obtain⟨rfl,rfl⟩:=zaU hl;unfold St.get
   split
   ·rename_i h1;exact .inr (.inl h1)
   ·exact .inl rfl
  ·simp[look] at hl
variable (hfn:c.P.funcs[c.f]? = some c.fn)
include hfn
theorem zkx {k:List Item} {x0:SH} (hok:okD ops acc x0=true) (h:MSx c (run c.T c.stop 1000 k (St.of O n x))):MDx c ops O n (FD c ops O n x0 k) (.done x acc):=zsG hok (zfs (za5 hT hfn 1000 k _ h))
theorem zxu {id:Nat} {s:St} {k:List Item} (hm:c.P.follows .mixedOrders=true) {H:Heap} (hS:s.S=H::O) (h:MDx c ops O s.n (FD c ops O s.n (s.σ,H) k) (runD c.T ops O s.n ops.toList (s.σ,H) [])) :
  MSx c (.drawn id ops s k):=by
 obtain⟨qs,h1,h2⟩:=zcf hT _ _ _ h;rw[List.nil_append] at h2;have hs:s=St.of O s.n (s.σ,H):=by
  cases s
  simp only at hS;subst hS;rfl
 show Rch c (.code (.region id ops true)::k) s;rw[hs];exact znm hm h2.1 h1 h2.2
end
theorem zd8 {α:Type} {l:List (Nat×α)} {t:Nat}:∀{ks:List Nat},t∈ks→look (zgK l ks) t=look l t
 |k::r,h=>by
  simp only[zgK]
  by_cases hk:k=t
  ·subst hk
   cases hl:look l k with
   |some d=>simp[zac]
   |none=>
    simp only
    cases hr:look (zgK l r) k with
    |none=>rfl
    |some d=>have:=zcF hr;rw[hl] at this;cases this
  ·have ht:t∈r:=by
    rcases List.mem_cons.1 h with h|h
    ·exact absurd h.symm hk
    ·exact h
   cases hl:look l k with
   |some d=>simp only[zac,if_neg hk];exact zd8 ht
   |none=>exact zd8 ht
theorem zh0 {t:Nat} {d:D} {nm:Nat}:∀{l:List (Nat×D)},look l t=some d→nm∈d.names→nm∈zjX l
 |[],h,_=>by simp[look] at h
 |(k,x)::r,h,hn=>by
  simp only[zjX,List.mem_append];rw[zac] at h
  split at h
  ·simp only[Option.some.injEq] at h;subst h;exact .inl hn
  ·exact .inr (zh0 h hn)
def Ags (s s':St) (d:D):Prop:=∀nm∈d.names,zab s.S 0 nm=zab s'.S 0 nm
section
variable {T:TT} {s s':St}
theorem zci {dep nm:Nat} {k:Ob→Ask} (h:dep=0→zab s.S 0 nm=zab s'.S 0 nm):zcv s dep nm k=zcv s' dep nm k:=by
 unfold zcv
 cases dep with
 |zero=>simp only[h rfl]
 |succ d=>rfl
theorem zku {t:Nat} {p:D} (h:Ags s s' p):zhp T s t p=zhp T s' t p:=by
 unfold zhp
 split
 ·rfl
 ·split
  ·refine zci fun e=>?_;subst e;exact h _ (by simp[D.names])
  ·rfl
  ·rfl
theorem zfG {t:Nat} {x ix:D} (h:Ags s s' x):zcl T s t x ix=zcl T s' t x ix:=by
 unfold zcl
 split
 ·split
  ·refine congrArg _ (funext fun z=>?_)
   split
   ·rfl
   ·rfl
   ·refine zci fun e=>?_;subst e;exact h _ (by simp[D.names])
   ·refine zci fun e=>?_;exact h _ (by simp[D.names])
   ·rfl
   ·rfl
  ·rfl
  ·rfl
 ·rfl
theorem zlp {t:Nat} {x:D} (h:Ags s s' x):zp8 T s t x=zp8 T s' t x:=by
 unfold zp8
 split
 ·rfl
 ·rfl
 ·rfl
 ·rfl
 ·refine zci fun e=>?_;subst e;exact h _ (by simp[D.names])
 ·rfl
 ·rfl
theorem zkA {x:D} {k:Nat→Nat→List (List I)→Ask} (h:Ags s s' x):zik s x k=zik s' x k:=by
 unfold zik
 split
 ·rfl
 ·rfl
 ·refine zci fun e=>?_;subst e;exact h _ (by simp[D.names])
 ·rfl
theorem zja {t:Nat} {x:D} {lo hi mx:Option D} (h:Ags s s' x):zfF T s t x lo hi mx=zfF T s' t x lo hi mx:=by
 unfold zfF
 split
 ·refine congrArg _ (funext fun z=>?_);exact zkA h
 ·rfl
 ·rfl
theorem zhH {t:Nat} {x ix:D} {ok:Bool} (h:Ags s s' x):zee T s t x ix ok=zee T s' t x ix ok:=by
 unfold zee
 split
 ·split
  ·split
   ·refine zci fun e=>?_;subst e;exact h _ (by simp[D.names])
   ·rfl
  ·rfl
 ·rfl
def roB (o:Oper):Bool:=match o.op with
 |.call {callee:=.builtin .append,.. }=>false
 |.store _ _ _=>false
 |.mapUpdate _ _ _ _=>false
 |.insert _ _ _ _=>false
 |_=>true
theorem zcX {l:List Operand} (h:∀x∈l,evD s x=evD s' x):l.map (evD s)=l.map (evD s'):=List.map_congr_left h
theorem zp6 {o:Oper} (hro:roB o=true) (hev:∀x∈o.op.operands.toList,evD s x=evD s' x) (hob:∀x∈o.op.operands.toList,Ags s s' (evD s x)):exec T s o=exec T s' o:=by
 obtain⟨dst,op,ty,pos,after,guard⟩:=o
 cases op with
 |move x|assign x|nilCheck x|unOp _ _ x|convert _ _ x|fieldAddr _ x _|field _ x _|extract x _=>
  have h1:=hev x (by simp[Op.operands]);simp only[exec,h1]
 |pick c a b=>
  simp only[exec,hev c (by simp[Op.operands]),hev a (by simp[Op.operands]),hev b (by simp[Op.operands])]
 |alloc t=>rfl
 |box t x=>simp only[exec,hev x (by simp[Op.operands])]
 |build t parts=>
  have:(parts.toList.map fun p=>(p.1,evD s p.2))=parts.toList.map fun p=>(p.1,evD s' p.2):=List.map_congr_left fun p hp=>by
   rw[hev p.2 (by simp only[Op.operands];exact List.mem_map.2 ⟨p,hp,rfl⟩)]
  simp only[exec,this]
 |buildSlice t len parts=>
  have:(parts.toList.map fun p=>(p.1,evD s p.2))=parts.toList.map fun p=>(p.1,evD s' p.2):=List.map_congr_left fun p hp=>by
   rw[hev p.2 (by simp only[Op.operands];exact List.mem_map.2 ⟨p,hp,rfl⟩)]
  simp only[exec,this]
 |load t a=>
  simp only[exec];rw[zku (hob a (by simp[Op.operands])),hev a (by simp[Op.operands])]
 |store=>simp[roB] at hro
 |mapUpdate=>simp[roB] at hro
 |insert=>simp[roB] at hro
 |binOp op t x y _=>simp only[exec,hev x (by simp[Op.operands]),hev y (by simp[Op.operands])]
 |makeFunc fn first cap=>
  have h1:first.toList.map (evD s)=first.toList.map (evD s'):=zcX fun x hx=>hev x (by simp only[Op.operands,Array.toList_append,List.mem_append];exact .inl hx)
  have h2:cap.toList.map (evD s)=cap.toList.map (evD s'):=zcX fun x hx=>hev x (by simp only[Op.operands,Array.toList_append,List.mem_append];exact .inr hx);simp only[exec,h1,h2]
 |makeSlice t l c=>simp only[exec,hev l (by simp[Op.operands]),hev c (by simp[Op.operands])]
 |slice t x lo hi mx=>
  have hx:=hob x (by simp[Op.operands]);have h0:=hev x (by simp[Op.operands]);have h1:lo.map (evD s)=lo.map (evD s'):=by
   cases lo with
   |none=>rfl
   |some a=>simp only[Option.map_some,hev a (by simp[Op.operands])]
  have h2:hi.map (evD s)=hi.map (evD s'):=by
   cases hi with
   |none=>rfl
   |some a=>simp only[Option.map_some,hev a (by simp[Op.operands])]
  have h3:mx.map (evD s)=mx.map (evD s'):=by
   cases mx with
   |none=>rfl
   |some a=>simp only[Option.map_some,hev a (by simp[Op.operands])]
  simp only[exec];rw[zja hx,h0,h1,h2,h3]
 |indexAddr t x ix=>
  simp only[exec];rw[zfG (hob x (by simp[Op.operands])),hev x (by simp[Op.operands]),hev ix (by simp[Op.operands])]
 |makeMap t r=>
  have h1:r.map (evD s)=r.map (evD s'):=by
   cases r with
   |none=>rfl
   |some a=>simp only[Option.map_some,hev a (by simp[Op.operands])]
  simp only[exec,h1]
 |lookup t x ix ok=>
  simp only[exec];rw[zhH (hob x (by simp[Op.operands])),hev x (by simp[Op.operands]),hev ix (by simp[Op.operands])]
 |index t x ix=>simp only[exec,hev x (by simp[Op.operands]),hev ix (by simp[Op.operands])]
 |call c=>
  obtain⟨callee,args,argTypes⟩:=c;have ha:∀x∈args.toList,evD s x=evD s' x:=fun x hx=>hev x (by simp only[Op.operands,Call.operands,Array.toList_append,List.mem_append];exact .inr hx);have hb:∀x∈args.toList,Ags s s' (evD s x):=fun x hx=>hob x (by simp only[Op.operands,Call.operands,Array.toList_append,List.mem_append];exact .inr hx)
  cases callee with
  |value f=>
   have h1:evD s f=evD s' f:=hev f (by simp[Op.operands,Call.operands]);simp only[exec,h1,zcX ha]
  |invoke=>rfl
  |builtin b=>
   cases b with
   |append=>simp[roB] at hro
   |len=>
    simp only[exec]
    split
    ·rename_i x t e1 e2;rw[zlp (hb x (by rw[e1];simp)),ha x (by rw[e1];simp)]
    ·rfl
   |min|max=>simp only[exec,zcX ha]
   |_=>rfl
 |_=>rfl
end
theorem zm6 {ops:Array Oper} {O:List Heap} {n:Nat} {o:Oper} {x:SH} {t:Nat} (h:t∈o.looksAt ops):(St.of O n (zaI ops o x)).get t=(St.of O n x).get t:=by
 unfold St.get St.of zaI;simp only[zd8 h]
theorem zit {ops:Array Oper} {O:List Heap} {n:Nat} {o:Oper} {x:SH} {y:Operand} (h:y∈o.op.operands.toList):evD (St.of O n (zaI ops o x)) y=evD (St.of O n x) y:=by
 cases y with
 |tmp t=>exact zm6 (by unfold Oper.looksAt;exact List.mem_append.2 (.inl (List.mem_filterMap.2 ⟨_,h,rfl⟩)))
 |const=>rfl
 |global=>rfl
 |func=>rfl
theorem zm7 {ops:Array Oper} {O:List Heap} {n:Nat} {o:Oper} {x:SH} {y:Operand} (h:y∈o.op.operands.toList):Ags (St.of O n (zaI ops o x)) (St.of O n x) (evD (St.of O n (zaI ops o x)) y):=by
 intro nm hn
 cases y with
 |tmp t=>
  have ht:t∈o.looksAt ops:=by unfold Oper.looksAt;exact List.mem_append.2 (.inl (List.mem_filterMap.2 ⟨_,h,rfl⟩))
  simp only[evD,St.get] at hn
  split at hn
  ·rename_i d hd;have:nm∈zjX (zaI ops o x).1:=zh0 hd hn;simp only[zab,St.of,List.getElem?_cons_zero];exact zd8 (List.mem_append.2 (.inl this))
  ·simp[D.names] at hn
 |const v=>
  simp only[evD] at hn
  cases hv:v.oneCell'<;>simp[hv,D.names] at hn
 |global=>simp[evD,D.names] at hn
 |func=>simp[evD,D.names,D.namesL] at hn
theorem zq4 {T:TT} {ops:Array Oper} {O:List Heap} {n:Nat} {o:Oper} {x:SH} (hro:roB o=true):exec T (St.of O n (zaI ops o x)) o=exec T (St.of O n x) o:=
 zp6 hro (fun y hy=>zit hy) (fun y hy=>zm7 hy)
theorem zet {ops:Array Oper} {O:List Heap} {n:Nat} {o:Oper} {x:SH}:zaN ops (St.of O n (zaI ops o x)) o=zaN ops (St.of O n x) o:=by
 unfold zaN
 cases hg:o.guard with
 |none=>rfl
 |some g=>
  obtain⟨j,want⟩:=g;simp only
  cases ht:(ops[j]?).bind (·.dst) with
  |none=>rfl
  |some t=>
   simp only;rw[zm6 (by unfold Oper.looksAt;rw[hg];simp[ht])]
theorem zhh {adds H H':Heap} (h:∀n o,look H' n=some o→look H n=some o):zcc adds H=true→zcc adds H'=true:=by
 induction adds with
 |nil=>intro _;rfl
 |cons a r ih=>
  obtain⟨n,o⟩:=a;intro hb;simp only[zcc] at hb ⊢
  cases hl:look H n with
  |some _=>simp[hl] at hb
  |none=>
   simp only[hl] at hb
   cases hl':look H' n with
   |some _=>have:=h _ _ hl';rw[hl] at this;cases this
   |none=>exact ih hb
theorem zis {ops:Array Oper} {o:Oper} {x:SH}:∀n ob,look (zaI ops o x).2 n=some ob→look x.2 n=some ob:=fun n ob h=>zcF h
theorem zhg {s:St} {o:Oper} (h:roB o=true):zby s o=none:=by
 unfold zby;unfold roB at h
 split<;>simp_all
inductive SA where
 |put (nm:Nat) (ob:Ob)
 |elem (xs:List (List I)) (i:Nat) (k:List I→SA)
 |bad
def zi4 (l:List D) (k:List D→SA):SA:=match l with
 |[]=>k []
 |d::r=>zi4 r fun r=>k (d::r)
theorem zp4 (l:List D) (k:List D→SA):zi4 l k=k l:=by
 induction l generalizing k with
 |nil=>rfl
 |cons d r ih=>simp only[zi4,ih]
def zgl (T:TT) (H:Heap) (t:Nat) (p v:D):SA:=match look T t with
 |none=>.bad
 |some i=>bif !(Nat.beq v.cells.length i.size&&D.ones v.cells) then .bad else match p with
  |.own 0 nm x off=>(match look H nm with
   |some (.box cs)=>bif Nat.ble (off+i.size) cs.length then zi4 (zfR cs off v.cells) fun cs'=>.put nm (.box cs') else .bad
   |some (.arr ty es n xs true)=>(match D.toIs v.cells with
    |some l=>bif Nat.beq off 0&&Nat.beq i.size es then .put nm (.arr ty es n (xs.set x l) true)
     else .elem xs x fun d=>bif Nat.ble (off+i.size) d.length then .put nm (.arr ty es n (xs.set x (zbR d off l)) true) else .bad
    |none=>.bad)
   |_=>.bad)
  |_=>.bad
def SA.gives (a:SA) (nm:Nat) (ob:Ob):Prop:=a=.put nm ob∨∃xs j g d,a=.elem xs j g∧xs[j]? = some d∧g d=.put nm ob
theorem zpq {T:TT} {c:Cx} {o:Oper} {s:St} {H Hf:Heap} {O:List Heap} {t nm:Nat} {p v:D} {ob:Ob} {Q:St→Prop} (hS:s.S=H::O) (ht:turns o=true) (hn:∀k∈p.names,look H k=look Hf k) (h:(zgl T Hf t p v).gives nm ob)
  (hq:Q {s with S:=((nm,ob)::H)::O}):Does c o s Q (zc9 T s t p v):=by
 unfold zgl at h;unfold zc9
 cases hi:look T t with
 |none=>rw[hi] at h;rcases h with h|⟨_,_,_,_,h,_⟩<;>cases h
 |some i=>
  rw[hi] at h
  dsimp only at h ⊢
  cases hb:!(Nat.beq v.cells.length i.size&&D.ones v.cells) with
  |true=>rw[hb] at h;rcases h with h|⟨_,_,_,_,h,_⟩<;>cases h
  |false=>
   rw[hb] at h;simp only[cond_false] at h ⊢
   split at h
   ·rename_i nm' x off;have hob:zab s.S 0 nm'=look Hf nm':=by
     rw[hS,←hn nm' (by simp[D.names])];simp[zab]
    dsimp only
    unfold zcv
    dsimp only
    rw[hob]
    split at h
    ·rename_i cs hcs;rw[hcs]
     dsimp only
     cases hf:Nat.ble (off+i.size) cs.length with
     |false=>rw[hf] at h;rcases h with h|⟨_,_,_,_,h,_⟩<;>cases h
     |true=>
      rw[hf] at h;simp only[cond_true,zp4] at h ⊢;rw[zbN];rcases h with h|⟨_,_,_,_,h,_⟩
      ·simp only[SA.put.injEq] at h;obtain⟨rfl,rfl⟩:=h;refine⟨ht,?_⟩;rw[hS];exact hq
      ·cases h
    ·rename_i ty es n xs hxs;rw[hxs]
     dsimp only
     cases hl:D.toIs v.cells with
     |none=>rw[hl] at h;rcases h with h|⟨_,_,_,_,h,_⟩<;>cases h
     |some l=>
      rw[hl] at h
      dsimp only at h ⊢
      cases hc:Nat.beq off 0&&Nat.beq i.size es with
      |true=>
       rw[hc] at h;simp only[cond_true] at h ⊢;rcases h with h|⟨_,_,_,_,h,_⟩
       ·simp only[SA.put.injEq] at h;obtain⟨rfl,rfl⟩:=h;refine⟨ht,?_⟩;rw[hS];exact hq
       ·cases h
      |false=>
       rw[hc] at h;simp only[cond_false] at h ⊢;rcases h with h|⟨xs',j,g,d,h,h2,h3⟩
       ·cases h
       ·simp only[SA.elem.injEq] at h;obtain⟨rfl,rfl,rfl⟩:=h;refine⟨d,h2,?_⟩
        dsimp only at h3 ⊢
        cases hf:Nat.ble (off+i.size) d.length with
        |false=>rw[hf] at h3;cases h3
        |true=>
         rw[hf] at h3;simp only[cond_true,SA.put.injEq] at h3 ⊢;obtain⟨rfl,rfl⟩:=h3;refine⟨ht,?_⟩;rw[hS];exact hq
    ·rcases h with h|⟨_,_,_,_,h,_⟩<;>cases h
   ·rcases h with h|⟨_,_,_,_,h,_⟩<;>cases h
def setX (x:SH) (t:Nat) (d:D):SH:=match x with
 |(a,b)=>((t,d)::a,b)
def newX (x:SH) (t:Nat) (d:D) (adds:Heap):SH:=match x with
 |(a,b)=>((t,d)::a,adds++b)
def putX (x:SH) (nm:Nat) (ob:Ob):SH:=match x with
 |(a,b)=>(a,(nm,ob)::b)
inductive ME where
 |at (i:Nat) (o:Oper) (rest:List Oper) (x:SH) (acc:List Pl) (a:Ask)
 |know (i:Nat) (b:Bool) (t:Nat) (o:Oper) (rest:List Oper) (x:SH) (acc:List Pl)
 |old (i:Nat) (o:Oper) (rest:List Oper) (x:SH) (acc:List Pl)
 |done (x:SH) (acc:List Pl)
 |bad
section
variable (T:TT) (ops:Array Oper) (O:List Heap) (n:Nat)
def zvn (i:Nat) (o:Oper) (rest:List Oper) (x:SH) (acc:List Pl) (a:Ask) (stop:ME) (k:SH→Pl→ME):ME:=match a with
 |.val d=>match o.dst with
  |some t=>bif Nat.ble (t+1) n then (bif zp0 i ops.toList then (match asBool d with
    |some b=>.know i b t o rest x acc
    |none=>k (setX x t d) (.one t d)) else k (setX x t d) (.one t d)) else .bad
  |none=>.bad
 |.new adds d=>match o.dst with
  |some t=>bif Nat.ble (t+1) n&&zcc adds x.2 then k (newX x t d adds) ⟨[(t,d)],adds,none⟩ else .bad
  |none=>.bad
 |.mod _=>.bad
 |.bad=>.bad
 |_=>stop
def finS (i:Nat) (o:Oper) (rest:List Oper) (x:SH) (acc:List Pl) (a:Ask) (stop:ME) (k:SH→Pl→ME):ME:=match a with
 |.alt y z=>zvn ops n i o rest x acc (bif ownB ops o then y else z) .bad k
 |a=>zvn ops n i o rest x acc a stop k
def runS:Nat→List Oper→SH→List Pl→ME
 |_,[],x,acc=>.done x acc
 |i,o::rest,x,acc=>match zaN ops (St.of O n x) o with
  |none=>.bad
  |some false=>match o.dst with
   |some t=>bif Nat.ble (t+1) n then runS (i+1) rest (setX x t (.tup [])) (acc++[.one t (.tup [])]) else .bad
   |none=>.bad
  |some true=>bif roB o then finS ops n i o rest x acc (exec T (St.of O n x) o) (.at i o rest x acc (exec T (St.of O n x) o)) fun y p=>runS (i+1) rest y (acc++[p]) else .old i o rest x acc
def zvL (i:Nat) (o:Oper) (rest:List Oper) (x:SH) (acc:List Pl) (a:Ask):ME:=finS ops n i o rest x acc a (.at i o rest x acc a) fun y p=>runS T ops O n (i+1) rest y (acc++[p])
end
section
variable (c:Cx) (ops:Array Oper) (O:List Heap) (n:Nat) (F:SH→List Pl→Prop)
def MEx:ME→Prop
 |.at i o rest x acc a=>roB o=true→DG c ops O n F o rest x acc a
 |.know i b t o rest x acc=>(b=true→GD c ops O n F rest (setX x t .bt) (acc++[.one t .bt]))∧(b=false→GD c ops O n F rest (setX x t .bf) (acc++[.one t .bf]))
 |.old i o rest x acc=>zaN ops (St.of O n x) o=some true→GD c ops O n F (o::rest) x acc
 |.done x acc=>F x acc
 |.bad=>False
structure GE (m:ME):Prop where
 h:MEx c ops O n F m
end
section
variable {c:Cx} {ops:Array Oper} {O:List Heap} {n:Nat} {F:SH→List Pl→Prop}
theorem zi6 {i:Nat} {o:Oper} {rest:List Oper} {x:SH} {acc:List Pl} {a:Ask} {stop:ME} {k:SH→Pl→ME} (hro:roB o=true) (hk:∀y p,y=p.ap x→MEx c ops O n F (k y p)→GD c ops O n F rest (p.ap x) (acc++[p])) (hstop:MEx c ops O n F stop→DG c ops O n F o rest x acc a)
  (h:MEx c ops O n F (zvn ops n i o rest x acc a stop k)):DG c ops O n F o rest x acc a:=by
 have hg:∀s,zby s o=none:=fun s=>zhg hro;unfold zvn at h
 split at h
 ·rename_i d
  split at h
  ·rename_i t ht;have hval:Nat.ble (t+1) n=true→MEx c ops O n F (k (setX x t d) (.one t d))→DG c ops O n F o rest x acc (.val d):=by
    intro hb h;refine⟨.one t d,(hg _).symm,fun E hE=>?_,hk _ _ rfl h⟩;simp only[Does,ht];refine⟨Nat.le_of_ble_eq_true hb,rfl,rfl,fun t' d' e=>?_⟩;obtain⟨rfl,rfl⟩:=zaU e;exact .inr (.inl (by simp[St.set,zac]))
   cases hb:Nat.ble (t+1) n with
   |false=>rw[hb] at h;exact h.elim
   |true=>
    rw[hb] at h;simp only[cond_true] at h
    cases hsrc:zp0 i ops.toList with
    |false=>rw[hsrc] at h;exact hval hb h
    |true=>
     rw[hsrc] at h;simp only[cond_true] at h
     split at h
     ·rename_i b hbool;have hd:d=.i (.v (.bool b)):=by
       unfold asBool at hbool
       split at hbool
       ·simpa using hbool
       ·cases hbool
      subst hd
      cases b with
      |true=>
       refine⟨.one t .bt,(hg _).symm,fun E hE=>?_,h.1 rfl⟩;simp only[Does,ht];refine⟨Nat.le_of_ble_eq_true hb,rfl,rfl,fun t' d' e=>?_⟩;obtain⟨rfl,rfl⟩:=zaU e;exact .inr (.inr (.inl ⟨rfl,by simp[St.set,zac]⟩))
      |false=>
       refine⟨.one t .bf,(hg _).symm,fun E hE=>?_,h.2 rfl⟩;simp only[Does,ht];refine⟨Nat.le_of_ble_eq_true hb,rfl,rfl,fun t' d' e=>?_⟩;obtain⟨rfl,rfl⟩:=zaU e;exact .inr (.inr (.inr ⟨rfl,by simp[St.set,zac]⟩))
     ·exact hval hb h
  ·exact h.elim
 ·rename_i adds d
  split at h
  ·rename_i t ht
   cases hb:Nat.ble (t+1) n&&zcc adds x.2 with
   |false=>rw[hb] at h;exact h.elim
   |true=>
    rw[hb] at h;simp only[Bool.and_eq_true] at hb;refine⟨⟨[(t,d)],adds,none⟩,(hg _).symm,fun E hE=>?_,hk _ _ rfl h⟩;simp only[Does,ht,St.of];refine⟨Nat.le_of_ble_eq_true hb.1,zcr (zhh (H:=x.2) zis hb.2),rfl,rfl,fun t' d' e=>?_⟩;obtain⟨rfl,rfl⟩:=zaU e;exact .inr (.inl (by simp[zac]))
  ·exact h.elim
 ·exact h.elim
 ·exact h.elim
 ·exact hstop h
theorem zsD {i:Nat} {o:Oper} {rest:List Oper} {x:SH} {acc:List Pl} {a:Ask} {stop:ME} {k:SH→Pl→ME} (hro:roB o=true) (hk:∀y p,y=p.ap x→MEx c ops O n F (k y p)→GD c ops O n F rest (p.ap x) (acc++[p])) (hstop:MEx c ops O n F stop→DG c ops O n F o rest x acc a)
  (h:MEx c ops O n F (finS ops n i o rest x acc a stop k)):DG c ops O n F o rest x acc a:=by
 unfold finS at h
 split at h
 ·rename_i y z
  cases hb:ownB ops o with
  |true=>
   rw[hb] at h;obtain⟨p,h1,h2,h3⟩:=zi6 (stop:=.bad) hro hk (fun h=>h.elim) h;exact⟨p,h1,fun E hE=>.inl (h2 E hE),h3⟩
  |false=>
   rw[hb] at h;obtain⟨p,h1,h2,h3⟩:=zi6 (stop:=.bad) hro hk (fun h=>h.elim) h;exact⟨p,h1,fun E hE=>.inr (h2 E hE),h3⟩
 ·exact zi6 hro hk hstop h
variable (hT:TOk c.P c.T)
include hT
theorem zbb:∀(rest:List Oper) (i:Nat) (x:SH) (acc:List Pl),MEx c ops O n F (runS c.T ops O n i rest x acc)→GD c ops O n F rest x acc
 |[],i,x,acc,h=>⟨[],trivial,by rw[List.append_nil];exact h⟩
 |o::rest,i,x,acc,h=>by
  unfold runS at h
  split at h
  ·exact h.elim
  ·rename_i hw
   split at h
   ·rename_i t ht
    cases hb:Nat.ble (t+1) n with
    |false=>rw[hb] at h;exact h.elim
    |true=>
     rw[hb] at h;exact zdR (.inl ⟨by rw[zet];exact hw,t,ht,Nat.le_of_ble_eq_true hb,rfl⟩) (zbb rest _ _ _ h)
   ·exact h.elim
  ·rename_i hw
   cases hro:roB o with
   |false=>rw[hro] at h;exact h hw
   |true=>
    rw[hro] at h;obtain⟨p,h1,h2,h3⟩:=zsD (stop:=.at i o rest x acc (exec c.T (St.of O n x) o)) (k:=fun y p=>runS c.T ops O n (i+1) rest y (acc++[p])) hro (fun y p hy h=>by subst hy;exact zbb rest _ _ _ h) (fun h=>h hro) h;refine zdR (zeX (by rw[zet];exact hw) h1 fun E hE=>zbJ (c:={ c with E:=E}) hT ?_) h3;have:=h2 E hE;rw[zq4 (T:=c.T) hro];exact this
theorem zuM {o:Oper} {x:SH} {t nm:Nat} {a v:Operand} {ob:Ob} (hw:zaN ops (St.of O n x) o=some true) (ho:o.op=.store t a v) (hd:o.dst=none) (hs:(zgl c.T x.2 t (evD (St.of O n x) a) (evD (St.of O n x) v)).gives nm ob) :
  zc3 c ops O n o (zaI ops o x) ⟨[],[(nm,ob)],none⟩:=by
 refine zeX (by rw[zet];exact hw) (by simp[zby,ho]) fun E hE=>zbJ (c:={ c with E:=E}) hT ?_;have e1:exec c.T (St.of O n (zaI ops o x)) o=zc9 c.T (St.of O n (zaI ops o x)) t (evD (St.of O n x) a) (evD (St.of O n x) v):=by
  unfold exec;rw[ho]
  dsimp only
  rw[hd]
  dsimp only
  rw[zit (by rw[ho];simp[Op.operands]),zit (by rw[ho];simp[Op.operands])]
 show Does {c with E:=E} o _ _ (exec c.T _ o);rw[e1];refine zpq (H:=(zaI ops o x).2) (Hf:=x.2) rfl (by unfold turns;rw[ho]) ?_ hs ⟨rfl,rfl,fun t d h=>by simp[look] at h⟩;intro k hk;have:=zm7 (ops:=ops) (O:=O) (n:=n) (o:=o) (x:=x) (y:=a) (by rw[ho];simp[Op.operands]) k (by rw[zit (by rw[ho];simp[Op.operands])];exact hk);simpa [zab,St.of] using this
theorem zjd {i:Nat} {o:Oper} {rest:List Oper} {x:SH} {acc:List Pl} {a:Ask} (hro:roB o=true) (h:MEx c ops O n F (zvL c.T ops O n i o rest x acc a)):DG c ops O n F o rest x acc a:=
 zsD (stop:=.at i o rest x acc a) (k:=fun y p=>runS c.T ops O n (i+1) rest y (acc++[p])) hro (fun y p hy h=>by subst hy;exact zbb hT rest _ _ _ h) (fun h=>h hro) h
variable {i:Nat} {o:Oper} {rest:List Oper} {x:SH} {acc:List Pl}
theorem zar {q:Prop} {a:Ask} (hp:q) (h:GE c ops O n F (zvL c.T ops O n i o rest x acc a)):GE c ops O n F (.at i o rest x acc (.need q a)):=by
 refine⟨fun hro=>?_⟩;obtain⟨p,h1,h2,h3⟩:=zjd hT hro h.h;exact⟨p,h1,fun E hE=>⟨hp,h2 E hE⟩,h3⟩
theorem zax {xs:List (List I)} {j:Nat} {g:List I→Ask} {d:List I} (hd:xs[j]? = some d) (h:GE c ops O n F (zvL c.T ops O n i o rest x acc (g d))):GE c ops O n F (.at i o rest x acc (.elem xs j g)):=by
 refine⟨fun hro=>?_⟩;obtain⟨p,h1,h2,h3⟩:=zjd hT hro h.h;exact⟨p,h1,fun E hE=>⟨d,hd,h2 E hE⟩,h3⟩
theorem zce {dep nm:Nat} {g:Ob→Ask} {ob:Ob} (hd:zab O dep nm=some ob) (h:GE c ops O n F (zvL c.T ops O n i o rest x acc (g ob))):GE c ops O n F (.at i o rest x acc (.obj (dep+1) nm g)):=by
 refine⟨fun hro=>?_⟩;obtain⟨p,h1,h2,h3⟩:=zjd hT hro h.h;exact⟨p,h1,fun E hE=>⟨ob,hd,h2 E hE⟩,h3⟩
theorem zjI {f:FuncId} {args:List D} {res:D} {Hr:Heap} {t:Nat} (hspec:zao c.P f (D.imms (zaI ops o x).2 args) ((zaI ops o x).2::O) res Hr ((zaI ops o x).2::O)) (ht:o.dst=some t) (hn:Nat.ble (t+1) n=true)
  (hf:zcc Hr x.2=true) (h:GE c ops O n F (runS c.T ops O n (i+1) rest (newX x t res.down (zcE Hr)) (acc++[⟨[(t,res.down)],zcE Hr,none⟩]))) :
  GE c ops O n F (.at i o rest x acc (.call f args)):=by
 refine⟨fun hro=>⟨⟨[(t,res.down)],zcE Hr,none⟩,(zhg hro).symm,fun E hE=>?_,zbb hT rest _ _ _ h.h⟩⟩;refine zkw (c:={ c with E:=E}) (s:=vw ops O n o x) hspec ht (Nat.le_of_ble_eq_true hn) (by simp[vw,St.of]) rfl (zcr (zhh zis hf)) ⟨rfl,rfl,fun t' d' e=>?_⟩;obtain⟨rfl,rfl⟩:=zaU e;exact .inr (.inl (by simp[zac]))
theorem zaT {f:FuncId} {args:List D} {res:D} {Hr:Heap} {t:Nat} (hspec:∀H,zao c.P f (D.imms H args) (H::O) res Hr (H::O)) (ht:o.dst=some t) (hn:Nat.ble (t+1) n=true)
  (hf:zcc Hr x.2=true) (h:GE c ops O n F (runS c.T ops O n (i+1) rest (newX x t res.down (zcE Hr)) (acc++[⟨[(t,res.down)],zcE Hr,none⟩]))) :
  GE c ops O n F (.at i o rest x acc (.call f args)):=zjI hT (hspec _) ht hn hf h
theorem zbP {b:Bool} {t:Nat} (h1:b=true→GE c ops O n F (runS c.T ops O n (i+1) rest (setX x t .bt) (acc++[.one t .bt]))) (h2:b=false→GE c ops O n F (runS c.T ops O n (i+1) rest (setX x t .bf) (acc++[.one t .bf]))) :
  GE c ops O n F (.know i b t o rest x acc):=⟨fun e=>zbb hT _ _ _ _ (h1 e).h,fun e=>zbb hT _ _ _ _ (h2 e).h⟩
theorem zct {t nm:Nat} {a v:Operand} {ob:Ob} (ho:o.op=.store t a v) (hd:o.dst=none) (hs:zgl c.T x.2 t (evD (St.of O n x) a) (evD (St.of O n x) v)=.put nm ob)
  (h:GE c ops O n F (runS c.T ops O n (i+1) rest (putX x nm ob) (acc++[⟨[],[(nm,ob)],none⟩]))):GE c ops O n F (.old i o rest x acc):=by
 refine⟨fun hw=>zdR (zuM hT hw ho hd (.inl hs)) ?_⟩;exact zbb hT _ _ _ _ h.h
theorem zux (h:MDx c ops O n F (runD c.T ops O n (o::rest) x acc)):GE c ops O n F (.old i o rest x acc):=⟨fun _=>zcf hT _ _ _ h⟩
theorem zrA (hfn:c.P.funcs[c.f]? = some c.fn) {k:List Item} {x0:SH} (hok:okD ops acc x0=true) (h:MSx c (run c.T c.stop 1000 k (St.of O n x))):GE c ops O n (FD c ops O n x0 k) (.done x acc):=⟨zsG hok (zfs (za5 hT hfn 1000 k _ h))⟩
theorem zyy (hfn:c.P.funcs[c.f]? = some c.fn) {k:List Item} {x0:SH} (l:List Nat) (hok:okT ops acc x0=true) (hl:List.range' acc.length (ops.size-acc.length)=l) (h:MSx c (zhi x fun x=>run c.T c.stop 1000 (.inRegion ops l::k) (St.of O n x))):GE c ops O n (FD c ops O n x0 k) (.old i o rest x acc):=
 ⟨fun _=>⟨[],by trivial,by rw[zfa] at h;rw[List.append_nil];refine⟨hok,?_⟩;rw[hl];exact za5 hT hfn 1000 _ _ h⟩⟩
theorem zny {id:Nat} {s:St} {k:List Item} (hm:c.P.follows .mixedOrders=true) {H:Heap} (hS:s.S=H::O) (h:GE c ops O s.n (FD c ops O s.n (s.σ,H) k) (runS c.T ops O s.n 0 ops.toList (s.σ,H) [])) :
  MSx c (.drawn id ops s k):=by
 obtain⟨qs,h1,h2⟩:=zbb hT _ _ _ _ h.h;rw[List.nil_append] at h2;have hs:s=St.of O s.n (s.σ,H):=by
  cases s
  simp only at hS;subst hS;rfl
 show Rch c (.code (.region id ops true)::k) s;rw[hs];exact znm hm h2.1 h1 h2.2
end
section
variable {P:Program}
def FOk (P:Program) (fl:Field) (f:Nat×Nat×Bool):Prop:=
 fl.offset=f.1∧(∃inf,P.info? fl.type=some inf∧inf.size=f.2.1)∧f.2.1≠0∧∀w,(isAgg fl.type).run P w=.ok f.2.2 w
inductive FsOk (P:Program):List Field→List (Nat×Nat×Bool)→Prop
 |nil:FsOk P [] []
 |cons {x f xs fs}:FOk P x f→FsOk P xs fs→FsOk P (x::xs) (f::fs)
theorem FsOk.get {xs:List Field} {fs:List (Nat×Nat×Bool)} (h:FsOk P xs fs):∀{j:Nat} {f:Nat×Nat×Bool},fs[j]? = some f→∃x,xs[j]? = some x∧FOk P x f:=by
 induction h with
 |nil=>intro j f e;simp at e
 |cons h1 h2 ih=>
  intro j f e
  cases j with
  |zero=>simp at e;subst e;exact⟨_,rfl,h1⟩
  |succ j=>simpa using ih (by simpa using e)
theorem FsOk.mapM {xs:List Field} {fs:List (Nat×Nat×Bool)} (h:FsOk P xs fs) (w:World) :
  (xs.mapM fun f=>do pure (f.offset,←Go.sizeOf f.type):Sem (List (Nat×Nat))).run P w=.ok (fs.map fun f=>(f.1,f.2.1)) w:=by
 induction h with
 |nil=>simp
 |@cons x f xs fs h1 h2 ih=>
  obtain⟨ho,⟨inf,hi,hs⟩,_,_⟩:=h1;have hone:(Go.sizeOf x.type).run P w=.ok inf.size w:=by
   simp[Go.sizeOf,typeInfo,hi]
  rw[List.mapM_cons,Sem.run_bind,Sem.run_bind,hone];simp only[Result.andThen_ok,Sem.run_pure];rw[Sem.run_bind,ih];simp only[Result.andThen_ok,Sem.run_pure,List.map_cons,ho,hs]
theorem zaz {t:Nat} {fields:Array Field} {fs:List (Nat×Nat×Bool)} (hu:P.underlying t=some (.struct fields)) (h:FsOk P fields.toList fs):TKok P t (.struct fs):=by
 refine⟨fields,hu,fun w=>?_,fun j f e=>?_⟩
 ·rw[Array.mapM_eq_mapM_toList];simp only[Sem.run_map,h.mapM w,Result.andThen_ok]
 ·obtain⟨x,hx,ho,⟨inf,hi,hs⟩,hp,ha⟩:=h.get e;exact⟨x,inf,by simpa using hx,ho,hi,hs,hp,ha⟩
theorem tiok {t:Nat} {i:TI} {inf:TypeInfo} {z:Value} (h:P.info? t=some inf) (h1:inf.size=i.size) (h2:inf.bytes=i.bytes) (h3:inf.zero=some z) (h4:z.cells.toList=i.zero) (h5:i.k.agg=false→i.zero=[z]) (hk:TKok P t i.k) (ho:∀x∈i.zero,x.oneCell'=true) (hl:i.zero.length=i.size) (hp:i.size≠0) (hc:i.cmp=[]∨zkM P t i.cmp):TIok P t i:=
 ⟨⟨inf,h,h1,h2,z,h3,h4,h5⟩,hk,ho,hl,hp,hc⟩
def zzl (P:Program):TT→Prop
 |[]=>True
 |(t,i)::r=>TIok P t i∧zzl P r
theorem zv4:∀{T:TT},zzl P T→TOk P T
 |[],_,t,i,e=>by simp[look] at e
 |(t',i')::r,h,t,i,e=>by
  rw[zac] at e
  split at e
  ·rename_i hn;subst hn;simp only[Option.some.injEq] at e;subst e;exact h.1
  ·exact zv4 h.2 t i e
end
section
variable {c:Cx}
theorem zb0 {α:Type} {todo:List Item} {s:St} (L:α→List (Nat×D)) (S:α→List Heap) (n:Nat) (I:α→Prop) (m:α→Nat) (x0:α) (hI:I x0) (hs:Sub s (L x0)) (hS:s.S=S x0) (hn:s.n=n)
  (step:∀x,I x→(∀y s',I y→m y<m x→Sub s' (L y)→s'.S=S y→s'.n=n→Rch c todo s')→Rch c todo {σ:=L x,S:=S x,n:=n}):Rch c todo s:=by
 have key:∀N x s,m x≤N→I x→Sub s (L x)→s.S=S x→s.n=n→Rch c todo s:=by
  intro N
  induction N with
  |zero=>
   intro x s hm hI hs hS hn;refine zc6 (l:=L x) ?_ hs;rw[hS,hn];exact step x hI fun y s' _ hlt=>by omega
  |succ N ih=>
   intro x s hm hI hs hS hn;refine zc6 (l:=L x) ?_ hs;rw[hS,hn];exact step x hI fun y s' hy hlt=>ih y s' (by omega) hy
 exact key _ x0 s (Nat.le_refl _) hI hs hS hn
theorem zaG {hT:TOk c.P c.T} {s:St} {res d r:D} {Hr H:Heap} {O O':List Heap} (hp:c.post=zdW c.E res Hr O') (hd:resD c.T s c.fn.results.toList=some d) (hS:s.S=H::O) (ht:zfQ H Hr Hr) (hr:d.ret H Hr=r) (hO:O=O')
  (he:r=res):MSx c (.ret s):=zyO hT hd hS ht (hr.trans he) hO hp
end
abbrev ii (n:Int):D:=.i (.v (.int .i64 n))
abbrev bb (b:Bool):D:=.i (.v (.bool b))
abbrev vi (n:Int):I:=.v (.int .i64 n)
abbrev zdj (l:List Int):I:=.sl 1 l.length (l.map fun x=>[vi x])
abbrev ints (l:List Int):D:=.i (zdj l)
abbrev zan:Nat:=9223372036854775807
theorem zak {α β:Type} {f:α→β} {l:List α} {i:Nat} (h:i<l.length):(l.map f)[(i:Int).toNat]? = some (f l[i]):=by simp[h]
theorem w64 {n:Int} (h1:-9223372036854775808≤n) (h2:n≤9223372036854775807):IntKind.i64.wrap n=n:=IntWalk.i64_in n ⟨h1,h2⟩
theorem zaE {i n:Nat} (h:i<n) (hn:n≤zan):IntKind.i64.wrap ((i:Int)+1)=((i+1:Nat):Int):=by
 simp only[zan] at hn;rw[w64 (by omega) (by omega)];rfl
section
variable {E:Env} {K:Kn} {ρ:Nat→Nat→Loc} {H Hv:Heap} {O:List Heap} {w:World}
theorem HInv.drop (h:HInv E K ρ (H::O) w) (hv:∀nm ob,look Hv nm=some ob→look H nm=some ob) (hin:∀nm ob,look Hv nm=some ob→ob.within (has Hv)=true):HInv E K ρ (Hv::O) w:=by
 refine h.restrict ⟨fun d nm ob e=>?_,fun d nm=>by simp[zab]⟩ fun d nm ob e=>?_
 ·cases d with
  |zero=>simpa [zab] using hv nm ob (by simpa [zab] using e)
  |succ d=>simpa [zab] using e
 ·cases d with
  |zero=>
   have e':look Hv nm=some ob:=by simpa [zab] using e
   have h0:=h.own 0 nm ob (by simpa [zab] using hv _ _ e');have hm:=zd1 (K:=K) (ρ:=fun d n=>ρ (0+d) n) (O:=O) hv;exact h0.move hm (hin _ _ e') (fun _=>rfl) (fun _ _=>rfl)
  |succ d=>simpa using h.own (d+1) nm ob (by simpa [zab] using e)
theorem hasE (H:Heap):has H=hasK H:=by
 funext n;unfold has hasK
 cases look H n<;>rfl
theorem zrh {H:Heap}:∀{l:Heap},SubH H l→∀nm ob,look l nm=some ob→look H nm=some ob
 |[],_,nm,ob,e=>by simp[look] at e
 |(k,x)::r,h,nm,ob,e=>by
  rw[zac] at e
  split at e
  ·rename_i hk;subst hk;simp only[Option.some.injEq] at e;subst e;exact h.1
  ·exact zrh h.2 nm ob e
def zgR (l:List (Nat×D)) (Hv:Heap):Bool:=allS (fun _ d=>d.within (hasK Hv)) l&&allH (fun _ d=>d.within (hasK Hv)) Hv
theorem zsg {s:St} {l:List (Nat×D)} {n:Nat} {a:Act} (hi:Inv E K ρ s a w) (hs:Sub s l) (hS:s.S=H::O) (hH:SubH H Hv) (hok:zgR l Hv=true) (hn:s.n=n):Inv E K ρ {σ:=l,S:=Hv::O,n:=n} a w:=by
 simp only[zgR,Bool.and_eq_true] at hok;have hh:=hi.h;rw[hS] at hh;have hv:=zrh hH;refine⟨hh.drop hv fun nm ob e=>by rw[hasE];exact zdm hok.2 e,hi.defers,by rw[hi.size,hn],fun t d e=>?_⟩;have h1:=hi.get t;rw[zrg hs t d e,hS] at h1;exact h1.move (zd1 hv) (by rw[hasE];exact zdV hok.1 e)
end
def Wk (c:Cx) (s s':St):Prop:=∀K ρ a w,Inv c.E K ρ s a w→∃K' ρ',Inv c.E K' ρ' s' a w
section
variable {c:Cx} {todo:List Item} {s s' s'':St}
theorem Wk.trans (h:Wk c s s') (h':Wk c s' s''):Wk c s s'':=fun K ρ a w hi=>let ⟨_,_,h1⟩:=h K ρ a w hi;h' _ _ a w h1
theorem Wk.refl:Wk c s s:=fun K ρ a w hi=>⟨K,ρ,hi⟩
theorem zas (hw:Wk c s s') (h:Rch c todo s'):Rch c todo s:=fun K ρ a w b cs hi hb hk=>let ⟨_,_,h1⟩:=hw K ρ a w hi;h _ _ a w b cs h1 hb hk
theorem zni (hw:Wk c s s') (h:MSx c (.ret s')):MSx c (.ret s):=fun K ρ a w hi=>let ⟨_,_,h1⟩:=hw K ρ a w hi;h _ _ a w h1
theorem zxw {body:Code} {k:List Item} (hw:Wk c s s') (h:MSx c (.loop body s' k)):MSx c (.loop body s k):=zas hw h
theorem zbp {l:List (Nat×D)} {H Hv:Heap} {O:List Heap} {n:Nat} (hs:Sub s l) (hS:s.S=H::O) (hH:SubH H Hv) (hok:zgR l Hv=true) (hn:s.n=n):Wk c s {σ:=l,S:=Hv::O,n:=n}:=fun K ρ a w hi=>⟨K,ρ,zsg hi hs hS hH hok hn⟩
theorem zdq {l:List (Nat×D)} {H Hv:Heap} {O:List Heap} {n:Nat} (hs:Sub s l) (hS:s.S=H::O) (hH:SubH H Hv) (hok:zgR l Hv=true) (hn:s.n=n) (h:Rch c todo {σ:=l,S:=Hv::O,n:=n}):Rch c todo s:=by
 intro K ρ a w b cs hi hb hk;exact h K ρ a w b cs (zsg hi hs hS hH hok hn) hb hk
theorem zal {α:Type} (L:α→List (Nat×D)) (G:α→Heap) (O:α→List Heap) (n:Nat) (I:α→Prop) (m:α→Nat) (x0:α) {H:Heap} (hI:I x0) (hs:Sub s (L x0)) (hS:s.S=H::O x0) (hH:SubH H (G x0)) (hok:zgR (L x0) (G x0)=true) (hn:s.n=n)
  (step:∀x,I x→(∀y s' H,I y→m y<m x→Sub s' (L y)→s'.S=H::O y→SubH H (G y)→zgR (L y) (G y)=true→s'.n=n→Rch c todo s')→Rch c todo {σ:=L x,S:=G x::O x,n:=n}):Rch c todo s:=by
 have key:∀N x s H,m x≤N→I x→Sub s (L x)→s.S=H::O x→SubH H (G x)→zgR (L x) (G x)=true→s.n=n→Rch c todo s:=by
  intro N
  induction N with
  |zero=>
   intro x s H hm hI hs hS hH hok hn;exact zdq hs hS hH hok hn (step x hI fun y s' _ _ hlt=>by omega)
  |succ N ih=>
   intro x s H hm hI hs hS hH hok hn;exact zdq hs hS hH hok hn (step x hI fun y s' H' hy hlt=>ih y s' H' (by omega) hy)
 exact key _ x0 s H (Nat.le_refl _) hI hs hS hH hok hn
theorem zcp (t nm e z:Nat) {H:Heap} {O:List Heap} (ht:s.get t=.i (.v (.slice none 0 0))) (hS:s.S=H::O) (hf:look H nm=none):Wk c s {σ:=(t,.osl 0 nm)::s.σ,S:=((nm,.arr e z 0 [] true)::H)::O,n:=s.n}:=by
 intro K ρ a w hi;have hh:=hi.h;rw[hS] at hh
 let l0:Loc:=⟨0,0,none⟩
 have hown:∀ρ' sh',OwnAt K ρ' sh' w l0 (.arr e z 0 [] true):=fun ρ' sh'=>⟨by simp,rfl,Nat.le_refl _,by simp[l0],.inl ⟨rfl,rfl⟩⟩;have hg:Grow K ρ (H::O) w [(nm,.arr e z 0 [] true)] K (upd ρ nm l0) w:=by
  refine⟨K.le_refl,fun _ _ _ h=>.inl h,Nat.le_refl _,fun _ _=>rfl,⟨rfl,rfl,rfl⟩,fun d n' h=>?_,hh.holds,fun n' ob e'=>?_,fun n1 o1 n2 o2 e1 e2 b1 b2 _=>?_⟩
  ·refine zaO _ _ _ (h.imp id fun h e'=>?_);subst e';simp[zac] at h
  ·obtain⟨rfl,rfl⟩:=zaU e';rw[zaV];exact⟨hown _ _,fun hb=>absurd rfl hb⟩
  ·obtain⟨rfl,rfl⟩:=zaU e1;obtain⟨rfl,rfl⟩:=zaU e2;rfl
 obtain⟨hI,hst⟩:=HInv.grow (S:=H::O) rfl hh (fun _ _ _ e=>e) (fun n' h=>by
  cases hl:look [(nm,Ob.arr e z 0 [] true)] n' with
  |none=>exact absurd hl h
  |some ob=>obtain⟨rfl,rfl⟩:=zaU hl;exact hf) hg
 refine⟨K,upd ρ nm l0,hI,hi.defers,hi.size,fun t' d e'=>?_⟩;simp only[zac] at e'
 split at e'
 ·rename_i htt;subst htt;simp only[Option.some.injEq] at e';subst e';have h1:=hi.get t;rw[ht] at h1;rw[zaP h1];have:=RepD.osl (K:=K) (ρ:=upd ρ nm l0) (sh:=shape (addS (H::O) [(nm,.arr e z 0 [] true)])) (dep:=0) (nm:=nm) (es:=z) (len:=0) (by simp[shape,addS,zab,zac,Ob.sh]);rw[zaV] at this;exact this
 ·have:=hi.slots _ _ e';rw[hS] at this;exact this.stays hst
end
end Go.AI
namespace Go.AI
open Classical in
noncomputable def frz (K:Kn) (w:World) (bl m:Nat):Kn:=fun b o=>if b=bl∧o<m then w.cell? ⟨b,o,none⟩ else K b o
section
variable {E:Env} {K:Kn} {ρ:Nat→Nat→Loc} {H:Heap} {O:List Heap} {w:World}
theorem zcj {H:Heap} {O:List Heap} {nm:Nat} {ob ob':Ob} {d n:Nat} {x:Ob} (e:zab (((nm,ob')::H)::O) d n=some x):(d=0∧n=nm∧x=ob')∨(¬(d=0∧n=nm)∧zab (H::O) d n=some x):=by
 cases d with
 |zero=>
  have e':look ((nm,ob')::H) n=some x:=by simpa [zab] using e
  rw[zac] at e'
  split at e'
  ·rename_i h;exact .inl ⟨rfl,h.symm,by simpa using e'.symm⟩
  ·rename_i h;exact .inr ⟨fun h'=>h h'.2.symm,by simpa [zab] using e'⟩
 |succ d=>exact .inr ⟨fun h=>by omega,by simpa [zab] using e⟩
theorem za6 {nm:Nat} {ob ob':Ob} (ho:look H nm=some ob) (hs:ob'.sh=ob.sh):shape (((nm,ob')::H)::O)=shape (H::O):=by
 funext d n
 cases d with
 |zero=>
  simp only[shape,zab,List.getElem?_cons_zero,zac]
  split
  ·rename_i h;subst h;simp[ho,hs]
  ·rfl
 |succ d=>simp[shape,zab]
theorem HInv.freeze {nm ty es n:Nat} {xs:List (List I)} {wr:Bool} (h:HInv E K ρ (H::O) w) (ho:look H nm=some (.arr ty es n xs wr)) :
  ∃K',K.le K'∧HInv E K' ρ (((nm,.arr ty es n xs false)::H)::O) w:=by
 have ho':zab (H::O) 0 nm=some (.arr ty es n xs wr):=by simpa [zab] using ho
 have hown:=h.own 0 nm _ ho';have e0:(fun d n=>ρ (0+d) n)=ρ:=by funext d n;rw[Nat.zero_add]
 rw[e0] at hown;have hsh:shape (((nm,Ob.arr ty es n xs false)::H)::O)=shape (H::O):=za6 ho rfl;have hdrop:∀d,shape ((((nm,Ob.arr ty es n xs false)::H)::O).drop d)=shape ((H::O).drop d):=by
  intro d
  cases d with
  |zero=>exact hsh
  |succ d=>rfl
 have build:∀K',K.le K' → (∀b o x,K' b o=some x→w.cell? ⟨b,o,none⟩=some x)→(∀b o x,K' b o=some x→K b o=some x∨¬E.pr b) →
   OwnAt K' ρ (shape (H::O)) w (ρ 0 nm) (.arr ty es n xs false)→(∀d n' ob,zab (H::O) d n'=some ob→¬(d=0∧n'=nm)→zaD (ρ d n') ob→∀o,K' (ρ d n').block o=K (ρ d n').block o) →
   HInv E K' ρ (((nm,.arr ty es n xs false)::H)::O) w:=by
  intro K' hle hholds hnew hown' hsame;refine⟨hholds,fun d n' ob e=>?_,fun d n1 o1 d' n2 o2 e1 e2 b1 b2 hbe=>?_,h.size,fun b hb hno=>h.old b hb fun d n' ob e=>hno d n' ob (by simpa [zab] using e),fun n' ob e hb=>?_,h.outer,fun b o x e=>hle _ _ _ (h.Kle _ _ _ e),fun b o x e=>?_,h.rest⟩
  ·rw[hdrop];rcases zcj (ob:=.arr ty es n xs wr) e with ⟨rfl,rfl,rfl⟩|⟨hne,e'⟩
   ·rw[e0];exact hown'
   ·exact (h.own _ _ _ e').stays ⟨hle,fun _ _ _ e=>e,fun _ _ _ _=>rfl⟩ (fun _=>rfl) (hsame _ _ _ e' hne)
  ·have old:∀{d n' x},zab (((nm,Ob.arr ty es n xs false)::H)::O) d n'=some x→zaD (ρ d n') x→∃y,zab (H::O) d n'=some y∧zaD (ρ d n') y:=by
    intro d n' x e hb;rcases zcj (ob:=.arr ty es n xs wr) e with ⟨rfl,rfl,rfl⟩|⟨_,e'⟩
    ·exact⟨_,ho',hb⟩
    ·exact⟨_,e',hb⟩
   obtain⟨y1,a1,c1⟩:=old e1 b1;obtain⟨y2,a2,c2⟩:=old e2 b2;exact h.inj _ _ _ _ _ _ a1 a2 c1 c2 hbe
  ·rcases zcj (ob:=.arr ty es n xs wr) e with ⟨_,rfl,rfl⟩|⟨_,e'⟩
   ·exact h.loc _ _ ho' hb
   ·exact h.loc _ _ e' hb
  ·rcases hnew _ _ _ e with e'|e'
   ·exact h.Knew _ _ _ e'
   ·exact .inr e'
 obtain⟨h1,h2,h3,h4,h5⟩:=id hown;rcases h5 with h5|⟨h5,cl,h6,h7,h8,h9,h10,h11⟩
 ·exact⟨K,K.le_refl,build K K.le_refl h.holds (fun _ _ _ e=>.inl e) ⟨h1,h2,h3,h4,.inl h5⟩ fun _ _ _ _ _ _ _=>rfl⟩
 ·have hbk:zaD (ρ 0 nm) (.arr ty es n xs wr):=by show _≠none;rw[h5];simp
  cases wr with
  |false=>exact⟨K,K.le_refl,build K K.le_refl h.holds (fun _ _ _ e=>.inl e) hown fun _ _ _ _ _ _ _=>rfl⟩
  |true=>
   have hK0:=h9 rfl;have hcell:=cell_of_heap h6;have hle:K.le (frz K w (ρ 0 nm).block (n*es)):=by
    intro b o x e;unfold frz
    split
    ·exact h.holds _ _ _ e
    ·exact e
   refine⟨_,hle,build _ hle ?_ ?_ ?_ ?_⟩
   ·intro b o x e;unfold frz at e
    split at e
    ·exact e
    ·exact h.holds _ _ _ e
   ·intro b o x e;unfold frz at e
    split at e
    ·rename_i hb;rw[hb.1];exact .inr (h.loc _ _ ho' hbk)
    ·exact .inl e
   ·refine⟨h1,h2,h3,h4,.inr ⟨h5,cl,h6,h7,h8.mono hle,fun e=>(by cases e),fun o hlo=>?_,fun _ o hlo=>?_⟩⟩
    ·unfold frz;rw[if_neg (by omega)];exact hK0 o
    ·unfold frz;rw[if_pos ⟨rfl,hlo⟩,hcell]
   ·intro d n' ob e hne hb o;unfold frz;rw[if_neg];rintro ⟨hbe,_⟩;exact hne (h.inj _ _ _ _ _ _ e ho' hb hbk hbe)
end
section
variable {c:Cx} {todo:List Item} {s:St}
def frzσ (nm:Nat) (d:I):List (Nat×D)→List (Nat×D)
 |[]=>[]
 |(t,.osl 0 k)::r=>bif Nat.beq k nm then (t,.i d)::frzσ nm d r else (t,.osl 0 k)::frzσ nm d r
 |p::r=>p::frzσ nm d r
theorem ze5 {nm:Nat} {d:I} {t:Nat} {x:D}:∀{l:List (Nat×D)},look (frzσ nm d l) t=some x→look l t=some x∨(look l t=some (.osl 0 nm)∧x=.i d)
 |[],h=>by simp[frzσ,look] at h
 |(k,y)::r,h=>by
  unfold frzσ at h
  split at h
  ·rename_i heq;cases heq
  ·rename_i t' k' r' heq;simp only[List.cons.injEq,Prod.mk.injEq] at heq;obtain⟨⟨rfl,rfl⟩,rfl⟩:=heq;rw[zac]
   cases hb:Nat.beq k' nm with
   |true=>
    obtain rfl:=Nat.eq_of_beq_eq_true hb;rw[hb,cond_true,zac] at h
    split at h
    ·rename_i e;rw[if_pos e];exact .inr ⟨rfl,by simpa using h.symm⟩
    ·rename_i e;rw[if_neg e];exact ze5 h
   |false=>
    rw[hb,cond_false,zac] at h
    split at h
    ·rename_i e;rw[if_pos e];exact .inl h
    ·rename_i e;rw[if_neg e];exact ze5 h
  ·rename_i p r' hne heq;simp only[List.cons.injEq] at heq;obtain⟨rfl,rfl⟩:=heq;rw[zac] at h ⊢
   split at h
   ·rename_i e;rw[if_pos e];exact .inl h
   ·rename_i e;rw[if_neg e];exact ze5 h
theorem zap (nm:Nat) {ty es n:Nat} {xs:List (List I)} {wr:Bool} {H:Heap} {O:List Heap} (hS:s.S=H::O) (ho:look H nm=some (.arr ty es n xs wr)):Wk c s {σ:=frzσ nm (.sl es n xs) s.σ,S:=((nm,.arr ty es n xs false)::H)::O,n:=s.n}:=by
 intro K ρ a w hi;have hh:=hi.h;rw[hS] at hh;obtain⟨K',hle,hI⟩:=hh.freeze ho;have hsh:shape (((nm,Ob.arr ty es n xs false)::H)::O)=shape (H::O):=za6 ho rfl;refine⟨K',ρ,hI,hi.defers,hi.size,fun t d e=>?_⟩;rw[hsh];rcases ze5 e with e'|⟨e',rfl⟩
 ·have:=hi.slots _ _ e';rw[hS] at this;exact this.stays ⟨hle,fun _ _ _ e=>e,fun _ _ _ _=>rfl⟩
 ·have h1:=hi.slots _ _ e';rw[hS] at h1;have hown:=hI.own 0 nm (.arr ty es n xs false) (by simp[zab,zac]);have:=zc8 (es:=es) (len:=n) h1 (by simp[shape,zab,ho,Ob.sh]);rw[this];exact .i (zdc hown)
mutual
def D.ren (a b:Nat):D→D
 |.own 0 nm j off=>.own 0 (bif Nat.beq nm a then b else nm) j off
 |.osl 0 nm=>.osl 0 (bif Nat.beq nm a then b else nm)
 |.psl nm k=>.psl (bif Nat.beq nm a then b else nm) k
 |.agg cs=>.agg (D.rens a b cs)
 |.tup cs=>.tup (D.rens a b cs)
 |.fn f x y=>.fn f (D.rens a b x) (D.rens a b y)
 |d=>d
def D.rens (a b:Nat):List D→List D
 |[]=>[]
 |d::r=>d.ren a b::D.rens a b r
end
def renN (a b n:Nat):Nat:=bif Nat.beq n a then b else n
structure Ren (a b:Nat) (ρ ρ':Nat→Nat→Loc) (sh sh':Nat→Nat→Option Sh):Prop where
 z:∀nm x,sh 0 nm=some x→sh' 0 (renN a b nm)=some x∧ρ' 0 (renN a b nm)=ρ 0 nm
 s:∀d nm x,sh (d+1) nm=some x→sh' (d+1) nm=some x∧ρ' (d+1) nm=ρ (d+1) nm
section
variable {K:Kn} {ρ ρ':Nat→Nat→Loc} {sh sh':Nat→Nat→Option Sh} {p q:Nat}
mutual
theorem RepD.ren (h:Ren p q ρ ρ' sh sh'):∀{v:Value} {d:D},RepD K ρ sh v d→RepD K ρ' sh' v (d.ren p q)
 |_,_,.dead x=>.dead x
 |_,_,.i r=>.i r
 |_,_,.agg r=>.agg (RepDL.ren h r)
 |_,_,.tup r=>.tup (RepDL.ren h r)
 |_,_,.box (dep:=dep) e=>by
  cases dep with
  |zero=>obtain⟨h1,h2⟩:=h.z _ _ e;rw[←h2];exact .box h1
  |succ dep=>obtain⟨h1,h2⟩:=h.s _ _ _ e;rw[←h2];exact .box h1
 |_,_,.arr (dep:=dep) e l=>by
  cases dep with
  |zero=>obtain⟨h1,h2⟩:=h.z _ _ e;rw[←h2];exact .arr h1 l
  |succ dep=>obtain⟨h1,h2⟩:=h.s _ _ _ e;rw[←h2];exact .arr h1 l
 |_,_,.osl (dep:=dep) e=>by
  cases dep with
  |zero=>obtain⟨h1,h2⟩:=h.z _ _ e;rw[←h2];exact .osl h1
  |succ dep=>obtain⟨h1,h2⟩:=h.s _ _ _ e;rw[←h2];exact .osl h1
 |_,_,.omp (dep:=dep) e=>by
  cases dep with
  |zero=>obtain⟨h1,h2⟩:=h.z _ _ e;rw[←h2];exact .omp h1
  |succ dep=>obtain⟨h1,h2⟩:=h.s _ _ _ e;rw[←h2];exact .omp h1
 |_,_,.psl e l=>by obtain⟨h1,h2⟩:=h.z _ _ e;rw[←h2];exact .psl h1 l
 |_,_,.xsl r e k l=>.xsl r e k l
 |_,_,.xnil=>.xnil
 |_,_,.bt=>.bt
 |_,_,.bf=>.bf
 |_,_,.fn r s=>.fn (RepDL.ren h r) (RepDL.ren h s)
theorem RepDL.ren (h:Ren p q ρ ρ' sh sh'):∀{v:List Value} {d:List D},RepDL K ρ sh v d→RepDL K ρ' sh' v (D.rens p q d)
 |_,_,.nil=>.nil
 |_,_,.cons r rs=>.cons (RepD.ren h r) (RepDL.ren h rs)
end
end
def Ob.flat:Ob→Bool
 |.box cs=>D.withins (fun _=>false) cs
 |.tb _ cs=>D.withins (fun _=>false) cs
 |.arr _ _ _ _ _=>true
 |.mp _ _=>true
def renσ (a b:Nat):List (Nat×D)→List (Nat×D)
 |[]=>[]
 |(t,d)::r=>(t,d.ren a b)::renσ a b r
theorem ze4 {a b t:Nat}:∀{l:List (Nat×D)},look (renσ a b l) t=(look l t).map (D.ren a b)
 |[]=>by simp[renσ,look]
 |(k,d)::r=>by
  simp only[renσ,zac,ze4]
  split<;>simp
theorem zq1 (nm nm':Nat) {ob:Ob} {O:List Heap} (hS:s.S=[(nm,ob)]::O) (hfl:ob.flat=true):Wk c s {σ:=renσ nm nm' s.σ,S:=[(nm',ob)]::O,n:=s.n}:=by
 intro K ρ a w hi;have hh:=hi.h;rw[hS] at hh;have ho:zab ([(nm,ob)]::O) 0 nm=some ob:=by simp[zab,zac]
 let ρ':Nat→Nat→Loc:=upd ρ nm' (ρ 0 nm)
 have hmv:Moves (fun _=>false) K K ρ ρ' (shape ([(nm,ob)]::O)) (shape ([(nm',ob)]::O)):=by
  refine⟨K.le_refl,fun _ _ h=>(by cases h),fun d n x e=>⟨by simpa [shape,zab] using e,zaO _ _ _ (.inl (by omega))⟩⟩
 have hren:Ren nm nm' ρ ρ' (shape ([(nm,ob)]::O)) (shape ([(nm',ob)]::O)):=by
  refine⟨fun n x e=>?_,hmv.s⟩
  by_cases hn:nm=n
  ·subst hn;have e1:renN nm nm' nm=nm':=by simp[renN]
   rw[e1];refine⟨?_,zaV _ _ _⟩;simpa [shape,zab,zac] using e
  ·simp[shape,zab,zac,hn,look] at e;exfalso;obtain⟨_,e,_⟩:=e;have hb:Nat.beq nm n=false:=by
    cases hb:Nat.beq nm n with
    |false=>rfl
    |true=>exact absurd (Nat.eq_of_beq_eq_true hb) hn
   rw[hb] at e;cases e
 have hcase:∀d n o,zab ([(nm',ob)]::O) d n=some o→(d=0∧n=nm'∧o=ob)∨∃d',d=d'+1∧zab ([(nm,ob)]::O) d n=some o:=by
  intro d n o e
  cases d with
  |zero=>
   have e':look [(nm',ob)] n=some o:=by simpa [zab] using e
   obtain⟨rfl,rfl⟩:=zaU e';exact .inl ⟨rfl,rfl,rfl⟩
  |succ d=>exact .inr ⟨d,rfl,by simpa [zab] using e⟩
 have r1:∀d n,ρ' (d+1) n=ρ (d+1) n:=fun d n=>zaO _ _ _ (.inl (by omega));have r0:ρ' 0 nm'=ρ 0 nm:=zaV _ _ _;have e0:∀f:Nat→Nat→Loc,(fun d n=>f (0+d) n)=f:=by intro f;funext d n;rw[Nat.zero_add]
 refine⟨K,ρ',⟨hh.holds,?_,?_,hh.size,?_,?_,?_,hh.Kle,hh.Knew,hh.rest⟩,hi.defers,hi.size,fun t d e=>?_⟩
 ·intro d n o e;rcases hcase d n o e with ⟨rfl,rfl,rfl⟩|⟨d',rfl,e'⟩
  ·have h0:=hh.own 0 nm _ ho;rw[e0] at h0 ⊢;rw[r0];refine h0.move hmv ?_ (fun _=>rfl) (fun _ _=>rfl)
   cases o with
   |box cs=>exact hfl
   |tb _ cs=>exact hfl
   |arr=>rfl
   |mp=>rfl
  ·have h0:=hh.own (d'+1) n o e';have e1:(fun d n=>ρ' (d'+1+d) n)=fun d n=>ρ (d'+1+d) n:=by
    funext d n;rw[show d'+1+d=(d'+d)+1 by omega,r1]
   rw[e1,r1];simpa using h0
 ·intro d n o d2 n2 o2 e e2 b b2 hbe;rcases hcase d n o e with ⟨rfl,rfl,rfl⟩|⟨d',rfl,e'⟩<;>rcases hcase d2 n2 o2 e2 with ⟨rfl,rfl,rfl⟩|⟨d2',rfl,e2'⟩
  ·exact⟨rfl,rfl⟩
  ·rw[r0] at b hbe;rw[r1] at b2 hbe;have:=(hh.inj _ _ _ _ _ _ ho e2' b b2 hbe).1;omega
  ·rw[r1] at b hbe;rw[r0] at b2 hbe;have:=(hh.inj _ _ _ _ _ _ e' ho b b2 hbe).1;omega
  ·rw[r1] at b hbe;rw[r1] at b2 hbe;exact hh.inj _ _ _ _ _ _ e' e2' b b2 hbe
 ·intro b hb hno;refine hh.old b hb fun d n o e hbk=>?_;have:=hno d n o (by simpa [zab] using e) (by rw[r1];exact hbk);rwa [r1] at this
 ·intro n o e hb;rcases hcase 0 n o e with ⟨_,rfl,rfl⟩|⟨_,h,_⟩
  ·rw[r0] at hb ⊢;exact hh.loc _ _ ho hb
  ·omega
 ·intro d;funext n;rw[r1,hh.outer]
 ·simp only[ze4] at e
  cases hl:look s.σ t with
  |none=>simp[hl] at e
  |some d0=>
   simp only[hl,Option.map_some,Option.some.injEq] at e;subst e;have:=hi.slots _ _ hl;rw[hS] at this;exact this.ren hren
end
end Go.AI
namespace Go.AI
def Ob.imm (H:Heap):Ob→Ob
 |.box cs=>.box (D.imms H cs)
 |.tb T cs=>.tb T (D.imms H cs)
 |o=>o
def immH (H0:Heap):Heap→Heap
 |[]=>[]
 |(n,o)::r=>(n,o.imm H0)::immH H0 r
theorem zg2 {H0:Heap}:∀{H:Heap} {n:Nat},look (immH H0 H) n=(look H n).map (Ob.imm H0)
 |[],n=>by simp[immH,look]
 |(k,o)::r,n=>by
  simp only[immH,zac,zg2]
  split<;>simp
theorem Ob.imm_sh (H:Heap) (o:Ob):(o.imm H).sh=o.sh:=by cases o<;>rfl
theorem Ob.imm_backed (H:Heap) (l:Loc) (o:Ob):zaD l (o.imm H)↔zaD l o:=by cases o<;>exact Iff.rfl
section
variable {c:Cx} {s:St}
theorem zaR {H:Heap} {O:List Heap} (hS:s.S=H::O):Wk c s {σ:=s.σ,S:=immH H H::O,n:=s.n}:=by
 intro K ρ a w hi;have hh:=hi.h;rw[hS] at hh;have hsh:shape (immH H H::O)=shape (H::O):=by
  funext d n
  cases d with
  |zero=>
   simp only[shape,zab,List.getElem?_cons_zero,zg2]
   cases look H n<;>simp[Ob.imm_sh]
  |succ d=>simp[shape,zab]
 have hcase:∀d n o,zab (immH H H::O) d n=some o→∃o0,zab (H::O) d n=some o0∧(o=o0∨(d=0∧o=o0.imm H))∧(∀l,zaD l o↔zaD l o0):=by
  intro d n o e
  cases d with
  |zero=>
   have e':look (immH H H) n=some o:=by simpa [zab] using e
   rw[zg2] at e'
   cases hl:look H n with
   |none=>simp[hl] at e'
   |some o0=>
    simp only[hl,Option.map_some,Option.some.injEq] at e';subst e';exact⟨o0,by simpa [zab] using hl,.inr ⟨rfl,rfl⟩,fun l=>Ob.imm_backed _ _ _⟩
  |succ d=>exact⟨o,by simpa [zab] using e,.inl rfl,fun _=>Iff.rfl⟩
 refine⟨K,ρ,⟨hh.holds,?_,?_,hh.size,?_,?_,hh.outer,hh.Kle,hh.Knew,hh.rest⟩,hi.defers,hi.size,fun t d e=>?_⟩
 ·intro d n o e;obtain⟨o0,e0,h1,_⟩:=hcase d n o e;have h0:=hh.own _ _ _ e0;have hdr:shape ((immH H H::O).drop d)=shape ((H::O).drop d):=by
   cases d with
   |zero=>exact hsh
   |succ d=>rfl
  rw[hdr];rcases h1 with rfl|⟨rfl,rfl⟩
  ·exact h0
  ·cases o0 with
   |mp=>exact h0
   |arr=>exact h0
   |box cs=>
    obtain⟨cl,T,a1,a2,a3⟩:=h0;have e2:(fun d n=>ρ (0+d) n)=ρ:=by funext d n;rw[Nat.zero_add]
    rw[e2] at a2 ⊢;exact⟨cl,T,a1,RepDL.imm hh a2,a3⟩
   |tb T cs=>
    obtain⟨cl,a1,a2,a3⟩:=h0;have e2:(fun d n=>ρ (0+d) n)=ρ:=by funext d n;rw[Nat.zero_add]
    rw[e2] at a2 ⊢;exact⟨cl,a1,RepDL.imm hh a2,a3⟩
 ·intro d n o d' n' o' e e' b b' hbe;obtain⟨o1,e1,_,h1⟩:=hcase d n o e;obtain⟨o2,e2,_,h2⟩:=hcase d' n' o' e';exact hh.inj _ _ _ _ _ _ e1 e2 ((h1 _).1 b) ((h2 _).1 b') hbe
 ·intro b hb hno;exact hh.old b hb fun d n o e=>hno d n o (by simpa [zab] using e)
 ·intro n o e hb;obtain⟨o1,e1,_,h1⟩:=hcase 0 n o e;exact hh.loc _ _ e1 ((h1 _).1 hb)
 ·rw[hsh];have:=hi.slots _ _ e;rw[hS] at this;exact this
end
def CoI (d e:I):Prop:=∀K v,Rep K v d→Rep K v e
theorem CoI.refl (d:I):CoI d d:=fun _ _ h=>h
theorem zbf {es:Nat}:CoI (.v (.slice none 0 0)) (.sl es 0 []):=by
 intro K v h
 cases h
 exact .nil
inductive CoL:List I→List I→Prop
 |nil:CoL [] []
 |cons {d e:I} {xs ys:List I}:CoI d e→CoL xs ys→CoL (d::xs) (e::ys)
theorem CoL.refl:∀l:List I,CoL l l
 |[]=>.nil
 |d::r=>.cons (CoI.refl d) (CoL.refl r)
theorem CoL.rep {K:Kn} {xs ys:List I} (h:CoL xs ys):∀{vs:List Value},RepL K vs xs→RepL K vs ys:=by
 induction h with
 |nil=>intro vs h;exact h
 |cons h1 _ ih=>
  intro vs h
  cases h with
  |cons a b=>exact .cons (h1 _ _ a) (ih b)
theorem CoL.length {xs ys:List I} (h:CoL xs ys):xs.length=ys.length:=by
 induction h with
 |nil=>rfl
 |cons _ _ ih=>simp[ih]
theorem CoL.append {a b c d:List I} (h:CoL a b) (h':CoL c d):CoL (a++c) (b++d):=by
 induction h with
 |nil=>exact h'
 |cons h1 _ ih=>exact .cons h1 ih
inductive CoLL:List (List I)→List (List I)→Prop
 |nil:CoLL [] []
 |cons {d e:List I} {xs ys:List (List I)}:CoL d e→CoLL xs ys→CoLL (d::xs) (e::ys)
theorem CoLL.refl:∀l:List (List I),CoLL l l
 |[]=>.nil
 |d::r=>.cons (CoL.refl d) (CoLL.refl r)
theorem CoLL.flat {xs ys:List (List I)} (h:CoLL xs ys):CoL xs.flatten ys.flatten:=by
 induction h with
 |nil=>exact .nil
 |cons h1 _ ih=>simpa using h1.append ih
theorem CoLL.length {xs ys:List (List I)} (h:CoLL xs ys):xs.length=ys.length:=by
 induction h with
 |nil=>rfl
 |cons _ _ ih=>simp[ih]
theorem CoLL.elems {xs ys:List (List I)} {es:Nat} (h:CoLL xs ys) (hl:∀d∈xs,d.length=es):∀d∈ys,d.length=es:=by
 induction h with
 |nil=>intro d hd;simp at hd
 |cons h1 _ ih=>
  intro d hd;rcases List.mem_cons.1 hd with rfl|hd
  ·rw[←h1.length];exact hl _ (by simp)
  ·exact ih (fun d hd=>hl d (by simp[hd])) d hd
theorem zcA {es n:Nat} {xs ys:List (List I)} (h:CoLL xs ys):CoI (.sl es n xs) (.sl es n ys):=by
 intro K v hr
 cases hr with
 |nil=>cases h;exact .nil
 |sl a b c d e=>exact .sl (h.flat.rep a) (h.elems b) c d (by rw[←h.length];exact e)
def CoD (d e:D):Prop:=∀K ρ sh v,RepD K ρ sh v d→RepD K ρ sh v e
theorem CoD.refl (d:D):CoD d d:=fun _ _ _ _ h=>h
theorem zcz {d e:I} (h:CoI d e):CoD (.i d) (.i e):=by
 intro K ρ sh v hr
 cases hr with
 |i r=>exact .i (h _ _ r)
inductive CoDL:List D→List D→Prop
 |nil:CoDL [] []
 |cons {d e:D} {xs ys:List D}:CoD d e→CoDL xs ys→CoDL (d::xs) (e::ys)
theorem CoDL.refl:∀l:List D,CoDL l l
 |[]=>.nil
 |d::r=>.cons (CoD.refl d) (CoDL.refl r)
theorem CoDL.rep {K:Kn} {ρ:Nat→Nat→Loc} {sh:Nat→Nat→Option Sh} {xs ys:List D} (h:CoDL xs ys):∀{vs:List Value},RepDL K ρ sh vs xs→RepDL K ρ sh vs ys:=by
 induction h with
 |nil=>intro vs h;exact h
 |cons h1 _ ih=>
  intro vs h
  cases h with
  |cons a b=>exact .cons (h1 _ _ _ _ a) (ih b)
theorem zbD {xs ys:List D} (h:CoDL xs ys):CoD (.agg xs) (.agg ys):=by
 intro K ρ sh v hr
 cases hr with
 |agg r=>exact .agg (h.rep r)
theorem zbT {xs ys:List D} (h:CoDL xs ys):CoD (.tup xs) (.tup ys):=by
 intro K ρ sh v hr
 cases hr with
 |tup r=>exact .tup (h.rep r)
section
variable {c:Cx} {s:St}
theorem zzm (t:Nat) {d:D} (h:CoD (s.get t) d):Wk c s (s.set t d):=by
 intro K ρ a w hi;refine⟨K,ρ,hi.h,hi.defers,hi.size,fun t' d' e=>?_⟩;simp only[St.set,zac] at e
 split at e
 ·rename_i htt;subst htt;simp only[Option.some.injEq] at e;subst e;exact h _ _ _ _ (hi.get t)
 ·exact hi.slots _ _ e
theorem znx {hT:TOk c.P c.T} {res d r:D} {Hr H:Heap} {O O':List Heap} (hp:c.post=zdW c.E res Hr O') (hd:resD c.T s c.fn.results.toList=some d) (hS:s.S=H::O) (ht:zfQ H Hr Hr) (hr:d.ret H Hr=r) (hO:O=O')
  (he:CoD r res):MSx c (.ret s):=by
 have h:=zyO (c:={ c with post:=zdW c.E r Hr O' }) hT hd hS ht hr hO rfl;intro K ρ a w hi;obtain⟨v,hv,K',ρ',h1,h2⟩:=h K ρ a w hi;refine⟨v,hv,?_⟩;rw[hp];exact⟨K',ρ',h1,he _ _ _ _ h2⟩
end
theorem zxY {k:Nat}:CoD (.i (.v (.func (.func k) #[] #[]))) (.fn (.func k) [] []):=by
 intro K ρ sh v h
 cases h with
 |i r=>
  cases r with
  |v _=>exact .fn (first:=[]) (cap:=[]) .nil .nil
theorem zen {S S':List Heap} (h:zab S'=zab S):shape S'=shape S:=by
 funext d n;simp only[shape,h]
theorem HInv.sameS {E:Env} {K:Kn} {ρ:Nat→Nat→Loc} {S S':List Heap} {w:World} (hi:HInv E K ρ S w) (h:∀d n,zab S' d n=zab S d n):HInv E K ρ S' w:=by
 have e:zab S'=zab S:=by funext d n;exact h d n
 have e2:=zen e;refine⟨hi.holds,fun d nm ob h1=>?_,fun d nm ob d' nm' ob' h1 h2=>?_,hi.size,fun b hb hno=>hi.old b hb ?_,fun nm ob h1=>?_,hi.outer,hi.Kle,hi.Knew,hi.rest⟩
 ·rw[e] at h1;have h2:=hi.own _ _ _ h1;have e3:shape (S'.drop d)=shape (S.drop d):=by
   funext d' n';rw[zbk,zbk,e2]
  rw[e3];exact h2
 ·rw[e] at h1 h2;exact hi.inj _ _ _ _ _ _ h1 h2
 ·intro d nm ob h1;exact hno d nm ob (by rw[e];exact h1)
 ·rw[e] at h1;exact hi.loc _ _ h1
theorem wk_S {c:Cx} {s:St} {S':List Heap} (h:∀d n,zab S' d n=zab s.S d n):Wk c s {σ:=s.σ,S:=S',n:=s.n}:=by
 intro K ρ a w hi;refine⟨K,ρ,hi.h.sameS h,hi.defers,hi.size,fun t d e=>?_⟩;have e2:shape S'=shape s.S:=zen (by funext d n;exact h d n);show RepD K ρ (shape S') _ _;rw[e2];exact hi.slots t d e
structure GM (c:Cx) (m:MS):Prop where
 h:MSx c m
section
variable {c:Cx} {s:St} {k:List Item} {ops:Array Oper} {rest:List Nat} {o:Oper}
theorem zai (hT:TOk c.P c.T) (hfn:c.P.funcs[c.f]? = some c.fn) {todo:List Item} (h:GM c (run c.T c.stop 1000 todo s)):Rch c todo s:=zaX hT hfn h.h
theorem zah {body:Code} (h:Rch c (.code body::.inLoop body::k) s):GM c (.loop body s k):=⟨h⟩
theorem zau {id:Nat} {draw:Bool} (h:Rch c (.code (.region id ops draw)::k) s):GM c (.stop id ops draw s k):=⟨h⟩
theorem g_wk {s':St} {body:Code} (hw:Wk c s s') (h:GM c (.loop body s' k)):GM c (.loop body s k):=⟨zxw hw h.h⟩
theorem za9 {s':St} (hw:Wk c s s') (h:GM c (.ret s')):GM c (.ret s):=⟨zni hw h.h⟩
theorem zae (hT:TOk c.P c.T) {res d r:D} {Hr H:Heap} {O O':List Heap} (hp:c.post=zdW c.E res Hr O') (hd:resD c.T s c.fn.results.toList=some d) (hS:s.S=H::O) (ht:zfQ H Hr Hr) (hr:d.ret H Hr=r) (hO:O=O')
  (he:r=res):GM c (.ret s):=⟨zaG (hT:=hT) hp hd hS ht hr hO he⟩
theorem zaF (hT:TOk c.P c.T) {res d r:D} {Hr H:Heap} {O O':List Heap} (hp:c.post=zdW c.E res Hr O') (hd:resD c.T s c.fn.results.toList=some d) (hS:s.S=H::O) (ht:zfQ H Hr Hr) (hr:d.ret H Hr=r) (hO:O=O')
  (he:CoD r res):GM c (.ret s):=⟨znx (hT:=hT) hp hd hS ht hr hO he⟩
variable (hT:TOk c.P c.T) (hfn:c.P.funcs[c.f]? = some c.fn)
include hT hfn
theorem g_go {id:Nat} {draw:Bool} (h:GM c (bif draw then .drawn id ops s k else run c.T c.stop 1000 (.inRegion ops (List.range ops.size)::k) s)):GM c (.stop id ops draw s k):=⟨m_go hT hfn h.h⟩
theorem zcM {i:Nat} {s':St} (ho:ops[i]? = some o) (hg:o.guard=none) (hw:Wk c s s') (h:GM c (cont c.T c.stop ops rest s' o (exec c.T s' o) k)):GM c (.pause ops i rest o s k):=⟨zxt hT hfn ho hg hw h.h⟩
theorem zaf {p:Prop} {a:Ask} (hp:p) (h:GM c (cont c.T c.stop ops rest s o a k)):GM c (.at ops rest s o (.need p a) k):=⟨zcY hT hfn hp h.h⟩
theorem zaq {xs:List (List I)} {i:Nat} {g:List I→Ask} {d:List I} (hd:xs[i]? = some d) (h:GM c (cont c.T c.stop ops rest s o (g d) k)):GM c (.at ops rest s o (.elem xs i g) k):=⟨zeq hT hfn hd h.h⟩
theorem zbF {dep nm:Nat} {g:Ob→Ask} {ob:Ob} (hd:zab s.S dep nm=some ob) (h:GM c (cont c.T c.stop ops rest s o (g ob) k)):GM c (.at ops rest s o (.obj dep nm g) k):=⟨zu1 hT hfn hd h.h⟩
theorem znK {p:Bool→Prop} {t:Nat} (ht:o.dst=some t) (hn:Nat.ble (t+1) s.n=true) (h:∀b,p b→GM c (run c.T c.stop 1000 (.inRegion ops rest::k) (setM s t (.i (.v (.bool b)))))):GM c (.at ops rest s o (.anyb p) k):=
 ⟨zwf hT hfn ht hn fun b hb=>(h b hb).h⟩
theorem zaj {f:FuncId} {args:List D} {res:D} {Hr H':Heap} {O':List Heap} {t:Nat} (hspec:zao c.P f (D.imms (zhe s.S) args) s.S res Hr (H'::O')) (ht:o.dst=some t) (hn:Nat.ble (t+1) s.n=true)
  (hne:zwh s.S=true) (hsh:shape (H'::O')=shape s.S) (hf:zcc Hr H'=true) (h:GM c (run c.T c.stop 1000 (.inRegion ops rest::k) (zri s t res.down ((zcE Hr++H')::O')))):GM c (.at ops rest s o (.call f args) k):=
 ⟨zcZ hT hfn hspec ht hn hne hsh hf h.h⟩
theorem zaw {l:List Nat} {t:Nat} {b:Bool} (ht:s.get t=.i (.v (.bool b))) (h1:b=true→GM c (run c.T c.stop 1000 (.inRegion ops l::k) (setM s t .bt))) (h2:b=false→GM c (run c.T c.stop 1000 (.inRegion ops l::k) (setM s t .bf))) :
  GM c (.know ops l t b s k):=⟨zbu hT hfn ht (fun e=>(h1 e).h) (fun e=>(h2 e).h)⟩
theorem zad {b:Bool} {x:Operand} {ct cf:Code} (hx:evD s x=.i (.v (.bool b))) (h1:b=true→GM c (run c.T c.stop 1000 (.code ct::k) s)) (h2:b=false→GM c (run c.T c.stop 1000 (.code cf::k) s)):GM c (.cnd b x ct cf s k):=
 ⟨za3 hT hfn hx (fun e=>(h1 e).h) (fun e=>(h2 e).h)⟩
theorem zat {id:Nat} {O:List Heap} (hm:c.P.follows .mixedOrders=true) {H:Heap} (hS:s.S=H::O) (h:GE c ops O s.n (FD c ops O s.n (s.σ,H) k) (runS c.T ops O s.n 0 ops.toList (s.σ,H) [])) :
  GM c (.drawn id ops s k):=⟨zny hT hm hS h⟩
theorem zaC {O:List Heap} {n:Nat} {x:SH} {acc:List Pl} {x0:SH} (hok:okD ops acc x0=true) (h:GM c (run c.T c.stop 1000 k (St.of O n x))):GE c ops O n (FD c ops O n x0 k) (.done x acc):=zrA hT hfn hok h.h
theorem zfj {i:Nat} {o:Oper} {rest:List Oper} {O:List Heap} {n:Nat} {x:SH} {acc:List Pl} {x0:SH} (l:List Nat) (hok:okT ops acc x0=true) (hl:List.range' acc.length (ops.size-acc.length)=l) (h:GM c (zhi x fun x=>run c.T c.stop 1000 (.inRegion ops l::k) (St.of O n x))):GE c ops O n (FD c ops O n x0 k) (.old i o rest x acc):=zyy hT hfn l hok hl h.h
end
theorem zvi {α β:Type} {f:α→β} {l:List α} {k:Int} {i:Nat} (e:k=i) (h:i<l.length):(l.map f)[k.toNat]? = some (f l[i]):=by subst e;simp[h]
section
variable {c:Cx} {s:St} {k:List Item} {ops:Array Oper} (hT:TOk c.P c.T) (hfn:c.P.funcs[c.f]? = some c.fn)
include hT hfn
theorem gcT {b:Bool} {x:Operand} {ct cf:Code} (hx:evD s x=.i (.v (.bool b))) (h:GM c (run c.T c.stop 1000 (.code ct::k) s)) (hb:b=true:=by first|rfl|decide):GM c (.cnd b x ct cf s k):=
 zad hT hfn hx (fun _=>h) fun e=>by rw[hb] at e;cases e
theorem gcF {b:Bool} {x:Operand} {ct cf:Code} (hx:evD s x=.i (.v (.bool b))) (h:GM c (run c.T c.stop 1000 (.code cf::k) s)) (hb:b=false:=by first|rfl|decide):GM c (.cnd b x ct cf s k):=
 zad hT hfn hx (fun e=>by rw[hb] at e;cases e) fun _=>h
theorem gkT {l:List Nat} {t:Nat} {b:Bool} (ht:s.get t=.i (.v (.bool b))) (h:GM c (run c.T c.stop 1000 (.inRegion ops l::k) (setM s t .bt))) (hb:b=true:=by first|rfl|decide):GM c (.know ops l t b s k):=
 zaw hT hfn ht (fun _=>h) fun e=>by rw[hb] at e;cases e
theorem gkF {l:List Nat} {t:Nat} {b:Bool} (ht:s.get t=.i (.v (.bool b))) (h:GM c (run c.T c.stop 1000 (.inRegion ops l::k) (setM s t .bf))) (hb:b=false:=by first|rfl|decide):GM c (.know ops l t b s k):=
 zaw hT hfn ht (fun e=>by rw[hb] at e;cases e) fun _=>h
end
section
variable {c:Cx} {ops:Array Oper} {O:List Heap} {n:Nat} {F:SH→List Pl→Prop} {o:Oper} {rest:List Oper} {x:SH} {acc:List Pl} {i:Nat} (hT:TOk c.P c.T)
include hT
theorem skT {b:Bool} {t:Nat} (h:GE c ops O n F (runS c.T ops O n (i+1) rest (setX x t .bt) (acc++[.one t .bt]))) (hb:b=true:=by first|rfl|decide):GE c ops O n F (.know i b t o rest x acc):=
 zbP hT (fun _=>h) fun e=>by rw[hb] at e;cases e
theorem skF {b:Bool} {t:Nat} (h:GE c ops O n F (runS c.T ops O n (i+1) rest (setX x t .bf) (acc++[.one t .bf]))) (hb:b=false:=by first|rfl|decide):GE c ops O n F (.know i b t o rest x acc):=
 zbP hT (fun e=>by rw[hb] at e;cases e) fun _=>h
end
def zba (g:Nat) (tab:Obj) (P:Program) (f:FuncId) (args:List D) (O:List Heap) (res:D) (Hr:Heap) (O':List Heap):Prop:=
 ∀E K ρ w vs,HInv E K ρ O w→TabQ g tab O ρ w→RepDL K ρ (shape O) vs args →
  Exec P f vs.toArray w fun v w'=>∃K' ρ',HInv (.of K ρ w) K' ρ' (Hr::O') w'∧RepD K' ρ' (shape (Hr::O')) v res
section
variable {P:Program} {T:TT} {f:FuncId} {fn:Func} {code:Code}
theorem zdk {E:Env} {K:Kn} {ρ:Nat→Nat→Loc} {O:List Heap} {w:World} (hw:HInv E K ρ O w):∃ρ1:Nat→Nat→Loc,(∀d,ρ1 (d+1)=ρ d)∧HInv (.of K ρ w) K ρ1 ([]::O) w:=by
 let ρ1:Nat→Nat→Loc:=fun d n=>match d with
  |0=>⟨0,0,none⟩
  |d+1=>ρ d n
 refine⟨ρ1,fun d=>rfl,hw.holds,?_,?_,Nat.le_refl _,fun _ _ _=>rfl,?_,fun d=>rfl,K.le_refl,fun _ _ _ h=>.inl h,⟨rfl,rfl,rfl⟩⟩
 ·intro d nm ob e
  cases d with
  |zero=>simp[zab,look] at e
  |succ d=>
   have e':zab O d nm=some ob:=by simpa [zab] using e
   have:=hw.own _ _ _ e';have e1:(fun d' n=>ρ1 (d+1+d') n)=fun d' n=>ρ (d+d') n:=by
    funext d' n;rw[show d+1+d'=(d+d')+1 by omega]
   rw[e1];simpa using this
 ·intro d nm ob d' nm' ob' e e' b b' hbe
  cases d with
  |zero=>simp[zab,look] at e
  |succ d=>
   cases d' with
   |zero=>simp[zab,look] at e'
   |succ d'=>
    have:=hw.inj d nm ob d' nm' ob' (by simpa [zab] using e) (by simpa [zab] using e') b b' hbe;exact⟨by omega,this.2⟩
 ·intro nm ob e _;simp[zab,look] at e
theorem zaM {g:Nat} {tab:Obj} (stop:List Nat) (hT:TOk P T) (hf:P.funcs[f]? = some fn) (hb:fn.body=some code) (hcall:∀args w,(callFunc f args).run P w=.ok (.enter f args) w) {args:List D} {O O':List Heap} {res:D} {Hr:Heap} {n:Nat}
  (hn:fn.ntmps=n) (hlen:args.length≤n)
  (h:∀E,TabE g tab E O→Rch {P:=P,T:=T,E:=E,f:=f,fn:=fn,post:=zdW E res Hr O',stop:=stop} [.code code] {σ:=argσ 0 (D.shifts 1 args),S:=[]::O,n:=n}):zba g tab P f args O res Hr O':=by
 intro E K ρ w vs hw htab hrep;refine .inl ⟨hcall _ _,fun cs=>?_⟩;obtain⟨ρ1,hρ1,hI⟩:=zdk hw;have hvl:=hrep.length
 let b:Frame:={ (default:Frame) with fn:=f,kind:=.normal}
 have henter:Frame.enter P f vs.toArray .normal=b.at {tmps:=vs.toArray++Array.replicate (fn.ntmps-vs.toArray.size) undef,defers:=[]} [.code code]:=by
  simp[Frame.enter,Frame.at,hf,hb,b]
 have hinv:Inv (.of K ρ w) K ρ1 {σ:=argσ 0 (D.shifts 1 args),S:=[]::O,n:=n} {tmps:=vs.toArray++Array.replicate (fn.ntmps-vs.toArray.size) undef,defers:=[]} w:=by
  refine⟨hI,rfl,by simp;omega,fun t d e=>?_⟩;rw[zg3] at e;simp only[Nat.zero_le,if_true,Nat.sub_zero] at e;have hsh:RepDL K ρ1 (shape ([]::O)) vs (D.shifts 1 args):=by
   refine RepDL.shift (ρ:=ρ1) (sh:=shape ([]::O)) 1 ?_;have e1:(fun d n=>ρ1 (1+d) n)=ρ:=by funext d n;rw[Nat.add_comm,hρ1]
   have e2:(fun d n=>shape ([]::O) (1+d) n)=shape O:=by
    funext d n;rw[Nat.add_comm];simp[shape,zab]
   rw[e1,e2];exact hrep
  obtain⟨y,hy,hr⟩:=hsh.get e;have:(vs.toArray++Array.replicate (fn.ntmps-vs.toArray.size) undef).getD t undef=y:=by
   have hlt:t<vs.length:=(List.getElem?_eq_some_iff.1 hy).1;simp only[Array.getD_eq_getD_getElem?];rw[Array.getElem?_append_left (by simpa using hlt)];simp[hy]
  rw[this];exact hr
 have hlt:g<w.heap.size:=(Array.getElem?_eq_some_iff.1 htab.1).1;obtain⟨v,w',fr,hp,hst,hfr,hlv⟩:=h (.of K ρ w) ⟨htab,hlt⟩ K ρ1 _ w b cs hinv rfl rfl;rw[←henter] at hst;exact⟨.returned v,w',fr,⟨v,rfl,hp⟩,hst,hfr,hlv⟩
end
theorem zii {g:Nat} {tab:Obj} {c:Cx} {s:St} {o:Oper} {Q:St→Prop} {f:FuncId} {args:List D} {res:D} {Hr H':Heap} {O0 O':List Heap} {t:Nat} (htab:TabE g tab c.E O0)
  (hspec:zba g tab c.P f (D.imms (zhe s.S) args) s.S res Hr (H'::O')) (ht:o.dst=some t) (hn:t<s.n) {H:Heap} {O:List Heap} (hS:s.S=H::O) (hO:shape O=shape O0) (hsh:shape (H'::O')=shape s.S) (hf:∀nm,look Hr nm≠none→look H' nm=none)
  (hq:Q {σ:=(t,res.down)::s.σ,S:=(zcE Hr++H')::O',n:=s.n}):Does c o s Q (.call f args):=by
 intro K ρ a w hi ⟨vs,hrun,hrep⟩ next Qe hnext
 have hh:=hi.h;have hrep':=RepDL.imm hh hrep;rw[hS] at hspec hsh hh hrep';have fin:∀v w',(∃K' ρ',HInv (.of K ρ w) K' ρ' (Hr::H'::O') w'∧RepD K' ρ' (shape (Hr::H'::O')) v res)→next (a.put o.dst v) w':=by
  intro v w' ⟨K',ρ',h1,h2⟩;obtain⟨ρ'',hI,hst,hdn⟩:=hh.back h1 hsh hf;refine hnext _ _ _ _ _ hst.le (fun d n x _ e=>⟨hst.shp _ _ _ (by rw[hS] at e;exact e),hst.loc _ _ _ (by rw[hS] at e;exact e)⟩) ?_ hq;rw[ht];refine zdu hi hn hI ?_ (h2.down hdn);rw[hS];exact hst
 rcases hspec c.E K ρ w vs hh (zre htab hO hh) hrep' with ⟨h1,h2⟩|⟨v,w',h1,h2⟩
 ·rw[h1] at hrun;simp only[Oper.wp,hrun,Oper.upon];refine h2.mono ?_;rintro e w' ⟨v,rfl,hR⟩;exact fin v w' hR
 ·rw[h1] at hrun;simp only[Oper.wp,hrun,Oper.upon];exact fin v w' h2
section
variable {c:Cx} {s:St} {k:List Item} {ops:Array Oper} {rest:List Nat} {o:Oper} {g:Nat} {tab:Obj}
theorem zbM (hT:TOk c.P c.T) (hfn:c.P.funcs[c.f]? = some c.fn) {O0:List Heap} (htab:TabE g tab c.E O0) {f:FuncId} {args:List D} {res:D} {Hr H':Heap} {O':List Heap} {t:Nat} (hspec:zba g tab c.P f (D.imms (zhe s.S) args) s.S res Hr (H'::O')) (ht:o.dst=some t) (hn:Nat.ble (t+1) s.n=true)
  {H:Heap} {O:List Heap} (hS:s.S=H::O) (hO:shape O=shape O0) (hsh:shape (H'::O')=shape s.S) (hf:zcc Hr H'=true) (h:GM c (run c.T c.stop 1000 (.inRegion ops rest::k) (zri s t res.down ((zcE Hr++H')::O')))):GM c (.at ops rest s o (.call f args) k):=
 ⟨zii htab hspec ht (Nat.le_of_ble_eq_true hn) hS hO hsh (zcr hf) (by have h':=h.h;rw[ziz] at h';exact za5 hT hfn 1000 (.inRegion ops rest::k) _ h')⟩
end
section
variable {c:Cx} {ops:Array Oper} {O:List Heap} {n:Nat} {F:SH→List Pl→Prop} {o:Oper} {rest:List Oper} {x:SH} {acc:List Pl} {i:Nat} {g:Nat} {tab:Obj}
theorem zdp (hT:TOk c.P c.T) {O0:List Heap} (htab:TabE g tab c.E O0) {f:FuncId} {args:List D} {res:D} {Hr:Heap} {t:Nat} (hspec:zba g tab c.P f (D.imms (zaI ops o x).2 args) ((zaI ops o x).2::O) res Hr ((zaI ops o x).2::O)) (ht:o.dst=some t) (hn:Nat.ble (t+1) n=true)
  (hO:shape O=shape O0) (hf:zcc Hr x.2=true) (h:GE c ops O n F (runS c.T ops O n (i+1) rest (newX x t res.down (zcE Hr)) (acc++[⟨[(t,res.down)],zcE Hr,none⟩]))) :
  GE c ops O n F (.at i o rest x acc (.call f args)):=by
 refine⟨fun hro=>⟨⟨[(t,res.down)],zcE Hr,none⟩,(zhg hro).symm,fun E hE=>?_,zbb hT rest _ _ _ h.h⟩⟩;refine zii (c:={ c with E:=E}) (s:=vw ops O n o x) (H':=(zaI ops o x).2) (O':=O) (H:=(zaI ops o x).2) (O:=O) (hE.tb g tab O0 hO htab) hspec ht (Nat.le_of_ble_eq_true hn) rfl hO rfl (zcr (zhh zis hf)) ⟨rfl,rfl,fun t' d' e=>?_⟩;obtain⟨rfl,rfl⟩:=zaU e;exact .inr (.inl (by simp[zac]))
end
theorem zkf {E:Env} {K:Kn} {ρ:Nat→Nat→Loc} {S:List Heap} {w:World} (hw:HInv E K ρ S w) (n:Nat) (os:Array Obj):Grow K ρ S w [] K ρ (Sort.grow (w.drewN n) os):=by
 have hold:∀b,b<w.heap.size→(Sort.grow (w.drewN n) os).heap[b]? = w.heap[b]?:=by
  intro b hb;show (w.heap++os)[b]? = w.heap[b]?;rw[Array.getElem?_append_left hb]
 refine⟨K.le_refl,fun _ _ _ h=>.inl h,by show _≤(w.heap++os).size;simp,hold,⟨rfl,rfl,rfl⟩,fun _ _ _=>rfl,fun b o x hx=>?_,fun _ _ h=>by simp[look] at h,fun _ _ _ _ h=>by simp[look] at h⟩;have h1:=hw.holds _ _ _ hx;have hb:b<w.heap.size:=by
  rcases Nat.lt_or_ge b w.heap.size with h|h
  ·exact h
  ·rw[hw.K_fresh h] at hx;cases hx
 rw[World.cell?,hold b hb];exact h1
end Go.AI
