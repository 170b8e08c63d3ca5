/- The layer of abstract runs, part 26. -/
import Derived.Test.YtlcekmemdnjjbaaGreatDoorCorY
set_option linter.unusedSimpArgs false
set_option linter.unusedVariables false
set_option linter.all false

set_option maxHeartbeats 4000000
namespace Go.AI
open Go.Proofs
section
variable {E0 E:Env} {K:Kn} {ρ:Nat→Nat→Loc} {H:Heap} {O:List Heap} {w:World}
theorem zcw {nm d n:Nat} {ob:Ob} (e:zaa (zaS nm H::O) d n=some ob):∃ o0,zaa (H::O) d n=some o0∧¬ (d=0∧n=nm)∧(∀ l,zar l ob ↔ zar l o0)∧(d=0→ob=o0.kill nm)∧(d≠0→ob=o0):=by
 cases d with
 | zero=>
  simp only[zaa,List.getElem?_cons_zero,za2] at e
  split at e
  ·cases e
  ·rename_i hn
   cases hl:look H n with
   | none=>simp[hl] at e
   | some o0=>
    simp only[hl,Option.map_some,Option.some.injEq] at e
    subst e
    exact⟨o0,by simpa [zaa] using hl,fun h=>hn h.2,fun l=>zeB _ _ _,fun _=>rfl,fun h=>absurd rfl h⟩
 | succ d=>exact⟨ob,by simpa [zaa] using e,fun h=>by omega,fun _=>Iff.rfl,fun h=>by omega,fun _=>rfl⟩
theorem HInv.dropNm (nm:Nat) (h:HInv E K ρ (H::O) w):HInv E K ρ (zaS nm H::O) w:=by
 have e0:(fun d n=>ρ (0+d) n)=ρ:=by funext d n;rw[Nat.zero_add]
 refine⟨h.holds,fun d n ob e=>?_,fun d n1 o1 d' n2 o2 e1 e2 b1 b2 hbe=>?_,h.size,fun b hb hno=>h.old b hb fun d n ob e=>hno d n ob (by simpa [zaa] using e),fun n ob e hb=>?_,h.outer,h.Kle,h.Knew,h.rest⟩
 ·obtain⟨o0,a1,a2,a3,a4,a5⟩:=zcw e
  have hs:=h.own d n o0 a1
  cases d with
  | zero=>
   rw[a4 rfl]
   rw[e0,List.drop_zero] at hs
   rw[e0,List.drop_zero]
   exact hs.kill (zfQ nm) (fun _=>rfl)
  | succ d=>
   rw[a5 (by omega)]
   exact hs
 ·obtain⟨p1,a1,_,a3,_⟩:=zcw e1
  obtain⟨p2,c1,_,c3,_⟩:=zcw e2
  exact h.inj _ _ _ _ _ _ a1 c1 ((a3 _).1 b1) ((c3 _).1 b2) hbe
 ·obtain⟨p1,a1,_,a3,_⟩:=zcw e
  exact h.loc _ _ a1 ((a3 _).1 hb)
def reE (E:Env) (K:Kn) (w:World) (q:Nat→Prop) (hq:∀ b,q b→b<w.heap.size) (hs:E.w0.heap.size≤w.heap.size):Env:=
 { K0:=K,ρ0:=E.ρ0,w0:=w,pr:=fun b=>E.pr b∨q b,lt:=fun b hb=>by rcases hb with h | h;exact Nat.lt_of_lt_of_le (E.lt b h) hs;exact hq b h }
theorem HInv.rebase {S:List Heap} (h:HInv E K ρ S w) {q:Nat→Prop} (hq:∀ b,q b→b<w.heap.size) (hfree:∀ nm ob b,q b→zaa S 0 nm=some ob→zar (ρ 0 nm) ob→(ρ 0 nm).block≠b):HInv (reE E K w q hq h.size) K ρ S w:=
 ⟨h.holds,h.own,h.inj,Nat.le_refl _,fun _ _ _=>rfl,fun nm ob e hb hp=>by
  rcases hp with hp | hp
  ·exact h.loc _ _ e hb hp
  ·exact hfree nm ob _ hp e hb rfl,h.outer,Kn.le_refl _,fun _ _ _ e=>.inl e,⟨rfl,rfl,rfl⟩⟩
theorem zq2 (hh:HInv E K ρ (H::O) w) (hb:Base E0 E O) {q:Nat→Prop} (hq:∀ b,q b→b<w.heap.size):Base E0 (reE E K w q hq hh.size) O:=by
 refine⟨Kn.le_trans hb.K hh.Kle,hb.ρ,fun b hp=>.inl (hb.pr b hp),fun b o x e=>?_,Nat.le_trans hb.size hh.size,fun b hp ho=>?_,?_⟩
 ·rcases hh.Knew b o x e with h1 | h1
  ·exact hb.new b o x h1
  ·exact .inr fun hp=>h1 (hb.pr b hp)
 ·show w.heap[b]? = _
  rw[hh.old b (hb.pr b hp) (hh.outerNe hb ho)]
  exact hb.old b hp ho
 ·show w.tape=_∧w.os=_∧w.output=_
  exact⟨hh.rest.1.trans hb.rest.1,hh.rest.2.1.trans hb.rest.2.1,hh.rest.2.2.trans hb.rest.2.2⟩
end
section
variable {c:Cx} {s:St} {k:List Item} {ops:Array Oper} {rest:List Nat} {o:Oper} {E0:Env} {H:Heap} {O:List Heap}
end
section
variable {P:Program} {T:TT} {f:FuncId} {fn:Func} {code:Code}
end
section
variable {c:Cx} {s:St} {k:List Item} {ops:Array Oper} {rest:List Nat} {o:Oper} {g:Nat} {tab:Obj}
end
section
variable {c:Cx} {ops:Array Oper} {O:List Heap} {n:Nat} {F:SH→List Pl→Prop}
def SegF (c:Cx) (ops:Array Oper) (O:List Heap) (n:Nat) (F:SH→List Pl→Prop) (N:Nat) (r:List Oper):SH→List Pl→Prop:=fun y ac=>ac.length=N∧GD c ops O n F r y ac
theorem ztx {r:List Oper} {N:Nat}:∀ {l:List Oper} {x:SH} {acc:List Pl},acc.length+l.length=N→GD c ops O n (SegF c ops O n F N r) l x acc→GD c ops O n F (l++r) x acc
 | [],x,acc,hN,⟨qs,h1,h2⟩=>by
  cases qs with
  | nil=>simpa [zbt] using h2.2
  | cons q qs=>exact absurd h1 (by simp[zdr])
 | o::l,x,acc,hN,⟨qs,h1,h2⟩=>by
  cases qs with
  | nil=>
   have:=h2.1
   simp only[List.append_nil,List.length_cons] at this hN
   omega
  | cons q qs=>
   obtain⟨h3,h4⟩:=h1
   have hN':(acc++[q]).length+l.length=N:=by
    have e1:(o::l).length=l.length+1:=rfl
    have e2:(acc++[q]).length=acc.length+1:=by rw[List.length_append];rfl
    omega
   exact zet h3 (ztx hN' ⟨qs,h4,by rw[List.append_assoc];exact h2⟩)
end
section
variable {c:Cx}
theorem zn7 (hT:TOk c.P c.T) (m:Nat) (hm:c.P.follows .mixedOrders=true) {id:Nat} {ops:Array Oper} {s:St} {k:List Item} {H:Heap} {O:List Heap} (hS:s.S=H::O)
  (hml:m≤ops.size) (h:GE c ops O s.n (SegF c ops O s.n (FD c ops O s.n (s.σ,H) k) m (ops.toList.drop m)) (runS c.T ops O s.n 0 (ops.toList.take m) (s.σ,H) [])):GM c (.drawn id ops s k):=by
 refine⟨?_⟩
 have h0:=ztx (by simp;omega) (za0 hT _ _ _ _ h.h)
 rw[List.take_append_drop] at h0
 obtain⟨qs,h1,h2⟩:=h0
 rw[List.nil_append] at h2
 have hs:s=St.of O s.n (s.σ,H):=by
  cases s
  simp only at hS
  subst hS
  rfl
 show Rch c (.code (.region id ops true)::k) s
 rw[hs]
 exact zib hm h2.1 h1 h2.2
end
end Go.AI


namespace Go.AI
open Go.Proofs
set_option maxRecDepth 20000
end Go.AI


namespace Go.AI
open Go.Proofs
set_option maxRecDepth 20000
def zd9 (a:Aut) (on:List Int) (n:Nat) (s:List Int) (ev:Int):List Int × Bool × Int:=(nxt a.edges (lowP on [] false) n s ev,decide ((nxt a.edges (lowP on [] false) n s ev).length≠0),0)
def prjR (a:Aut) (on:List Int) (n:Nat):Except Int (Unf (List Int)):=unfR eqB false (zd9 a on n) (zcx a) (zbJ a on) (clo a.edges (lowP on [] false) n [0])
theorem zdS {σ:Type} {eq:σ→σ→Bool} {lim:Bool} {step:σ→Int→σ × Bool × Int} {mkd:σ→Bool} {alpha:List Int} {U:Unf σ} {i:Nat} (h:U.sts.length≤i):∀ k,zbx eq lim step mkd alpha k i U = .ok U
 | 0=>rfl
 | k+1=>by simp only[zbx,List.getElem?_eq_none h]
end Go.AI


namespace Go.AI
theorem znx {σ:Type} {eq:σ→σ→Bool} {lim:Bool} {step:σ→Int→σ × Bool × Int} {i:Nat} {s:σ} {ev:Int} {U V:Unf σ} (h:zbA eq lim step i s ev U = .ok V):U.sts <+: V.sts:=by
 unfold zbA at h
 split at h
 ·cases h
 split at h
 ·simp only[Except.ok.injEq] at h;subst h;exact List.prefix_refl _
 split at h
 ·simp only[Except.ok.injEq] at h;subst h;exact List.prefix_refl _
 split at h
 ·cases h
 ·simp only[Except.ok.injEq] at h;subst h;exact List.prefix_append _ _
theorem zfS {σ:Type} {eq:σ→σ→Bool} {lim:Bool} {step:σ→Int→σ × Bool × Int} {i:Nat} {s:σ}:∀ {l:List Int} {U V:Unf σ},zav eq lim step i s l U = .ok V→U.sts <+: V.sts
 | [],U,V,h=>by simp only[zav,Except.ok.injEq] at h;subst h;exact List.prefix_refl _
 | ev::r,U,V,h=>by
  simp only[zav] at h
  cases h1:zbA eq lim step i s ev U with
  | error e=>rw[h1] at h;cases h
  | ok U'=>rw[h1] at h;exact (znx h1).trans (zfS h)
theorem ziY {σ:Type} {eq:σ→σ→Bool} {lim:Bool} {step:σ→Int→σ × Bool × Int} {mkd:σ→Bool} {alpha:List Int}:∀ {f i:Nat} {U V:Unf σ},zbx eq lim step mkd alpha f i U = .ok V→U.sts <+: V.sts
 | 0,i,U,V,h=>by simp only[zbx,Except.ok.injEq] at h;subst h;exact List.prefix_refl _
 | f+1,i,U,V,h=>by
  simp only[zbx] at h
  cases hs:U.sts[i]? with
  | none=>rw[hs] at h;simp only[Except.ok.injEq] at h;subst h;exact List.prefix_refl _
  | some s=>
   rw[hs] at h
   simp only at h
   cases h1:zav eq lim step i s alpha (zbk mkd i s U) with
   | error e=>rw[h1] at h;cases h
   | ok U'=>
    rw[h1] at h
    have:=zfS h1
    rw[(zb7 mkd i s U).1] at this
    exact this.trans (ziY h)
structure PrjOk (b:Aut) (on:List Int) (n:Nat) (V:Unf (List Int)):Prop where
 fst:V.sts[0]? = some (clo b.edges (lowP on [] false) n [0])
 nd:V.sts.Nodup
 el:∀ s∈V.sts,s∈subs n
 ne:∀ s∈V.sts,s≠[]
 mrk:∀ (i:Nat) E,V.sts[i]? = some E→decide ((i:Int)∈V.mkl)=zcx b E
 st:∀ (i:Nat) E,V.sts[i]? = some E→∀ ev∈zbJ b on,(nxt b.edges (lowP on [] false) n E ev=[]∧stp3 V.eds i ev = -1) ∨
  ∃ j:Nat,stp3 V.eds i ev=(j:Int)∧V.sts[j]? = some (nxt b.edges (lowP on [] false) n E ev)∧nxt b.edges (lowP on [] false) n E ev≠[]
 len:V.sts.length≤32∧V.mkl.length≤32∧V.eds.length≤32 * 32
abbrev NP:=Nat × Nat
section
variable (b c:Aut) (lp:Int→Bool) (n:Nat) (kp:List Int) (V W:Unf (List Int))
def atW (t:List Int) (z:NP):Prop:=V.sts[z.1]? = some (nxtL b.edges lp n (clo b.edges lp n [0]) t)∧W.sts[z.2]? = some (nxtL c.edges lp n (clo c.edges lp n [0]) t)
def zwq (l:List NP) (z:NP) (ev:Int):Prop:=∀ E F,V.sts[z.1]? = some E→W.sts[z.2]? = some F→(nxt b.edges lp n E ev=[] ↔ nxt c.edges lp n F ev=[]) ∧
 (nxt b.edges lp n E ev≠[]→∃ y∈l,V.sts[y.1]? = some (nxt b.edges lp n E ev)∧W.sts[y.2]? = some (nxt c.edges lp n F ev))
def zwp (z:NP):Prop:=∀ E F,V.sts[z.1]? = some E→W.sts[z.2]? = some F→zcx b E=zcx c F
structure prOk (i:Nat) (l:List NP):Prop where
 nd:l.Nodup
 zero:(0,0)∈l
 at_:∀ z∈l,∃ t,(∀ ev∈t,ev∈kp)∧atW b c lp n V W t z
 mrk:∀ (k:Nat) z,k<i→l[k]? = some z→zwp b c V W z
 ev:∀ (k:Nat) z,k<i→l[k]? = some z→∀ ev∈kp,zwq b c lp n V W l z ev
variable {b c lp n kp V W}
theorem zpN (es:List Edg) (p:Int→Bool) (n:Nat) (l:List Int) (t:List Int) (ev:Int):nxtL es p n l (t++[ev])=nxt es p n (nxtL es p n l t) ev:=by
 unfold nxtL
 rw[List.foldl_append]
 rfl
end
section
variable {b c:Aut} {on:List Int} {n:Nat} {kp:List Int} {V W:Unf (List Int)}
end
end Go.AI


namespace Go.AI
set_option maxRecDepth 20000
def Unf.map {σ τ:Type} (f:σ→τ) (U:Unf σ):Unf τ:=⟨U.sts.map f,U.mkl,U.eds⟩
def zkN {σ τ:Type} (f:σ→τ):Except Int (Unf σ)→Except Int (Unf τ)
 | .error e=>.error e
 | .ok U=>.ok (U.map f)
section
variable {σ τ:Type} {eq:σ→σ→Bool} {eq':τ→τ→Bool} {lim:Bool} {step:σ→Int→σ × Bool × Int} {step':τ→Int→τ × Bool × Int} {mkd:σ→Bool} {mkd':τ→Bool} {P:σ→Prop} {f:σ→τ} {alpha:List Int}
structure Sim (eq:σ→σ→Bool) (eq':τ→τ→Bool) (step:σ→Int→σ × Bool × Int) (step':τ→Int→τ × Bool × Int) (mkd:σ→Bool) (mkd':τ→Bool) (P:σ→Prop) (f:σ→τ) (alpha:List Int):Prop where
 st:∀ s ev,P s→ev∈alpha→(step' (f s) ev).2=(step s ev).2∧((step s ev).2.1=true→(step' (f s) ev).1=f (step s ev).1∧P (step s ev).1)
 eq:∀ a b,P a→P b→eq' (f a) (f b)=eq a b
 mark:∀ s,P s→mkd' (f s)=mkd s
theorem zny (h:Sim eq eq' step step' mkd mkd' P f alpha) {i:Nat} {s:σ} {ev:Int} {U:Unf σ} (hs:P s) (he:ev∈alpha) (hU:∀ t∈U.sts,P t) :
  zbA eq' lim step' i (f s) ev (U.map f)=zkN f (zbA eq lim step i s ev U)∧∀ V,zbA eq lim step i s ev U = .ok V→∀ t∈V.sts,P t:=by
 obtain⟨h1,h2⟩:=h.st s ev hs he
 unfold zbA
 rw[h1]
 by_cases c1:(step s ev).2.2≠0
 ·rw[if_pos c1,if_pos c1]
  exact⟨rfl,fun V hV=>by cases hV⟩
 rw[if_neg c1,if_neg c1]
 by_cases c2:(step s ev).2.1=false
 ·rw[if_pos c2,if_pos c2]
  exact⟨rfl,fun V hV=>by cases hV;exact hU⟩
 rw[if_neg c2,if_neg c2]
 obtain⟨h3,h4⟩:=h2 (by simpa using c2)
 have e1:(U.map f).sts.findIdx (eq' (step' (f s) ev).1)=U.sts.findIdx (eq (step s ev).1):=by
  show (U.sts.map f).findIdx _=_
  rw[List.findIdx_map,h3]
  exact zbS fun x hx=>h.eq _ _ h4 (hU x hx)
 have e2:(U.map f).sts.length=U.sts.length:=by show (U.sts.map f).length=_;rw[List.length_map]
 rw[e1,e2]
 by_cases c3:U.sts.findIdx (eq (step s ev).1)<U.sts.length
 ·rw[if_pos c3,if_pos c3]
  exact⟨rfl,fun V hV=>by cases hV;exact hU⟩
 rw[if_neg c3,if_neg c3]
 by_cases c4:lim=true∧U.sts.length=4096
 ·rw[if_pos c4,if_pos c4]
  exact⟨rfl,fun V hV=>by cases hV⟩
 rw[if_neg c4,if_neg c4]
 refine⟨?_,fun V hV t ht=>?_⟩
 ·simp only[zkN,Unf.map,List.map_append,List.map_cons,List.map_nil,h3]
 ·cases hV
  rcases List.mem_append.1 ht with ht | ht
  ·exact hU t ht
  ·rw[List.mem_singleton] at ht
   subst ht
   exact h4
theorem zfT (h:Sim eq eq' step step' mkd mkd' P f alpha) {i:Nat} {s:σ} (hs:P s):∀ (l:List Int) {U:Unf σ},(∀ ev∈l,ev∈alpha)→(∀ t∈U.sts,P t) →
  zav eq' lim step' i (f s) l (U.map f)=zkN f (zav eq lim step i s l U)∧∀ V,zav eq lim step i s l U = .ok V→∀ t∈V.sts,P t
 | [],U,_,hU=>⟨rfl,fun V hV=>by cases hV;exact hU⟩
 | ev::l,U,hl,hU=>by
  obtain⟨h1,h2⟩:=zny (lim:=lim) (i:=i) h hs (hl ev (by simp)) hU
  simp only[zav]
  rw[h1]
  cases hV:zbA eq lim step i s ev U with
  | error e=>exact⟨rfl,fun V h=>by cases h⟩
  | ok V=>
   simp only[zkN]
   exact zfT h hs l (fun x hx=>hl x (by simp[hx])) (h2 V hV)
theorem ziZ (h:Sim eq eq' step step' mkd mkd' P f alpha):∀ (n i:Nat) {U:Unf σ},(∀ t∈U.sts,P t) →
  zbx eq' lim step' mkd' alpha n i (U.map f)=zkN f (zbx eq lim step mkd alpha n i U)∧∀ V,zbx eq lim step mkd alpha n i U = .ok V→∀ t∈V.sts,P t
 | 0,i,U,hU=>⟨rfl,fun V hV=>by cases hV;exact hU⟩
 | n+1,i,U,hU=>by
  simp only[zbx]
  have e0:(U.map f).sts[i]? = (U.sts[i]?).map f:=by show (U.sts.map f)[i]? = _;rw[List.getElem?_map]
  rw[e0]
  cases hs:U.sts[i]? with
  | none=>exact⟨rfl,fun V hV=>by cases hV;exact hU⟩
  | some s=>
   simp only[Option.map_some]
   have hPs:P s:=hU s (List.mem_of_getElem? hs)
   have e1:zbk mkd' i (f s) (U.map f)=(zbk mkd i s U).map f:=by
    unfold zbk
    rw[h.mark s hPs]
    split <;> rfl
   obtain⟨m1,m2⟩:=zb7 mkd i s U
   have hM:∀ t∈(zbk mkd i s U).sts,P t:=by rw[m1];exact hU
   rw[e1]
   obtain⟨h1,h2⟩:=zfT (lim:=lim) (i:=i) h hPs alpha (fun _ hx=>hx) hM
   rw[h1]
   cases hV:zav eq lim step i s alpha (zbk mkd i s U) with
   | error e=>exact⟨rfl,fun V h=>by cases h⟩
   | ok V=>
    simp only[zkN]
    exact ziZ h n (i+1) (h2 V hV)
theorem zrD (h:Sim eq eq' step step' mkd mkd' P f alpha) {first:σ} (h0:P first):unfR eq' lim step' mkd' alpha (f first)=zkN f (unfR eq lim step mkd alpha first):=
 (ziZ (lim:=lim) h 4097 0 (U:=unf0 first) (fun t ht=>by rw[unf0,List.mem_singleton] at ht;subst ht;exact h0)).1
end
end Go.AI


namespace Go.AI
abbrev pk (x ev:Int):Value:=.agg ⟨[.int .i64 x,.int .i64 ev]⟩
def zfV (es:List Edg):List (Value × Int):=es.foldl (fun m e=>mset m (pk e.1 e.2.1) e.2.2) []
theorem zuB {a b:Int} {k:Value} (h:keyB (pk a b) k=true) (c d:Int):keyB (pk c d) k=(c==a && d==b):=by
 unfold keyB at h
 split at h
 ·rename_i heq;cases heq
 ·rename_i heq;cases heq
 ·rename_i heq
  simp only[Value.agg.injEq,Array.mk.injEq,List.cons.injEq,Value.int.injEq,and_true] at heq
  obtain⟨⟨_,rfl⟩,_,rfl⟩:=heq
  simp only[Bool.and_eq_true,beq_iff_eq] at h
  obtain⟨rfl,rfl⟩:=h
  rfl
 ·cases h
theorem zfh {α:Type} (a b:Int) (v:α) (c d:Int):∀ m:List (Value × α),zbK (mset m (pk a b) v) (pk c d)=if c=a∧d=b then some v else zbK m (pk c d)
 | []=>by
  simp only[mset,zbK]
  have:keyB (pk c d) (pk a b)=(c==a && d==b):=rfl
  rw[this]
  by_cases h:c=a∧d=b
  ·rw[if_pos h,h.1,h.2];simp
  ·rw[if_neg h]
   have:(c==a && d==b)=false:=by
    rw[Bool.eq_false_iff]
    intro e
    simp only[Bool.and_eq_true,beq_iff_eq] at e
    exact h e
   rw[this];rfl
 | (k,y)::r=>by
  simp only[mset]
  cases hk:keyB (pk a b) k with
  | true=>
   simp only[cond_true,zbK]
   rw[zuB hk,show keyB (pk c d) (pk a b)=(c==a && d==b) from rfl]
   by_cases h:c=a∧d=b
   ·rw[if_pos h,h.1,h.2];simp
   ·rw[if_neg h]
    have:(c==a && d==b)=false:=by
     rw[Bool.eq_false_iff]
     intro e
     simp only[Bool.and_eq_true,beq_iff_eq] at e
     exact h e
    rw[this];rfl
  | false=>
   simp only[cond_false,zbK]
   rw[zfh a b v c d r]
   by_cases h:c=a∧d=b
   ·rw[if_pos h,h.1,h.2,hk];simp
   ·rw[if_neg h,if_neg h]
theorem zi3 (x ev:Int):∀ (es:List Edg) (m:List (Value × Int)),es.Pairwise ltE→(∀ e∈es,0≤e.2.2) →
  zbK (es.foldl (fun m e=>mset m (pk e.1 e.2.1) e.2.2) m) (pk x ev)=if 0≤stp3 es x ev then some (stp3 es x ev) else zbK m (pk x ev)
 | [],m,_,_=>by
  have:stp3 [] x ev = -1:=by unfold stp3;rfl
  rw[this];rfl
 | e::r,m,hp,ht=>by
  rw[List.pairwise_cons] at hp
  rw[List.foldl_cons,zi3 x ev r _ hp.2 fun e he=>ht e (by simp[he]),zfh]
  have hs:stp3 (e::r) x ev=if e.1=x∧e.2.1=ev then e.2.2 else stp3 r x ev:=by rw[stp3]
  by_cases c:e.1=x∧e.2.1=ev
  ·have h1:¬ 0≤stp3 r x ev:=by
    intro h
    have:=hp.1 _ (zcl h)
    unfold ltE at this
    simp only at this
    omega
   rw[hs,if_pos c,if_neg h1,if_pos ⟨c.1.symm,c.2.symm⟩,if_pos (ht e (by simp))]
  ·have h1:(if x=e.1∧ev=e.2.1 then some e.2.2 else zbK m (pk x ev))=zbK m (pk x ev):=if_neg fun h=>c ⟨h.1.symm,h.2.symm⟩
   rw[hs,if_neg c,h1]
theorem zrH {es:List Edg} (hp:es.Pairwise ltE) (ht:∀ e∈es,0≤e.2.2) (x ev:Int):mhas (zfV es) (pk x ev)=decide (0≤stp3 es x ev)∧(0≤stp3 es x ev→zeO (zfV es) (pk x ev)=stp3 es x ev):=by
 have h:=zi3 x ev es [] hp ht
 unfold mhas zeO zfV
 rw[h]
 by_cases c:0≤stp3 es x ev
 ·rw[if_pos c,decide_eq_true c];exact⟨rfl,fun _=>rfl⟩
 ·rw[if_neg c,decide_eq_false c];exact⟨rfl,fun h=>absurd h c⟩
theorem zpT (a b:Int) (v:Int):∀ {m:List (Value × Int)},(∀ p∈m,KK.ok (.pair .i64) p.1=true)→∀ p∈mset m (pk a b) v,KK.ok (.pair .i64) p.1=true
 | [],_,p,hp=>by
  simp only[mset,List.mem_singleton] at hp
  subst hp;rfl
 | (k,y)::r,h,p,hp=>by
  simp only[mset] at hp
  cases hk:keyB (pk a b) k with
  | true=>
   rw[hk,cond_true] at hp
   rcases List.mem_cons.1 hp with rfl | hp
   ·rfl
   ·exact h p (by simp[hp])
  | false=>
   rw[hk,cond_false] at hp
   rcases List.mem_cons.1 hp with rfl | hp
   ·exact h _ (by simp)
   ·exact zpT a b v (fun q hq=>h q (by simp[hq])) p hp
theorem zrI (es:List Edg):∀ p∈zfV es,KK.ok (.pair .i64) p.1=true:=by
 have:∀ (es:List Edg) (m:List (Value × Int)),(∀ p∈m,KK.ok (.pair .i64) p.1=true)→∀ p∈es.foldl (fun m e=>mset m (pk e.1 e.2.1) e.2.2) m,KK.ok (.pair .i64) p.1=true:=by
  intro es
  induction es with
  | nil=>intro m h;exact h
  | cons e r ih=>intro m h;exact ih _ (zpT _ _ _ h)
 exact this es [] (by simp)
section
variable {σ:Type} [DecidableEq σ] {mkd:σ→Bool} {al:List Int} {P:σ→Prop} {step:σ→Int→σ × Bool × Int} {V:Unf σ}
def unfA {σ:Type} (al:List Int) (V:Unf σ):Aut:=⟨al,V.sts.length,V.mkl,V.eds⟩
theorem zoW {k:Nat} {s:σ} {x:Edg} (hx:x∈al.filterMap (eOf step V.sts k s)):x.1=(k:Int)∧x.2.1∈al∧(step s x.2.1).2.1=true∧x.2.2=(V.sts.findIdx (eqB (step s x.2.1).1):Nat):=by
 obtain⟨ev,he,hx⟩:=List.mem_filterMap.1 hx
 unfold eOf at hx
 by_cases c:(step s ev).2.1=true
 ·rw[if_pos c] at hx
  obtain rfl:=Option.some.inj hx
  exact⟨rfl,he,c,rfl⟩
 ·rw[if_neg c] at hx;cases hx
theorem zlV (hU:UAt mkd al P step V.sts.length V) (hal:al.Pairwise (· < ·)):V.eds.Pairwise ltE:=by
 rw[hU.eds]
 refine zh6 (fun i x hx=>?_) (fun i=>?_) _
 ·cases hs:V.sts[i]? with
  | none=>rw[hs] at hx;cases hx
  | some s=>rw[hs] at hx;exact (zoW hx).1
 ·cases hs:V.sts[i]? with
  | none=>exact .nil
  | some s=>
   refine List.Pairwise.filterMap _ (fun p q hpq x hx y hy=>?_) hal
   unfold eOf at hx hy
   by_cases cp:(step s p).2.1=true
   ·by_cases cq:(step s q).2.1=true
    ·rw[if_pos cp] at hx
     rw[if_pos cq] at hy
     obtain rfl:=Option.some.inj hx
     obtain rfl:=Option.some.inj hy
     exact hpq
    ·rw[if_neg cq] at hy;cases hy
   ·rw[if_neg cp] at hx;cases hx
theorem zfU (hU:UAt mkd al P step V.sts.length V) {x:Edg} (hx:x∈V.eds):∃ (k:Nat) (s:σ) (j:Nat),V.sts[k]? = some s∧x.1=(k:Int)∧x.2.1∈al∧(step s x.2.1).2.1=true∧x.2.2=(j:Int)∧V.sts[j]? = some (step s x.2.1).1:=by
 rw[hU.eds] at hx
 obtain⟨k,hk,he⟩:=List.mem_flatMap.1 hx
 cases hs:V.sts[k]? with
 | none=>rw[hs] at he;cases he
 | some s=>
  rw[hs] at he
  obtain⟨h2,h3,h4,h5⟩:=zoW he
  have hi:k<V.sts.length:=(List.getElem?_eq_some_iff.1 hs).1
  exact⟨k,s,_,hs,h2,h3,h4,h5,zqa ((hU.fine k s hi hs _ h3).2 h4)⟩
theorem zoV (hU:UAt mkd al P step V.sts.length V) (hal:al.Pairwise (· < ·)) {i:Nat} {s:σ} {ev:Int} (hs:V.sts[i]? = some s) (hev:ev∈al) :
  ((step s ev).2.1=false∧stp3 V.eds i ev = -1)∨((step s ev).2.1=true∧∃ j:Nat,stp3 V.eds i ev=(j:Int)∧V.sts[j]? = some (step s ev).1):=by
 have hi:i<V.sts.length:=(List.getElem?_eq_some_iff.1 hs).1
 cases c:(step s ev).2.1 with
 | false=>
  refine .inl ⟨rfl,zhY fun e he hc=>?_⟩
  obtain⟨k,t,j,h1,h2,h3,h4,_⟩:=zfU hU he
  have hki:k=i:=by have:=hc.1;omega
  subst hki
  rw[hs] at h1
  obtain rfl:=Option.some.inj h1
  rw[hc.2,c] at h4
  cases h4
 | true=>
  have hget:=zqa ((hU.fine i s hi hs ev hev).2 c)
  refine .inr ⟨rfl,_,?_,hget⟩
  have hmem:((i:Int),ev,((V.sts.findIdx (eqB (step s ev).1):Nat):Int))∈V.eds:=by
   rw[hU.eds]
   refine List.mem_flatMap.2 ⟨i,List.mem_range.2 hi,?_⟩
   rw[hs]
   refine List.mem_filterMap.2 ⟨ev,hev,?_⟩
   unfold eOf
   rw[if_pos c]
  exact zcs (zlV hU hal) hmem
theorem zrE (hU:UAt mkd al P step V.sts.length V) {N:Nat} (hN:al.length≤N):V.mkl.length≤V.sts.length∧V.eds.length≤N * V.sts.length:=by
 constructor
 ·rw[hU.mkl,List.length_map]
  exact Nat.le_trans (List.length_filter_le _ _) (by rw[List.length_range];omega)
 ·rw[hU.eds]
  refine Nat.le_trans (zgP (N:=N) fun k _=>?_) (by rw[List.length_range];exact Nat.le_refl _)
  split
  ·simp
  ·exact Nat.le_trans (List.length_filterMap_le _ _) hN
theorem ztZ (hU:UAt mkd al P step V.sts.length V) (hal:zal 32 al none=0) (hn:V.sts.length≤4096):gAut (unfA al V) V.sts.length:=by
 have hl:=zaZ (by decide) hal
 have hs:=zam hal
 obtain⟨l1,l2⟩:=zrE hU (N:=32) (by omega)
 have hlen:32 * V.sts.length≤32 * 4096:=Nat.mul_le_mul_left _ hn
 refine⟨rfl,⟨by show V.eds.length≤1000000;omega,by show al.length≤1000000;omega,by show V.mkl.length≤1000000;omega⟩,zgY hal ⟨by show (0:Int)≤(V.sts.length:Nat);omega,by show ((V.sts.length:Nat):Int)≤4096;omega⟩ ?_ ?_⟩
 ·refine zbi ?_ (fun x hx=>?_) (by simp)
  ·show V.mkl.Pairwise (· < ·)
   rw[hU.mkl,List.pairwise_map]
   have:(List.range V.sts.length).Pairwise (· < ·):=List.pairwise_lt_range
   exact (this.filter _).imp fun {a b} h=>by omega
  ·have hx:x∈V.mkl:=hx
   rw[hU.mkl] at hx
   obtain⟨k,hk,rfl⟩:=List.mem_map.1 hx
   have:=List.mem_range.1 (List.mem_filter.1 hk).1
   show 0≤(k:Int)∧(k:Int)<(V.sts.length:Nat)
   omega
 ·refine ze1 (zlV hU hs.1) (fun x hx=>?_) (by simp)
  obtain⟨k,s,j,h1,h2,h3,_,h5,h6⟩:=zfU hU hx
  have hk:=(List.getElem?_eq_some_iff.1 h1).1
  have hj:=(List.getElem?_eq_some_iff.1 h6).1
  show (0≤x.1∧x.1<(V.sts.length:Nat))∧(0≤x.2.2∧x.2.2<(V.sts.length:Nat))∧x.2.1∈al
  exact⟨by omega,by omega,h3⟩
end
def tupS:List Aut→List Int→Int→Option (List Int)
 | a::l,x::t,ev=>if ev∈a.alpha then (if 0≤stp3 a.edges x ev then (tupS l t ev).map (stp3 a.edges x ev :: ·) else none) else (tupS l t ev).map (x :: ·)
 | _,_,_=>some []
def zi4 (l:List Aut) (t:List Int) (ev:Int):List Int × Bool × Int:=((tupS l t ev).getD [],(tupS l t ev).isSome,0)
def tMk:List Aut→List Int→Bool
 | a::l,x::t=>decide (x∈a.marked) && tMk l t
 | _,_=>true
def evL (l:List Aut):List Int:=l.foldl (fun o a=>mrgR orK o a.alpha) []
def tup0 (l:List Aut):List Int:=l.map fun _=>0
def tOk:List Aut→List Int→Prop
 | [],[]=>True
 | a::l,x::t=>(0≤x∧x<a.states)∧tOk l t
 | _,_=>False
def zhV:List Aut→List (List Int)
 | []=>[[]]
 | a::l=>(List.range a.states.toNat).flatMap fun (x:Nat)=>(zhV l).map fun t=>(x:Int)::t
def zuj (l:List Aut):Except Int (Unf (List Int)):=unfR eqB true (zi4 l) (tMk l) (evL l) (tup0 l)
theorem zfW:∀ {l:List Aut} {t:List Int},tOk l t→t.length=l.length
 | [],[],_=>rfl
 | a::l,x::t,h=>by simp[zfW h.2]
 | [],_::_,h=>h.elim
 | _::_,[],h=>h.elim
theorem zlX:∀ {l:List Aut} {t:List Int},tOk l t→(∀ a∈l,a.states≤64)→∀ x∈t,0≤x∧x<64
 | [],[],_,_,x,hx=>by cases hx
 | a::l,y::t,h,hl,x,hx=>by
  rcases List.mem_cons.1 hx with rfl | hx
  ·have:=hl a (by simp);have:=h.1;omega
  ·exact zlX h.2 (fun b hb=>hl b (by simp[hb])) x hx
 | [],_::_,h,_,_,_=>h.elim
 | _::_,[],h,_,_,_=>h.elim
theorem zgs:∀ {l:List Aut} {t:List Int},tOk l t→t∈zhV l
 | [],[],_=>by simp[zhV]
 | a::l,x::t,h=>by
  simp only[zhV,List.mem_flatMap,List.mem_map]
  refine⟨x.toNat,List.mem_range.2 (by have:=h.1;omega),t,zgs h.2,?_⟩
  have:=h.1
  rw[show ((x.toNat:Nat):Int)=x by omega]
 | [],_::_,h=>h.elim
 | _::_,[],h=>h.elim
theorem zo0:∀ {l:List Aut},(∀ a∈l,0<a.states)→tOk l (tup0 l)
 | [],_=>trivial
 | a::l,h=>⟨⟨Int.le_refl _,h a (by simp)⟩,zo0 fun b hb=>h b (by simp[hb])⟩
theorem zhW:∀ {l:List Aut} {t:List Int} {ev:Int} {n:List Int},(∀ a∈l,chkA a=0)→tOk l t→tupS l t ev=some n→tOk l n
 | [],[],ev,n,_,_,e=>by simp only[tupS,Option.some.injEq] at e;subst e;trivial
 | a::l,x::t,ev,n,hc,h,e=>by
  simp only[tupS] at e
  by_cases c:ev∈a.alpha
  ·rw[if_pos c] at e
   by_cases c2:0≤stp3 a.edges x ev
   ·rw[if_pos c2] at e
    obtain⟨m,hm,rfl⟩:=Option.map_eq_some_iff.1 e
    exact⟨(zcz (hc a (by simp))).2.1 _ (zcl c2),zhW (fun b hb=>hc b (by simp[hb])) h.2 hm⟩
   ·rw[if_neg c2] at e;cases e
  ·rw[if_neg c] at e
   obtain⟨m,hm,rfl⟩:=Option.map_eq_some_iff.1 e
   exact⟨h.1,zhW (fun b hb=>hc b (by simp[hb])) h.2 hm⟩
 | [],_::_,_,_,_,h,_=>h.elim
 | _::_,[],_,_,_,h,_=>h.elim
theorem zse {l:List Aut} (hc:∀ a∈l,chkA a=0) (hV:(zhV l).length<4096):Fin1 (zi4 l) eqB true (tOk l):=
 ⟨fun s ev hs hp=>by
  show tOk l ((tupS l s ev).getD [])
  have hp:(tupS l s ev).isSome=true:=hp
  cases e:tupS l s ev with
  | none=>rw[e] at hp;cases hp
  | some n=>exact zhW hc hs e,fun _ _ _ _=>rfl,fun _ m h1 h2=>Nat.lt_of_le_of_lt (zbl h2 fun s hs=>zgs (h1 s hs)) hV⟩
theorem ztD:∀ (l:List Aut) (o:List Int),o.Pairwise (· < ·)→(∀ x∈o,0≤x∧x<32)→(∀ a∈l,chkA a=0) →
  (l.foldl (fun o a=>mrgR orK o a.alpha) o).Pairwise (· < ·)∧(∀ x∈l.foldl (fun o a=>mrgR orK o a.alpha) o,0≤x∧x<32)∧∀ x,x∈l.foldl (fun o a=>mrgR orK o a.alpha) o ↔ x∈o∨∃ a∈l,x∈a.alpha
 | [],o,h1,h2,_=>⟨h1,h2,by simp⟩
 | a::l,o,h1,h2,hc=>by
  have ha:=zam (zaA (hc a (by simp))).1
  have hm:=zpV h1 ha.1
  obtain⟨e1,e2,e3⟩:=ztD l (mrgR orK o a.alpha) (zbO orK _ o a.alpha (Nat.le_refl _) h1 ha.1).2.1 (fun x hx=>by
   rcases (hm x).1 hx with hx | hx
   ·exact h2 x hx
   ·exact ha.2.1 x hx) (fun b hb=>hc b (by simp[hb]))
  refine⟨e1,e2,fun x=>?_⟩
  rw[List.foldl_cons,e3,hm]
  simp only[List.mem_cons,exists_eq_or_imp,or_assoc]
theorem zuP {l:List Aut} (hc:∀ a∈l,chkA a=0):zal 32 (evL l) none=0:=
 have h:=ztD l [] .nil (by simp) hc
 zbi h.1 h.2.1 (by simp)
end Go.AI


namespace Go.AI
open Go.Proofs
set_option maxRecDepth 20000
abbrev autM (a:Aut):List I:=[zbE a.alpha,vi a.states,zbE a.marked,.sl 3 a.edges.length (a.edges.map edgI)]
abbrev auts (l:List Aut):D:=.i (.sl 4 l.length (l.map autM))
def ze2:List Aut→Int
 | []=>0
 | a::l=>if chkA a≠0 then chkA a else ze2 l
theorem zqX (O:List Heap) (l:List Aut) (hl:l.length≤12) (hs:∀ a∈l,smallA a):zan Tryz.prog 78 [auts l] O (ii (ze2 l)) [] O:=by
 obtain⟨R,hR⟩:∃ R,R=ze2 (l.drop 0):=⟨_,rfl⟩
 have e0:ze2 l=R:=hR.symm
 rw[e0]
 refine zau [] Tk Tryz.func78 rfl Tryz.call78 Tryz.ntmps78 (Nat.le_of_ble_eq_true rfl) fun E=>?_
 refine zae Tk Tryz.func78 ?_
 refine zai Tk Tryz.func78 rfl (fun h=>absurd h (by simp;omega)) (fun _=>?_)
 refine zac ?_
 refine zah (fun i:Nat=>[(9,auts l),(10,ii l.length),(11,ii i)]) (fun _=>[]) (fun _=>O) 21
  (fun i=>i≤l.length∧R=ze2 (l.drop i)) (fun i=>l.length - i) 0 ⟨Nat.zero_le _,hR⟩ ⟨rfl,rfl,rfl,trivial⟩ rfl trivial rfl rfl ?_
 clear hR e0
 rintro i ⟨hi,hno⟩ ih
 refine zae Tk Tryz.func78 ?_
 refine zai Tk Tryz.func78 rfl (fun g1=>?_) (fun g1=>?_)
 ·have h2:i<l.length:=by simpa using g1
  have gl:(l.map autM)[(i:Int).toNat]? = some (autM l[i]):=zaj h2
  have dl:l.drop i=l[i]::l.drop (i+1):=List.drop_eq_getElem_cons h2
  have ha:=hs _ (List.getElem_mem h2)
  rw[dl] at hno
  simp only[ze2] at hno
  clear dl
  generalize l[i]=a at *
  have h1:=fun O=>ze3 O a (by have:=ha.ed;simp only[zas];omega) (by have:=ha.al;simp only[zas];omega) (by have:=ha.mkd;simp only[zas];omega)
  obtain⟨al,st,mk,es⟩:=a
  generalize chkA ⟨al,st,mk,es⟩=c0 at *
  refine zag Tk Tryz.func78 (by exact⟨by omega,by show (i:Int)<(l.length:Int);omega⟩) ?_
  refine zap Tk Tryz.func78 (gl) ?_
  refine zaf Tk Tryz.func78 (h1 _) rfl rfl rfl rfl rfl ?_
  refine zai Tk Tryz.func78 rfl (fun c1=>?_) (fun c1=>?_)
  ·have c1:c0≠0:=bneT c1
   rw[if_pos c1] at hno
   subst hno
   refine zak Tk (r:=ii R) rfl rfl rfl trivial rfl rfl ?_
   rfl
  ·have c1:c0=0:=bneF c1
   rw[if_neg (fun h=>h c1)] at hno
   refine zac ?_
   exact ih (i+1) _ _ ⟨h2,hno⟩ (by omega) ⟨rfl,rfl,congrArg ii (zaC (n:=4096) (by omega) (by decide)),trivial⟩ rfl trivial rfl rfl
 ·have h2:l.length≤i:=by simpa using g1
  rw[List.drop_eq_nil_of_le h2] at hno
  simp only[ze2] at hno
  subst hno
  refine zak Tk (r:=ii 0) rfl rfl rfl trivial rfl rfl ?_
  rfl
theorem zfo {l:List Aut} {i:Nat} (h:i<l.length):(l.map autM)[(i:Int).toNat]? = some (autM l[i]):=zaj h
theorem zqG (O:List Heap) (l:List Aut) (hl:l.length≤12) (hc:∀ a∈l,chkA a=0):zan Tryz.prog 132 [auts l] O (ints (evL l)) [] O:=by
 obtain⟨R,hR⟩:∃ R,R=(l.drop 0).foldl (fun o a=>mrgR orK o a.alpha) []:=⟨_,rfl⟩
 have e0:evL l=R:=hR.symm
 rw[e0]
 refine zau [] Tk Tryz.func132 rfl Tryz.call132 Tryz.ntmps132 (Nat.le_of_ble_eq_true rfl) fun E=>?_
 refine zae Tk Tryz.func132 ?_
 refine zac ?_
 refine zaq (zcg 3 99 3 1 rfl rfl rfl) ?_
 refine zaq (zao 99 rfl rfl) ?_
 refine zah (fun x:Nat × List Int=>[(3,ints x.2),(6,auts l),(7,ii l.length),(8,ii x.1)]) (fun _=>[]) (fun _=>O) 18
  (fun x=>x.1≤l.length∧x.2.Pairwise (· < ·)∧x.2.length≤32 * x.1∧R=(l.drop x.1).foldl (fun o a=>mrgR orK o a.alpha) x.2) (fun x=>l.length - x.1) (0,[]) ⟨Nat.zero_le _,.nil,Nat.le_refl _,hR⟩ ⟨rfl,rfl,rfl,rfl,trivial⟩ rfl trivial rfl rfl ?_
 clear hR e0
 rintro ⟨i,o⟩ ⟨hi,hp,hol,hno⟩ ih
 simp only at hi hp hol hno
 refine zae Tk Tryz.func132 ?_
 refine zai Tk Tryz.func132 rfl (fun g1=>?_) (fun g1=>?_)
 ·have h2:i<l.length:=by simpa using g1
  have gl:=zfo h2
  have dl:l.drop i=l[i]::l.drop (i+1):=List.drop_eq_getElem_cons h2
  have ha:=hc _ (List.getElem_mem h2)
  rw[dl,List.foldl_cons] at hno
  clear dl
  generalize l[i]=a at *
  obtain⟨c1,_⟩:=zaA ha
  have hal:=zaZ (by decide) c1
  have hms:=zbO orK _ o a.alpha (Nat.le_refl _) hp (zam c1).1
  have h1:=fun O=>zrC O o a.alpha (by omega) (by omega)
  generalize mrgR orK o a.alpha=o2 at *
  obtain⟨al,st,mk,es⟩:=a
  refine zag Tk Tryz.func132 (by exact⟨by omega,by show (i:Int)<(l.length:Int);omega⟩) ?_
  refine zap Tk Tryz.func132 (gl) ?_
  refine zaf Tk Tryz.func132 (h1 _) rfl rfl rfl rfl rfl ?_
  refine zac ?_
  exact ih (i+1,o2) _ _ ⟨h2,hms.2.1,by have:=hms.2.2;simp only at this ⊢;omega,hno⟩ (by simp only;omega) ⟨rfl,rfl,rfl,congrArg ii (zaC (n:=4096) (by omega) (by decide)),trivial⟩ rfl trivial rfl rfl
 ·have h2:l.length≤i:=by simpa using g1
  rw[List.drop_eq_nil_of_le h2,List.foldl_nil] at hno
  subst hno
  refine zak Tk (r:=ints R) rfl rfl rfl trivial rfl rfl ?_
  rfl
abbrev zn0 (l:List Aut) (ev:List Int) (M:List (List I)):D:=.agg [auts l,ints ev,.i (.sl 1 M.length M)]
theorem zn4 (O:List Heap) (l:List Aut) (ev:List Int) (M:List (List I)) (hl:l.length≤12) (h0:¬ ∀ a∈l,a.states≠0):zan Tryz.prog 80 [zn0 l ev M] O (.tup [.i (.v (.slice none 0 0)),bb false]) [] O:=by
 have h0:¬ ∀ a∈l.drop 0,a.states≠0:=h0
 refine zau [] Tk Tryz.func80 rfl Tryz.call80 Tryz.ntmps80 (Nat.le_of_ble_eq_true rfl) fun E=>?_
 refine zae Tk Tryz.func80 ?_
 refine zac ?_
 refine zah (fun i:Nat=>[(7,auts l),(8,ii l.length),(9,ii i)]) (fun _=>[]) (fun _=>O) 21
  (fun i=>i≤l.length∧¬ ∀ a∈l.drop i,a.states≠0) (fun i=>l.length - i) 0 ⟨Nat.zero_le _,h0⟩ ⟨rfl,rfl,rfl,trivial⟩ rfl trivial rfl rfl ?_
 clear h0
 rintro i ⟨hi,hno⟩ ih
 refine zae Tk Tryz.func80 ?_
 refine zai Tk Tryz.func80 rfl (fun g1=>?_) (fun g1=>?_)
 ·have h2:i<l.length:=by simpa using g1
  have gl:=zfo h2
  have dl:l.drop i=l[i]::l.drop (i+1):=List.drop_eq_getElem_cons h2
  rw[dl] at hno
  clear dl
  generalize l[i]=a at *
  obtain⟨al,st,mk,es⟩:=a
  refine zag Tk Tryz.func80 (by exact⟨by omega,by show (i:Int)<(l.length:Int);omega⟩) ?_
  refine zap Tk Tryz.func80 (gl) ?_
  refine zai Tk Tryz.func80 rfl (fun c1=>?_) (fun c1=>?_)
  ·refine zak Tk (r:=.tup [.i (.v (.slice none 0 0)),bb false]) rfl rfl rfl trivial rfl rfl ?_
   rfl
  ·have c1:st≠0:=beqF c1
   refine zac ?_
   refine ih (i+1) _ _ ⟨h2,fun h=>hno fun a ha=>?_⟩ (by omega) ⟨rfl,rfl,congrArg ii (zaC (n:=4096) (by omega) (by decide)),trivial⟩ rfl trivial rfl rfl
   rcases List.mem_cons.1 ha with rfl | ha
   ·exact c1
   ·exact h a ha
 ·have h2:l.length≤i:=by simpa using g1
  rw[List.drop_eq_nil_of_le h2] at hno
  exact absurd (by simp) hno
theorem zp8 (O:List Heap) (l:List Aut) (ev:List Int) (M:List (List I)) (hl:l.length≤12) (h0:∀ a∈l,a.states≠0):zan Tryz.prog 80 [zn0 l ev M] O (.tup [ints (tup0 l),bb true]) [] O:=by
 refine zau [7] Tk Tryz.func80 rfl Tryz.call80 Tryz.ntmps80 (Nat.le_of_ble_eq_true rfl) fun E=>?_
 refine zae Tk Tryz.func80 ?_
 refine zac ?_
 refine zah (fun i:Nat=>[(1,.own 0 1 0 0),(7,auts l),(8,ii l.length),(9,ii i)]) (fun _=>[(1,.box [auts l,ints ev,.i (.sl 1 M.length M)])]) (fun _=>O) 21
  (fun i=>i≤l.length) (fun i=>l.length - i) 0 (Nat.zero_le _) ⟨rfl,rfl,rfl,rfl,trivial⟩ rfl ⟨rfl,trivial⟩ rfl rfl ?_
 rintro i hi ih
 refine zae Tk Tryz.func80 ?_
 refine zai Tk Tryz.func80 rfl (fun g1=>?_) (fun g1=>?_)
 ·have h2:i<l.length:=by simpa using g1
  have gl:=zfo h2
  have ha:=h0 _ (List.getElem_mem h2)
  generalize l[i]=a at *
  obtain⟨al,st,mk,es⟩:=a
  refine zag Tk Tryz.func80 (by exact⟨by omega,by show (i:Int)<(l.length:Int);omega⟩) ?_
  refine zap Tk Tryz.func80 (gl) ?_
  refine zai Tk Tryz.func80 rfl (fun c1=>?_) (fun c1=>?_)
  ·exact absurd (beqT c1) ha
  ·refine zac ?_
   exact ih (i+1) _ _ h2 (by omega) ⟨rfl,rfl,rfl,congrArg ii (zaC (n:=4096) (by omega) (by decide)),trivial⟩ rfl ⟨rfl,trivial⟩ rfl rfl
 ·refine zay ?_
  refine zae Tk Tryz.func80 ?_
  refine g_go Tk Tryz.func80 ?_
  refine zag Tk Tryz.func80 (by exact⟨by omega,by omega,by show ((l.length:Nat):Int) * ((8:Nat):Int)≤140737488355328;omega,by omega⟩) ?_
  refine zcG (zao 20 rfl rfl) ?_
  refine zak Tk (r:=.tup [.i (.sl 1 ((l.length:Nat):Int).toNat (List.replicate ((l.length:Nat):Int).toNat [vi 0])),bb true]) rfl rfl rfl trivial rfl rfl ?_
  have e1:(tup0 l).length=l.length:=by simp[tup0]
  have e2:(tup0 l).map (fun x=>[vi x])=List.replicate l.length [vi 0]:=by
   unfold tup0
   rw[List.map_map]
   exact List.map_const' ..
  show D.tup [.i (.sl 1 _ _),_] = .tup [.i (.sl 1 (tup0 l).length ((tup0 l).map fun x=>[vi x])),_]
  rw[e1,e2,Int.toNat_natCast]
theorem zsp (O:List Heap) (l:List Aut) (ev:List Int) (M:List (List I)) (t:List Int) (hl:l.length≤12) (ht:t.length=l.length) (hc:∀ a∈l,chkA a=0) (hs:∀ a∈l,smallA a):zan Tryz.prog 82 [zn0 l ev M,ints t] O (bb (tMk l t)) [] O:=by
 obtain⟨R,hR⟩:∃ R,R=tMk (l.drop 0) (t.drop 0):=⟨_,rfl⟩
 have e0:tMk l t=R:=hR.symm
 rw[e0]
 refine zau [] Tk Tryz.func82 rfl Tryz.call82 Tryz.ntmps82 (Nat.le_of_ble_eq_true rfl) fun E=>?_
 refine zae Tk Tryz.func82 ?_
 refine zac ?_
 refine zah (fun i:Nat=>[(1,ints t),(8,auts l),(9,ii l.length),(10,ii i)]) (fun _=>[]) (fun _=>O) 24
  (fun i=>i≤l.length∧R=tMk (l.drop i) (t.drop i)) (fun i=>l.length - i) 0 ⟨Nat.zero_le _,hR⟩ ⟨rfl,rfl,rfl,rfl,trivial⟩ rfl trivial rfl rfl ?_
 clear hR e0
 rintro i ⟨hi,hno⟩ ih
 refine zae Tk Tryz.func82 ?_
 refine zai Tk Tryz.func82 rfl (fun g1=>?_) (fun g1=>?_)
 ·have h2:i<l.length:=by simpa using g1
  have h3:i<t.length:=by omega
  have gl:=zfo h2
  have gt:(t.map fun x=>[vi x])[(i:Int).toNat]? = some [vi t[i]]:=zaj (f:=fun x=>[vi x]) h3
  have dl:l.drop i=l[i]::l.drop (i+1):=List.drop_eq_getElem_cons h2
  have dt:t.drop i=t[i]::t.drop (i+1):=List.drop_eq_getElem_cons h3
  have ha:=hc _ (List.getElem_mem h2)
  have ha2:=hs _ (List.getElem_mem h2)
  rw[dl,dt] at hno
  simp only[tMk] at hno
  clear dl dt
  generalize l[i]=a at *
  generalize t[i]=x at *
  obtain⟨_,_,c3,_⟩:=zaA ha
  have hsm:=ha2.mkd
  have h1:=fun O=>zda O a.marked x (by simp only[zas];omega) (zam c3).1
  obtain⟨al,st,mk,es⟩:=a
  generalize decide (x∈Aut.marked ⟨al,st,mk,es⟩)=b at *
  refine zag Tk Tryz.func82 (by exact⟨by omega,by show (i:Int)<(l.length:Int);omega⟩) ?_
  refine zap Tk Tryz.func82 (gl) ?_
  refine zaF Tk Tryz.func82 zaM rfl ?_
  refine zaz Tk (by exact⟨by omega,by show (i:Int)<(t.length:Int);omega⟩) ?_
  refine zaK Tk (gt) ?_
  refine zaU Tk (fun _=>h1 _) rfl rfl rfl ?_
  refine zaQ Tk Tryz.func82 (by kernel_rfl) ?_
  refine zai Tk Tryz.func82 rfl (fun c1=>?_) (fun c1=>?_)
  ·have c1:b=false:=notT c1
   subst c1
   rw[Bool.false_and] at hno
   subst hno
   refine zak Tk (r:=bb false) rfl rfl rfl trivial rfl rfl ?_
   rfl
  ·have c1:b=true:=notF c1
   subst c1
   rw[Bool.true_and] at hno
   refine zac ?_
   exact ih (i+1) _ _ ⟨h2,hno⟩ (by omega) ⟨rfl,rfl,rfl,congrArg ii (zaC (n:=4096) (by omega) (by decide)),trivial⟩ rfl trivial rfl rfl
 ·have h2:l.length≤i:=by simpa using g1
  rw[List.drop_eq_nil_of_le h2] at hno
  simp only[tMk] at hno
  subst hno
  refine zak Tk (r:=bb true) rfl rfl rfl trivial rfl rfl ?_
  rfl
end Go.AI


namespace Go.AI
open Go.Proofs
def zu8 (ts:List (Nat × Obj)) (O:List Heap) (ρ:Nat→Nat→Loc) (w:World):Prop:=∀ p∈ts,TabQ p.1 p.2 O ρ w
def TabsE (ts:List (Nat × Obj)) (E:Env) (O:List Heap):Prop:=∀ p∈ts,TabE p.1 p.2 E O
theorem Base.trans {E0 E E':Env} {O:List Heap} (h:Base E0 E O) (h':Base E E' O):Base E0 E' O:=by
 refine⟨Kn.le_trans h.K h'.K,fun d=>(h'.ρ d).trans (h.ρ d),fun b hp=>h'.pr b (h.pr b hp),fun b o x e=>?_,Nat.le_trans h.size h'.size,fun b hp ho=>?_,⟨h'.rest.1.trans h.rest.1,h'.rest.2.1.trans h.rest.2.1,h'.rest.2.2.trans h.rest.2.2⟩⟩
 ·rcases h'.new b o x e with h1 | h1
  ·exact h.new b o x h1
  ·exact .inr fun hp=>h1 (h.pr b hp)
 ·rw[h'.old b (h.pr b hp) fun dep nm ob e hb=>?_]
  ·exact h.old b hp ho
  ·have e2:E.ρ0 dep=E0.ρ0 dep:=h.ρ dep
   rw[e2] at hb ⊢
   exact ho dep nm ob e hb
theorem TabsE.base {ts:List (Nat × Obj)} {E E':Env} {O:List Heap} (h:TabsE ts E O) (hb:Base E E' O):TabsE ts E' O:=fun p hp=>hb.eok.tb p.1 p.2 O rfl (h p hp)
def znw (ts:List (Nat × Obj)) (P:Program) (f:FuncId) (args:List D) (O:List Heap) (res:D) (Hr:Heap) (O':List Heap):Prop:=
 ∀ E K ρ w vs,HInv E K ρ O w→zu8 ts O ρ w→RepDL K ρ (shape O) vs args →
  Exec P f vs.toArray w fun v w'=>∃ K' ρ',HInv (.of K ρ w) K' ρ' (Hr::O') w' ∧ RepD K' ρ' (shape (Hr::O')) v res
def zu9 {α:Type} (ts:List (Nat × Obj)) (P:Program) (f:FuncId) (args:List D) (O:List Heap) (Q:α→Prop) (res:α→D) (tabs:α→List (Nat × Obj)):Prop:=
 ∀ E K ρ w vs,HInv E K ρ O w→zu8 ts O ρ w→RepDL K ρ (shape O) vs args →
  Exec P f vs.toArray w fun v w'=>∃ x,Q x∧(∃ K' ρ',HInv (.of K ρ w) K' ρ' ([]::O) w' ∧ RepD K' ρ' (shape ([]::O)) v (res x))∧∀ p∈tabs x,w.heap.size≤p.1∧w'.heap[p.1]? = some p.2
def zv7 {α:Type} (E0:Env) (Q:α→Prop) (res:α→D) (tabs:α→List (Nat × Obj)) (O:List Heap):Value→World→Prop:=fun v w'=>∃ x,Q x∧zck E0 (res x) [] O v w' ∧ ∀ p∈tabs x,¬ E0.pr p.1∧w'.heap[p.1]? = some p.2
section
variable {P:Program} {T:TT} {f:FuncId} {fn:Func} {code:Code}
theorem zjO {args:List D} {O:List Heap} {K:Kn} {ρ ρ1:Nat→Nat→Loc} {w:World} {vs:List Value} {n m:Nat} (hI:HInv (.of K ρ w) K ρ1 ([]::O) w) (hρ1:∀ d,ρ1 (d+1)=ρ d) (hrep:RepDL K ρ (shape O) vs args) (hn:m=n) (hlen:args.length≤n) :
  Inv (.of K ρ w) K ρ1 { σ:=argσ 0 (D.shifts 1 args),S:=[]::O,n:=n } { tmps:=vs.toArray++Array.replicate (m - vs.toArray.size) undef,defers:=[] } w:=by
 have hvl:=hrep.length
 refine⟨hI,rfl,by simp;omega,fun t d e=>?_⟩
 rw[zdG] at e
 simp only[Nat.zero_le,if_true,Nat.sub_zero] at e
 have hsh:RepDL K ρ1 (shape ([]::O)) vs (D.shifts 1 args):=by
  refine RepDL.shift (ρ:=ρ1) (sh:=shape ([]::O)) 1 ?_
  have e1:(fun d n=>ρ1 (1+d) n)=ρ:=by funext d n;rw[Nat.add_comm,hρ1]
  have e2:(fun d n=>shape ([]::O) (1+d) n)=shape O:=by
   funext d n
   rw[Nat.add_comm]
   simp[shape,zaa]
  rw[e1,e2]
  exact hrep
 obtain⟨y,hy,hr⟩:=hsh.get e
 have:(vs.toArray++Array.replicate (m - vs.toArray.size) undef).getD t undef=y:=by
  have hlt:t<vs.length:=(List.getElem?_eq_some_iff.1 hy).1
  simp only[Array.getD_eq_getD_getElem?]
  rw[Array.getElem?_append_left (by simpa using hlt)]
  simp[hy]
 rw[this]
 exact hr
theorem zhj {ts:List (Nat × Obj)} {O:List Heap} {K:Kn} {ρ:Nat→Nat→Loc} {w:World} (h:zu8 ts O ρ w):TabsE ts (.of K ρ w) O:=fun p hp=>⟨h p hp,(Array.getElem?_eq_some_iff.1 (h p hp).1).1⟩
theorem zk7 {ts:List (Nat × Obj)} (stop:List Nat) (hT:TOk P T) (hf:P.funcs[f]? = some fn) (hb:fn.body=some code) (hcall:∀ args w,(callFunc f args).run P w = .ok (.enter f args) w) {args:List D} {O O':List Heap} {res:D} {Hr:Heap} {n:Nat}
  (hn:fn.ntmps=n) (hlen:args.length≤n)
  (h:∀ E,TabsE ts E O→Rch { P:=P,T:=T,E:=E,f:=f,fn:=fn,post:=zck E res Hr O',stop:=stop } [.code code] { σ:=argσ 0 (D.shifts 1 args),S:=[]::O,n:=n }):znw ts P f args O res Hr O':=by
 intro E K ρ w vs hw htab hrep
 refine .inl ⟨hcall _ _,fun cs=>?_⟩
 obtain⟨ρ1,hρ1,hI⟩:=zcq hw
 let b:Frame:={ (default:Frame) with fn:=f,kind:=.normal }
 have henter:Frame.enter P f vs.toArray .normal=b.at { tmps:=vs.toArray++Array.replicate (fn.ntmps - vs.toArray.size) undef,defers:=[] } [.code code]:=by
  simp[Frame.enter,Frame.at,hf,hb,b]
 obtain⟨v,w',fr,hp,hst,hfr,hlv⟩:=h (.of K ρ w) (zhj htab) K ρ1 _ w b cs (zjO hI hρ1 hrep hn hlen) rfl rfl
 rw[← henter] at hst
 exact⟨.returned v,w',fr,⟨v,rfl,hp⟩,hst,hfr,hlv⟩
theorem zn5 {α:Type} (Q:α→Prop) (res:α→D) (tabs:α→List (Nat × Obj)) {ts:List (Nat × Obj)} (stop:List Nat) (hT:TOk P T) (hf:P.funcs[f]? = some fn) (hb:fn.body=some code) (hcall:∀ args w,(callFunc f args).run P w = .ok (.enter f args) w) {args:List D} {O:List Heap} {n:Nat}
  (hn:fn.ntmps=n) (hlen:args.length≤n)
  (h:∀ E,TabsE ts E O→Rch { P:=P,T:=T,E:=E,f:=f,fn:=fn,post:=zv7 E Q res tabs O,stop:=stop } [.code code] { σ:=argσ 0 (D.shifts 1 args),S:=[]::O,n:=n }):zu9 ts P f args O Q res tabs:=by
 intro E K ρ w vs hw htab hrep
 refine .inl ⟨hcall _ _,fun cs=>?_⟩
 obtain⟨ρ1,hρ1,hI⟩:=zcq hw
 let b:Frame:={ (default:Frame) with fn:=f,kind:=.normal }
 have henter:Frame.enter P f vs.toArray .normal=b.at { tmps:=vs.toArray++Array.replicate (fn.ntmps - vs.toArray.size) undef,defers:=[] } [.code code]:=by
  simp[Frame.enter,Frame.at,hf,hb,b]
 obtain⟨v,w',fr,⟨x,hx,hp,ht⟩,hst,hfr,hlv⟩:=h (.of K ρ w) (zhj htab) K ρ1 _ w b cs (zjO hI hρ1 hrep hn hlen) rfl rfl
 rw[← henter] at hst
 exact⟨.returned v,w',fr,⟨v,rfl,x,hx,hp,fun p hp=>⟨Nat.le_of_not_lt (ht p hp).1,(ht p hp).2⟩⟩,hst,hfr,hlv⟩
end
section
variable {c:Cx} {s:St} {k:List Item} {ops:Array Oper} {rest:List Nat} {o:Oper}
theorem zqk (hT:TOk c.P c.T) (hfn:c.P.funcs[c.f]? = some c.fn) {α:Type} {Q:α→Prop} {res:α→D} {tabs:α→List (Nat × Obj)} {ts:List (Nat × Obj)} {O0:List Heap} (htab:TabsE ts c.E O0) {i t:Nat} {f:FuncId} {args:List D} {H:Heap} {O:List Heap} (hS:s.S=H::O) (hO:shape O=shape O0)
  (ho:ops[i]? = some o) (hg:o.guard=none) (hd:o.dst=some t) (hn:Nat.ble (t+1) s.n=true) (hex:exec c.T s o = .call f args) (hspec:zu9 ts c.P f (D.imms H args) (H::O) Q res tabs)
  (h:∀ x E3,Q x→Base c.E E3 O→TabsE (tabs x) E3 O→(∀ p∈tabs x,¬ c.E.pr p.1)→GM { c with E:=E3 } (run c.T c.stop 1000 (.inRegion ops rest::k) (znB s t (res x).down (H::O)))):GM c (.pause ops i rest o s k):=by
 refine⟨?_⟩
 intro K ρ a w hi
 simp only[wpOps,ho,za9 hi (show zaw ops s o=some true by unfold zaw;rw[hg]),if_true]
 have hsnd:=zfO hT hi.h (.inl hd) fun x _=>hi.ev x
 rw[hex] at hsnd
 obtain⟨vs,hrun,hrep⟩:=hsnd
 have hh:=hi.h
 have hrep':=RepDL.imm hh hrep
 rw[hS] at hh hrep'
 refine .inl ?_
 have fin:∀ v w',(∃ x,Q x∧(∃ K' ρ',HInv (.of K ρ w) K' ρ' ([]::H::O) w' ∧ RepD K' ρ' (shape ([]::H::O)) v (res x))∧∀ p∈tabs x,w.heap.size≤p.1∧w'.heap[p.1]? = some p.2)→wpOps c.P ops (fun e a' w'=>e = .normal∧Ends c k a' w') rest (a.put o.dst v) w':=by
  intro v w' ⟨x,hx,⟨K',ρ',h1,h2⟩,h3⟩
  obtain⟨ρ'',hI,hst,hdn⟩:=hh.back h1 rfl (fun nm h=>by simp[look] at h)
  have e0:(zcb []++H)::O=H::O:=rfl
  rw[e0] at hI hst hdn
  have hlt:∀ b,(∃ p∈tabs x,p.1=b)→b<w'.heap.size:=by
   rintro b ⟨p,hp,rfl⟩
   exact (Array.getElem?_eq_some_iff.1 (h3 p hp).2).1
  have hblk:∀ d nm ob,zaa (H::O) d nm=some ob→zar (ρ'' d nm) ob→(ρ'' d nm).block<w.heap.size:=by
   intro d nm ob e hbk
   have el:ρ'' d nm=ρ d nm:=hst.loc d nm ob.sh (by simp[shape,e])
   rw[el] at hbk ⊢
   have:=hh.own d nm ob e
   exact this.lt (by simpa using hbk)
  have hfree:∀ nm ob b,(∃ p∈tabs x,p.1=b)→zaa (H::O) 0 nm=some ob→zar (ρ'' 0 nm) ob→(ρ'' 0 nm).block≠b:=by
   rintro nm ob b ⟨p,hp,rfl⟩ e hbk he
   have:=hblk 0 nm ob e hbk
   have:=(h3 p hp).1
   omega
  have hR:=hI.rebase hlt hfree
  have hB:=zq2 hI (Base.refl c.E O) hlt
  have hTb:TabsE (tabs x) (reE c.E K' w' (fun b=>∃ p∈tabs x,p.1=b) hlt hI.size) O:=by
   intro p hp
   refine⟨⟨(h3 p hp).2,fun d nm sh e hbk he=>?_⟩,.inr ⟨p,hp,rfl⟩⟩
   have ho2:ρ'' (d+1)=c.E.ρ0 d:=hI.outer d
   have hρ:(reE c.E K' w' (fun b=>∃ p∈tabs x,p.1=b) hlt hI.size).ρ0 d nm=ρ'' (d+1) nm:=by rw[ho2];rfl
   rw[hρ] at hbk he
   unfold shape at e
   cases hob:zaa O d nm with
   | none=>simp[hob] at e
   | some ob=>
    simp only[hob,Option.map_some,Option.some.injEq] at e
    subst e
    have:=hblk (d+1) nm ob (by simpa [zaa] using hob) (zfx.2 hbk)
    have:=(h3 p hp).1
    omega
  have hnp:∀ p∈tabs x,¬ c.E.pr p.1:=fun p hp hpr=>by
   have:=c.E.lt _ hpr
   have:=hh.size
   have:=(h3 p hp).1
   omega
  have hG:=(h x _ hx hB hTb hnp).h
  have hk:=zaH (c:={ c with E:=reE c.E K' w' (fun b=>∃ p∈tabs x,p.1=b) hlt hI.size }) hT hfn 1000 (.inRegion ops rest::k) _ hG
  rw[zfJ] at hk
  refine hk K' ρ'' _ w' ?_
  rw[hd]
  refine⟨hR,by simp[Act.put];exact hi.defers,by simp[Act.put];exact hi.size,fun t' d' e'=>?_⟩
  rw[zbp (by rw[hi.size];exact Nat.le_of_ble_eq_true hn)]
  simp only[zab] at e'
  split at e'
  ·rename_i e2
   simp only[Option.some.injEq] at e'
   subst e'
   rw[if_pos e2]
   exact h2.down hdn
  ·rename_i e2
   rw[if_neg e2]
   have h4:=hi.slots _ _ e'
   rw[hS] at h4
   exact h4.stays hst
 rcases hspec c.E K ρ w vs hh (fun p hp=>ze7 (htab p hp) hO hh) hrep' with ⟨h1,h2⟩ | ⟨v,w',h1,h2⟩
 ·rw[h1] at hrun
  simp only[Oper.wp,hrun,Oper.upon]
  refine h2.mono ?_
  rintro e w' ⟨v,rfl,hR⟩
  exact fin v w' hR
 ·rw[h1] at hrun
  simp only[Oper.wp,hrun,Oper.upon]
  exact fin v w' h2
theorem zvO (hT:TOk c.P c.T) {α:Type} {Q:α→Prop} {res:α→D} {tabs:α→List (Nat × Obj)} {E0:Env} {d r:D} {H:Heap} {O:List Heap} (x:α) (hx:Q x) (hb:Base E0 c.E O) (hp:c.post=zv7 E0 Q res tabs O) (htab:TabsE (tabs x) c.E O) (hnp:∀ p∈tabs x,¬ E0.pr p.1)
  (hd:resD c.T s c.fn.results.toList=some d) (hS:s.S=H::O) (hr:d.ret H []=r) (he:CoD r (res x)):GM c (.ret s):=by
 refine⟨?_⟩
 have h:=ziq (c:={ c with post:=zck c.E (res x) [] O }) (Hr:=[]) (hT:=hT) rfl hd hS trivial hr rfl he
 intro K ρ a w hi
 obtain⟨v,hv,K',ρ',h1,h2⟩:=h K ρ a w hi
 refine⟨v,hv,?_⟩
 rw[hp]
 have hh:=hi.h
 rw[hS] at hh
 exact⟨x,hx,⟨K',ρ',h1.unbase hb,h2⟩,fun p hp=>⟨hnp p hp,(ze7 (htab p hp) rfl hh).1⟩⟩
end
section
variable {c:Cx} {s:St} {k:List Item} {ops:Array Oper} {rest:List Nat} {o:Oper} {H:Heap} {O:List Heap}
def zlR (ob:Obj) (m:MC):Prop:=∃ es ck,ob = .map es ck∧es.toList.map (fun e=>(e.key,e.val))=m.vals
theorem zsB {K:Kn} {ρ:Nat→Nat→Loc} {a:Act} {w:World} {E:Env} {nm t:Nat} {kk:KK} {m:MC} (hi:Inv E K ρ s a w) (hS:s.S=H::O) (ho:look H nm=some (.mp kk m)) (ht:look s.σ t=some (.osl 0 nm)) :
  ∃ E' b ob,Base E E' O∧TabE b ob E' O∧¬ E.pr b∧zlR ob m∧Inv E' K ρ { σ:=(t,.i (.v (.map (some b))))::zdH nm s.σ,S:=zaS nm H::O,n:=s.n } a w:=by
 have hh:=hi.h
 rw[hS] at hh
 have ho':zaa (H::O) 0 nm=some (.mp kk m):=by simpa [zaa] using ho
 have h0:=hh.own 0 nm _ ho'
 have hD:=hh.dropNm nm
 have hbk:zar (ρ 0 nm) (.mp kk m):=trivial
 obtain⟨⟨es,ck,h1,h2,h3⟩,h4⟩:=id h0
 have hlt:∀ b,b=(ρ 0 nm).block→b<w.heap.size:=by rintro b rfl;exact h0.lt hbk
 have hfree:∀ nm' ob b,b=(ρ 0 nm).block→zaa (zaS nm H::O) 0 nm' = some ob→zar (ρ 0 nm') ob→(ρ 0 nm').block≠b:=by
  rintro nm' ob b rfl e hb he
  obtain⟨o0,a1,a2,a3,_⟩:=zcw e
  exact a2 (hh.inj _ _ _ _ _ _ a1 ho' ((a3 _).1 hb) hbk he)
 have hI:=hD.rebase hlt hfree
 have hB:=zq2 hD (Base.refl E O) hlt
 refine⟨_,(ρ 0 nm).block,.map es ck,hB,⟨⟨h1,fun d nm' sh e hb he=>?_⟩,.inr rfl⟩,hh.loc nm _ ho' hbk,⟨es,ck,rfl,h2⟩,hI,hi.defers,hi.size,fun t' d e=>?_⟩
 ·have ho2:ρ (d+1)=E.ρ0 d:=hh.outer d
  have hρ:(reE E K w (fun b=>b=(ρ 0 nm).block) hlt hD.size).ρ0 d nm' = ρ (d+1) nm':=by rw[ho2];rfl
  rw[hρ] at hb he
  unfold shape at e
  cases hob:zaa O d nm' with
  | none=>simp[hob] at e
  | some ob=>
   simp only[hob,Option.map_some,Option.some.injEq] at e
   subst e
   have:=hh.inj (d+1) nm' ob 0 nm _ (by simpa [zaa] using hob) ho' (zfx.2 hb) hbk he
   omega
 ·have hsl:∀ t' d0,look s.σ t' = some d0→RepD K ρ (shape (zaS nm H::O)) (a.tmps.getD t' undef) (d0.kill nm):=by
   intro t' d0 e0
   have h1:=hi.slots t' d0 e0
   rw[hS] at h1
   exact RepD.kill (zfQ (ρ:=ρ) (H:=H) (O:=O) nm) h1
  simp only[zab] at e
  split at e
  ·rename_i e2
   subst e2
   simp only[Option.some.injEq] at e
   subst e
   have h1:=hi.slots t _ ht
   rw[hS] at h1
   rw[zkF h1 (by simp[shape,zaa,ho,Ob.sh])]
   exact .i (.v rfl)
  ·rw[zbZ] at e
   cases hl:look s.σ t' with
   | none=>simp[hl] at e
   | some d0=>
    simp only[hl,Option.map_some,Option.some.injEq] at e
    subst e
    exact hsl _ _ hl
theorem zkk {todo:List Item} {nm:Nat} {kk:KK} {m:MC} (t:Nat) (hS:s.S=H::O) (ho:look H nm=some (.mp kk m)) (ht:look s.σ t=some (.osl 0 nm))
  (h:∀ E' b ob,Base c.E E' O→TabE b ob E' O→¬ c.E.pr b→zlR ob m→Rch { c with E:=E' } todo { σ:=(t,.i (.v (.map (some b))))::zdH nm s.σ,S:=zaS nm H::O,n:=s.n }):Rch c todo s:=by
 intro K ρ a w b cs hi h1 h2
 obtain⟨E',bl,ob,hB,hT,hn,hm,hi'⟩:=zsB hi hS ho ht
 exact h E' bl ob hB hT hn hm K ρ a w b cs hi' h1 h2
end
section
variable {c:Cx} {ops:Array Oper} {O:List Heap} {n:Nat} {F:SH→List Pl→Prop}
def zp2 (k:IntKind) (l:List (Value × Int)) (key:Value) (ok:Bool):D:=bif ok then .tup [.i (.v (.int k (zeO l key))),.i (.v (.bool (mhas l key)))] else .i (.v (.int k (zeO l key)))
theorem zkd {P:Program} {w:World} {tm kt vt b:Nat} {ki vi:TI} {kk:KK} {k:IntKind} {l:List (Value × Int)} {ob:Obj} {key:Value} (hu:P.underlying tm=some (.map kt vt)) (hk:TIok P kt ki) (hv:TIok P vt vi) (hkk:ki.isKK kk=true) (hkey:kk.ok key=true) (hz:vi.zero=[.int k 0]) (ha:vi.k.agg=false)
  (hb:w.heap[b]? = some ob) (hm:zlR ob (.i k l)) (hl:∀ p∈l,kk.ok p.1=true) (ok:Bool):∃ v,(Instr.lookup tm (.map (some b)) key ok).run P w = .ok v w∧∀ K ρ sh,RepD K ρ sh v (zp2 k l key ok):=by
 obtain⟨es,ck,rfl,he⟩:=hm
 have hm':∀ p∈(MC.i k l).vals,kk.ok p.1=true:=by
  intro p hp
  obtain⟨q,hq,rfl⟩:=List.mem_map.1 hp
  exact hl q hq
 have hr:=zfa (P:=P) (w:=w) hu hk hv hkk hkey hz ha hb he hm' ok
 have hlk:=zdi (fun n:Int=>Value.int k n) l key 0
 have hg:((za1 (MC.vals (.i k l)) key 0).map (·.2)).getD (.int k 0) = .int k (zeO l key):=by
  show ((za1 (l.map fun p=>(p.1,Value.int k p.2)) key 0).map (·.2)).getD _=_
  rw[hlk]
  unfold zeO
  cases zbK l key <;> rfl
 have hs:(za1 (MC.vals (.i k l)) key 0).isSome=mhas l key:=by
  show (za1 (l.map fun p=>(p.1,Value.int k p.2)) key 0).isSome=_
  have:=congrArg Option.isSome hlk
  simpa [mhas] using this
 rw[hg,hs] at hr
 cases ok with
 | true=>exact⟨_,hr,fun K ρ sh=>.tup (.cons (za7 rfl) (.cons (za7 rfl) .nil))⟩
 | false=>exact⟨_,hr,fun K ρ sh=>za7 rfl⟩
theorem znD {o:Oper} {v:SH} {t tm kt vt b:Nat} {px pi:Operand} {ok:Bool} {ti ki vi:TI} {kk:KK} {k:IntKind} {l:List (Value × Int)} {ob:Obj} {key:Value} (hT:TOk c.P c.T) (hw:zaw ops (St.of O n v) o=some true) (ht:o.dst=some t) (hn:Nat.ble (t+1) n=true) (hop:o.op = .lookup tm px pi ok)
  (hx:evD (St.of O n v) px = .i (.v (.map (some b)))) (hi:(evD (St.of O n v) pi).keyOf=some key) (htab:TabE b ob c.E O) (hm:zlR ob (.i k l))
  (h1:look c.T tm=some ti) (hk1:ti.k = .map kt vt) (h2:look c.T kt=some ki) (h3:look c.T vt=some vi) (hkk:ki.isKK kk=true) (hkey:kk.ok key=true) (hz:vi.zero=[.int k 0]) (ha:vi.k.agg=false) (hl:∀ p∈l,kk.ok p.1=true) :
  zdq c ops O n o v (.one t (zp2 k l key ok)):=by
 refine .inr ⟨hw,fun E hE K ρ a w hi' next Qe hnx=>?_⟩
 have hu:c.P.underlying tm=some (.map kt vt):=by have:=(hT _ _ h1).kind;rw[hk1] at this;exact this
 have rx:=hi'.ev px
 rw[hx] at rx
 have ri:=hi'.ev pi
 have evx:=zaL rx
 have evi:=zgD hi ri
 have hh:HInv E K ρ (v.2::O) w:=hi'.h
 have hb:=(ze7 (hE.tb b ob O rfl htab) rfl hh).1
 obtain⟨val,hrun,hrep⟩:=zkd (P:=c.P) (w:=w) hu (hT _ _ h2) (hT _ _ h3) hkk hkey hz ha hb hm hl ok
 have hex:(execOp a.eval o).run c.P w = .ok (.value val) w:=by
  simp only[execOp,hop,evx,evi,hrun,Sem.run_bind,Result.andThen_ok,Sem.run_pure]
 simp only[Oper.wp,hex,Oper.upon]
 refine hnx val w [(t,zp2 k l key ok)] K ρ (Kn.le_refl _) (fun _ _ _ _ e=>⟨e,rfl⟩) ⟨hh,by rw[ht];simp[Act.put];exact hi'.defers,by rw[ht];simp[Act.put];exact hi'.size,fun t' d' e=>?_⟩ fun t' d' e=>.inr e
 obtain⟨rfl,rfl⟩:=zaN e
 rw[ht,zbp (by rw[hi'.size];exact Nat.le_of_ble_eq_true hn),if_pos rfl]
 exact hrep _ _ _
theorem zwC {o:Oper} {rest:List Oper} {x:SH} {acc:List Pl} {lo:List Oper} {t i N tm kt vt b:Nat} {px pi:Operand} {ok:Bool} {ti ki vi:TI} {kk:KK} {k:IntKind} {l:List (Value × Int)} {ob:Obj} {key:Value} (hT:TOk c.P c.T) (htab:TabE b ob c.E O) (hm:zlR ob (.i k l)) (hl:∀ p∈l,kk.ok p.1=true) (hlo:lo=o::rest) (hN:acc.length=N)
  (hw:zaw ops (St.of O n (zaB ops o x)) o=some true) (ht:o.dst=some t) (hn:Nat.ble (t+1) n=true) (hop:o.op = .lookup tm px pi ok)
  (hx:evD (St.of O n (zaB ops o x)) px = .i (.v (.map (some b)))) (hi:(evD (St.of O n (zaB ops o x)) pi).keyOf=some key)
  (h1:look c.T tm=some ti) (hk1:ti.k = .map kt vt) (h2:look c.T kt=some ki) (h3:look c.T vt=some vi) (hkk:ki.isKK kk=true) (hkey:kk.ok key=true) (hz:vi.zero=[.int k 0]) (ha:vi.k.agg=false)
  (h:GE c ops O n F (runS c.T ops O n i rest (setX x t (zp2 k l key ok)) (acc++[.one t (zp2 k l key ok)]))):GE c ops O n (SegF c ops O n F N lo) (.done x acc):=by
 subst hlo
 exact⟨⟨hN,zet (znD hT hw ht hn hop hx hi htab hm h1 hk1 h2 h3 hkk hkey hz ha hl) (za0 hT rest i _ _ h.h)⟩⟩
end
end Go.AI


namespace Go.AI
open Go.Proofs
theorem zoi {ts:List (Nat × Obj)} {c:Cx} {s:St} {o:Oper} {Q:St→Prop} {f:FuncId} {args:List D} {res:D} {Hr H':Heap} {O0 O':List Heap} {t:Nat} (htab:TabsE ts c.E O0)
  (hspec:znw ts c.P f (D.imms (zdJ s.S) args) s.S res Hr (H' :: O')) (ht:o.dst=some t) (hn:t<s.n) {H:Heap} {O:List Heap} (hS:s.S=H::O) (hO:shape O=shape O0) (hsh:shape (H' :: O')=shape s.S) (hf:∀ nm,look Hr nm≠none→look H' nm=none)
  (hq:Q { σ:=(t,res.down)::s.σ,S:=(zcb Hr++H')::O',n:=s.n }):Does c o s Q (.call f args):=by
 intro K ρ a w hi ⟨vs,hrun,hrep⟩ next Qe hnext
 have hh:=hi.h
 have hrep':=RepDL.imm hh hrep
 rw[hS] at hspec hsh hh hrep'
 have fin:∀ v w',(∃ K' ρ',HInv (.of K ρ w) K' ρ' (Hr::H' :: O') w' ∧ RepD K' ρ' (shape (Hr::H' :: O')) v res)→next (a.put o.dst v) w':=by
  intro v w' ⟨K',ρ',h1,h2⟩
  obtain⟨ρ'',hI,hst,hdn⟩:=hh.back h1 hsh hf
  refine hnext _ _ _ _ _ hst.le (fun d n x _ e=>⟨hst.shp _ _ _ (by rw[hS] at e;exact e),hst.loc _ _ _ (by rw[hS] at e;exact e)⟩) ?_ hq
  rw[ht]
  refine zcd hi hn hI ?_ (h2.down hdn)
  rw[hS];exact hst
 rcases hspec c.E K ρ w vs hh (fun p hp=>ze7 (htab p hp) hO hh) hrep' with ⟨h1,h2⟩ | ⟨v,w',h1,h2⟩
 ·rw[h1] at hrun
  simp only[Oper.wp,hrun,Oper.upon]
  refine h2.mono ?_
  rintro e w' ⟨v,rfl,hR⟩
  exact fin v w' hR
 ·rw[h1] at hrun
  simp only[Oper.wp,hrun,Oper.upon]
  exact fin v w' h2
section
variable {c:Cx} {ops:Array Oper} {O:List Heap} {n:Nat} {F:SH→List Pl→Prop} {o:Oper} {rest:List Oper} {x:SH} {acc:List Pl} {i:Nat}
theorem zpm (hT:TOk c.P c.T) {ts:List (Nat × Obj)} {O0:List Heap} (htab:TabsE ts c.E O0) {f:FuncId} {args:List D} {res:D} {Hr:Heap} {t:Nat} (hspec:znw ts c.P f (D.imms (zaB ops o x).2 args) ((zaB ops o x).2::O) res Hr ((zaB ops o x).2::O)) (ht:o.dst=some t) (hn:Nat.ble (t+1) n=true)
  (hO:shape O=shape O0) (hf:zbT Hr x.2=true) (h:GE c ops O n F (runS c.T ops O n (i+1) rest (newX x t res.down (zcb Hr)) (acc++[⟨[(t,res.down)],zcb Hr,none⟩]))) :
  GE c ops O n F (.at i o rest x acc (.call f args)):=by
 refine⟨fun hro=>⟨⟨[(t,res.down)],zcb Hr,none⟩,(ziz hro).symm,fun E hE=>?_,za0 hT rest _ _ _ h.h⟩⟩
 refine zoi (c:={ c with E:=E }) (s:=vw ops O n o x) (H':=(zaB ops o x).2) (O':=O) (H:=(zaB ops o x).2) (O:=O) (fun p hp=>hE.tb p.1 p.2 O0 hO (htab p hp)) hspec ht (Nat.le_of_ble_eq_true hn) rfl hO rfl (zb8 (zgJ zhQ hf)) ⟨rfl,rfl,fun t' d' e=>?_⟩
 obtain⟨rfl,rfl⟩:=zaN e
 exact .inr (.inl (by simp[zab]))
end
theorem zsC {c:Cx} {s:St} (hT:TOk c.P c.T) {E0:Env} {res d r:D} {H:Heap} {O:List Heap} (hb:Base E0 c.E O) (hp:c.post=zck E0 res [] O) (hd:resD c.T s c.fn.results.toList=some d) (hS:s.S=H::O) (hr:d.ret H []=r)
  (he:CoD r res):GM c (.ret s):=by
 refine⟨?_⟩
 have h:=ziq (c:={ c with post:=zck c.E res [] O }) (Hr:=[]) (hT:=hT) rfl hd hS trivial hr rfl he
 intro K ρ a w hi
 obtain⟨v,hv,K',ρ',h1,h2⟩:=h K ρ a w hi
 refine⟨v,hv,?_⟩
 rw[hp]
 exact⟨K',ρ',h1.unbase hb,h2⟩
end Go.AI


namespace Go.AI
open Go.Proofs
set_option maxRecDepth 20000
def zd7 (l:List Int):ByteArray:=⟨(keyL [] l).toArray⟩
theorem zrF {a b:List Int} (ha:∀ x∈a,0≤x∧x<64) (hb:∀ x∈b,0≤x∧x<64) (h:zd7 a=zd7 b):a=b:=by
 unfold zd7 at h
 rw[ziu,ziu] at h
 simp only[ByteArray.mk.injEq,List.nil_append] at h
 have h:encL a=encL b:=by
  have:=congrArg Array.toList h
  simpa using this
 exact (zjP ha hb (u:=[]) (v:=[]) (by rw[h])).1
theorem zwk {g:Nat} (hg:zfH g) {ty:TypeId} {fr:Nat × Nat} (O:List Heap) (l:List Int) (h0:l≠[]) (hn:l.length≤4096) (hl:∀ v∈l,0≤v∧v<64) :
  ASpecT g (ptab ty fr) Tryz.prog 81 [ints l] O (.i (.v (.string (zd7 l)))) [] O:=by
 have hno:zd7 l=⟨(keyL [] (l.drop 0)).toArray⟩:=rfl
 have hpos:0<l.length:=List.length_pos_iff.2 h0
 generalize zd7 l=R at *
 refine zaV [200003,200014,200015,200017] Tk Tryz.func81 rfl Tryz.call81 Tryz.ntmps81 (Nat.le_of_ble_eq_true rfl) fun E hE=>?_
 refine zae Tk Tryz.func81 ?_
 refine g_tb Tk Tryz.func81 rfl rfl rfl rfl rfl rfl rfl rfl ?_
 refine zac ?_
 refine zaq (zlS 3 60 5 1 rfl rfl rfl) ?_
 refine zah (fun x:Nat × List UInt8 × Bool=>[(3,.own 0 3 0 0),(6,ints l),(7,ii l.length),(8,ii x.1)]) (fun x=>[(3,.tb 217 [dp3 x.2.2,.osl 0 60]),(60,oby x.2.1)]) (fun _=>O) 18
  (fun x=>x.1≤l.length∧x.2.1.length≤22 * x.1∧(x.1=0∨x.2.1≠[])∧R=⟨(keyL x.2.1 (l.drop x.1)).toArray⟩) (fun x=>l.length - x.1) (0,[],false)
  ⟨Nat.zero_le _,by simp,.inl rfl,hno⟩ ⟨rfl,rfl,rfl,rfl,trivial⟩ rfl ⟨rfl,rfl,trivial⟩ rfl rfl ?_
 clear hno
 rintro ⟨k,U,q⟩ ⟨hk,hUl,hT0,hF⟩ ih2
 simp only at hk hUl hT0 hF
 refine zae Tk Tryz.func81 ?_
 refine zai Tk Tryz.func81 rfl (fun g2=>?_) (fun g2=>?_)
 ·have h3:k<l.length:=by simpa using g2
  clear g2
  have gl:(l.map fun x=>[vi x])[(k:Int).toNat]? = some [vi l[k]]:=zaj (f:=fun x=>[vi x]) h3
  have dl:l.drop k=l[k]::l.drop (k+1):=List.drop_eq_getElem_cons h3
  have hv:=hl _ (List.getElem_mem h3)
  rw[dl] at hF
  simp only[keyL] at hF
  clear dl
  generalize l[k]=n at *
  have hz:=zn1 (n:=n) (by omega) (by omega)
  have hk1:ii (IntKind.i64.wrap ((k:Int)+1))=ii ((k+1:Nat):Int):=congrArg ii (zaC (n:=4096) (by omega) (by decide))
  refine zag Tk Tryz.func81 (by exact⟨by omega,by show (k:Int)<(l.length:Int);omega⟩) ?_
  refine zap Tk Tryz.func81 (gl) ?_
  refine zbe Tk Tryz.func81 hE (zvI hg _ n (by omega) (by omega)) rfl rfl rfl rfl rfl rfl ?_
  generalize zkz n=W at *
  refine zcQ Tk Tryz.func81 rfl rfl rfl rfl (zuS rfl W U (ztG q) (by omega) rfl (show 14<18 by decide) rfl rfl rfl (by decide)) ?_
  refine zcQ Tk Tryz.func81 rfl rfl rfl rfl (zuU rfl 32 (U++W.data.toList) (.inr rfl) (by rw[List.length_append,zf0];omega) rfl (show 15<18 by decide) rfl rfl rfl (by decide)) ?_
  refine zac ?_
  refine ih2 (k+1,U++W.data.toList++[32],true) _ _ ⟨h3,by simp only[List.length_append,zf0,List.length_singleton];omega,.inr (by simp),hF⟩ (by simp only;omega) ⟨rfl,rfl,rfl,hk1,trivial⟩ rfl ⟨rfl,rfl,trivial⟩ rfl rfl
 ·have h3:l.length≤k:=by simpa using g2
  rw[List.drop_eq_nil_of_le h3] at hF
  simp only[keyL] at hF
  subst hF
  have hT0:U≠[]:=hT0.resolve_left (by omega)
  refine zcQ Tk Tryz.func81 rfl rfl rfl rfl (zqP rfl hT0 rfl (show 17<18 by decide) rfl rfl rfl) ?_
  refine zak Tk (r:=.i (.v (.string ⟨U.toArray⟩))) rfl rfl rfl trivial rfl rfl ?_
  rfl
abbrev Tb:=Nat × Obj
abbrev tbM (bs:List Tb):List (List I):=bs.map fun b=>[I.v (.map (some b.1))]
structure tbOk (l:List Aut) (bs:List Tb):Prop where
 len:bs.length=l.length
 is:∀ (i:Nat) a b,l[i]? = some a→bs[i]? = some b→zlR b.2 (.i .i64 (zfV a.edges))
theorem zvf (O:List Heap) (l:List Aut) (ev:List Int) (bs:List Tb) (t:List Int) (e:Int) (hl:l.length≤12) (ht:t.length=l.length) (hc:∀ a∈l,chkA a=0) (hbs:tbOk l bs) :
  znw bs Tryz.prog 83 [zn0 l ev (tbM bs),ints t,ii e] O (.tup [(match tupS l t e with | some n=>ints n | none=>.i (.v (.slice none 0 0))),bb (tupS l t e).isSome]) [] O:=by
 have hR:tupS l t e=(tupS (l.drop 0) (t.drop 0) e).map (([]:List Int) ++ ·):=by simp
 obtain⟨R,hRR⟩:∃ R,R=tupS l t e:=⟨_,rfl⟩
 rw[← hRR] at hR ⊢
 clear hRR
 have hcl:=fun O=>zkY 14 O t (by simp only[big];omega)
 have hbl:=hbs.len
 refine zk7 [11] Tk Tryz.func83 rfl Tryz.call83 Tryz.ntmps83 (Nat.le_of_ble_eq_true rfl) fun E hE=>?_
 refine zae Tk Tryz.func83 ?_
 refine zaf Tk Tryz.func83 (hcl _) rfl rfl rfl rfl rfl ?_
 refine zac ?_
 refine zah (fun x:Nat × List Int=>[(1,ints t),(2,ii e),(3,.own 0 3 0 0),(8,.osl 0 14),(16,auts l),(17,ii l.length),(18,ii x.1)])
  (fun x=>[(3,.box [auts l,ints ev,.i (.sl 1 (tbM bs).length (tbM bs))]),(14,zat (x.2++t.drop x.1))]) (fun _=>O) 51
  (fun x=>x.1≤l.length∧x.2.length=x.1∧R=(tupS (l.drop x.1) (t.drop x.1) e).map (x.2 ++ ·)) (fun x=>l.length - x.1) (0,[]) ⟨Nat.zero_le _,rfl,hR⟩ ⟨rfl,rfl,rfl,rfl,rfl,rfl,rfl,trivial⟩ rfl ⟨rfl,rfl,trivial⟩ rfl rfl ?_
 clear hR
 rintro ⟨i,pre⟩ ⟨hi,hp,hno⟩ ih
 simp only at hi hp hno
 have hj1:ii (IntKind.i64.wrap ((i:Int)+1))=ii ((i+1:Nat):Int):=congrArg ii (zaC (n:=4096) (by omega) (by decide))
 refine zae Tk Tryz.func83 ?_
 refine zai Tk Tryz.func83 rfl (fun g1=>?_) (fun g1=>?_)
 ·have h2:i<l.length:=by simpa using g1
  have h3:i<t.length:=by omega
  have h4:i<bs.length:=by omega
  have gl:=zfo h2
  have gt:(t.map fun x=>[vi x])[(i:Int).toNat]? = some [vi t[i]]:=zaj (f:=fun x=>[vi x]) h3
  have gb:(tbM bs)[(i:Int).toNat]? = some [I.v (.map (some bs[i].1))]:=zaj (f:=fun b:Tb=>[I.v (.map (some b.1))]) h4
  have hm:=hbs.is i _ _ (List.getElem?_eq_getElem h2) (List.getElem?_eq_getElem h4)
  have htb:=hE _ (List.getElem_mem h4)
  have dl:l.drop i=l[i]::l.drop (i+1):=List.drop_eq_getElem_cons h2
  have dt:t.drop i=t[i]::t.drop (i+1):=List.drop_eq_getElem_cons h3
  have ha:=hc _ (List.getElem_mem h2)
  rw[dt]
  rw[dl,dt] at hno
  simp only[tupS] at hno
  clear dl dt
  generalize l[i]=a at *
  generalize t[i]=x at *
  generalize bs[i]=b at *
  obtain⟨b1,b2⟩:=b
  obtain⟨c1,_,_,c4⟩:=zaA ha
  have hal:=zaZ (by decide) c1
  have h1:=fun O=>zda O a.alpha e (by simp only[zas];omega) (zam c1).1
  obtain⟨hlk,hlg⟩:=zrH (zaX c4).1 (fun x hx=>((zcz ha).2.1 x hx).1) x e
  obtain⟨al,st,mk,es⟩:=a
  simp only at hlk hlg h1 hno hm
  generalize stp3 es x e=s at *
  refine zag Tk Tryz.func83 (by exact⟨by omega,by show (i:Int)<(l.length:Int);omega⟩) ?_
  refine zap Tk Tryz.func83 (gl) ?_
  refine zaf Tk Tryz.func83 (h1 _) rfl rfl rfl rfl rfl ?_
  have happ:∀ y,zat ((pre++[y])++t.drop (i+1))=zat (pre++y::t.drop (i+1)):=fun y=>by rw[List.append_assoc];rfl
  refine zai Tk Tryz.func83 rfl (fun d1=>?_) (fun d1=>?_)
  ·have d1:e ∉ al:=of_decide_eq_false (notT d1)
   rw[if_neg d1,Option.map_map] at hno
   refine zac ?_
   refine ih (i+1,pre++[x]) _ _ ⟨h2,by simp[hp],?_⟩ (by simp only;omega) ⟨rfl,rfl,rfl,rfl,rfl,rfl,hj1,trivial⟩ rfl ⟨rfl,congrArg some (happ x).symm,trivial⟩ rfl rfl
   rw[hno]
   congr 1
   funext z
   simp
  have d1:e∈al:=of_decide_eq_true (notF d1)
  rw[if_pos d1] at hno
  refine zn7 Tk 11 zaM rfl (by decide) ?_
  refine zaz Tk (by exact⟨by omega,by show (i:Int)<((bs.map fun b=>[I.v (.map (some b.1))]).length:Int);rw[List.length_map];omega⟩) ?_
  refine zaK Tk (gb) ?_
  refine zaz Tk (by exact⟨by omega,by show (i:Int)<(t.length:Int);omega⟩) ?_
  refine zaK Tk (gt) ?_
  refine zwC (i:=12) (ti:=ziQ) (ki:=zla) (vi:=zfF) (kk:=.pair .i64) (k:=.i64) (l:=zfV es) (key:=pk x e) Tk htb hm (zrI es) rfl rfl rfl rfl rfl rfl rfl rfl rfl rfl rfl rfl rfl rfl rfl rfl ?_
  refine zaQ Tk Tryz.func83 (by kernel_rfl) ?_
  refine zai Tk Tryz.func83 rfl (fun d2=>?_) (fun d2=>?_)
  ·have d2:mhas (zfV es) (pk x e)=false:=notT d2
   rw[hlk] at d2
   have d2:¬ 0≤s:=of_decide_eq_false d2
   rw[if_neg d2] at hno
   subst hno
   refine zak Tk (r:=.tup [.i (.v (.slice none 0 0)),bb false]) rfl rfl rfl trivial rfl rfl ?_
   rfl
  have d2:mhas (zfV es) (pk x e)=true:=notF d2
  rw[hlk] at d2
  have d2:0≤s:=of_decide_eq_true d2
  rw[if_pos d2,Option.map_map] at hno
  have hg:=hlg d2
  generalize zeO (zfV es) (pk x e)=mg at *
  subst hg
  refine zag Tk Tryz.func83 (by exact⟨by omega,by show (i:Int)<((pre++x::t.drop (i+1)).length:Int);rw[List.length_append];simp;omega⟩) ?_
  have hset:((pre++x::t.drop (i+1)).map fun x=>[vi x]).set i [vi mg]=(pre++mg::t.drop (i+1)).map fun x=>[vi x]:=by
   rw[List.map_append,List.set_append,if_neg (by rw[List.length_map];omega),List.length_map,hp,Nat.sub_self]
   simp
  refine zac ?_
  refine ih (i+1,pre++[mg]) _ _ ⟨h2,by simp[hp],?_⟩ (by simp only;omega) ⟨rfl,rfl,rfl,rfl,rfl,rfl,hj1,trivial⟩ rfl ⟨rfl,?_,trivial⟩ rfl rfl
  ·rw[hno]
   congr 1
   funext z
   simp
  ·rw[happ mg]
   show some (Ob.arr 3 1 (pre++x::t.drop (i+1)).length (((pre++x::t.drop (i+1)).map fun x=>[vi x]).set (i:Int).toNat [vi mg]) true)=some (zat (pre++mg::t.drop (i+1)))
   rw[Int.toNat_natCast,hset]
   have e1:(pre++x::t.drop (i+1)).length=(pre++mg::t.drop (i+1)).length:=by simp
   rw[e1]
 ·have h2:l.length≤i:=by simpa using g1
  rw[List.drop_eq_nil_of_le h2,List.drop_eq_nil_of_le (by omega)] at hno
  rw[List.drop_eq_nil_of_le (by omega),List.append_nil]
  simp only[tupS,Option.map_some,List.append_nil] at hno
  subst hno
  refine zay ?_
  refine zaq (zao 14 rfl rfl) ?_
  refine zae Tk Tryz.func83 ?_
  refine g_go Tk Tryz.func83 ?_
  refine zak Tk (r:=.tup [ints pre,bb true]) rfl rfl rfl trivial rfl rfl ?_
  rfl
abbrev zwh (m:List (Value × Int)):Ob:=.mp (.pair .i64) (.i .i64 m)
theorem zrG {l:List Aut} {bs:List Tb} {i:Nat} {a:Aut} {b:Tb} (h:tbOk (l.take i) bs) (hi:i<l.length) (ha:l[i]? = some a) (hb:zlR b.2 (.i .i64 (zfV a.edges))):tbOk (l.take (i+1)) (bs++[b]):=by
 have hl:=h.len
 rw[List.length_take,Nat.min_eq_left (by omega)] at hl
 refine⟨by rw[List.length_append,List.length_singleton,hl,List.length_take,Nat.min_eq_left (by omega)],fun k a' b' h1 h2=>?_⟩
 have hk:k<i+1:=by
  have:=(List.getElem?_eq_some_iff.1 h1).1
  rw[List.length_take] at this
  omega
 rw[List.getElem?_take,if_pos hk] at h1
 by_cases e:k=i
 ·subst e
  rw[ha] at h1
  obtain rfl:=Option.some.inj h1
  rw[List.getElem?_append_right (by omega),hl,Nat.sub_self] at h2
  obtain rfl:=Option.some.inj h2
  exact hb
 ·rw[List.getElem?_append_left (by omega)] at h2
  exact h.is k a' b' (by rw[List.getElem?_take,if_pos (by omega)];exact h1) h2
theorem zti (O:List Heap) (l:List Aut) (hl:l.length≤12) (hc:∀ a∈l,chkA a=0) (hs:∀ a∈l,smallA a):zu9 [] Tryz.prog 79 [auts l] O (tbOk l) (fun bs=>zn0 l (evL l) (tbM bs)) (fun bs=>bs):=by
 have h1:=fun O=>zqG O l hl hc
 generalize evL l=ev at *
 refine zn5 (tbOk l) (fun bs=>zn0 l ev (tbM bs)) (fun bs=>bs) [11,13] Tk Tryz.func79 rfl Tryz.call79 Tryz.ntmps79 (Nat.le_of_ble_eq_true rfl) fun E _=>?_
 refine zae Tk Tryz.func79 ?_
 refine zaf Tk Tryz.func79 (h1 _) rfl rfl rfl rfl rfl ?_
 refine zac ?_
 refine zaq (zaR 3 40 214 1 (pre:=[auts l,ints ev]) (post:=[]) rfl rfl rfl) ?_
 refine zjh (fun x:Nat × List Tb=>[(2,.own 0 2 0 0),(3,.own 0 3 0 0),(13,auts l),(14,ii l.length),(15,ii x.1)])
  (fun x=>[(2,.box [.i (.v (.slice none 0 0)),.i (.v (.slice none 0 0)),.i (.v (.slice none 0 0))]),(3,.box [auts l,ints ev,.osl 0 40]),(40,.arr 214 1 x.2.length (tbM x.2) true)]) (fun _=>O) 44
  (fun E' x=>x.1≤l.length∧tbOk (l.take x.1) x.2∧Base E E' O∧TabsE x.2 E' O∧∀ p∈x.2,¬ E.pr p.1) (fun x=>l.length - x.1) (0,[])
  ⟨Nat.zero_le _,⟨by simp,fun i a b h=>by simp at h⟩,Base.refl E O,fun p hp=>(List.not_mem_nil hp).elim,fun p hp=>(List.not_mem_nil hp).elim⟩ ⟨rfl,rfl,rfl,rfl,rfl,trivial⟩ rfl ⟨rfl,rfl,rfl,trivial⟩ rfl rfl ?_
 rintro E1 ⟨i,bs⟩ ⟨hi,hok,hB,hT,hnp⟩ ih
 simp only at hi hok hB hT hnp
 have hj1:ii (IntKind.i64.wrap ((i:Int)+1))=ii ((i+1:Nat):Int):=congrArg ii (zaC (n:=4096) (by omega) (by decide))
 refine zae Tk Tryz.func79 ?_
 refine zai Tk Tryz.func79 rfl (fun g1=>?_) (fun g1=>?_)
 ·have h2:i<l.length:=by simpa using g1
  have gl:=zfo h2
  have hla:l[i]? = some l[i]:=List.getElem?_eq_getElem h2
  have hsm:=(hs _ (List.getElem_mem h2)).ed
  generalize l[i]=a at *
  obtain⟨al,st,mk,es⟩:=a
  simp only at hsm
  refine zag Tk Tryz.func79 (by exact⟨by omega,by show (i:Int)<(l.length:Int);omega⟩) ?_
  refine zap Tk Tryz.func79 (gl) ?_
  obtain⟨TT,hTT⟩:∃ TT,TT=(es.drop 0).foldl (fun m e=>mset m (pk e.1 e.2.1) e.2.2) []:=⟨_,rfl⟩
  have hT0:zfV es=TT:=hTT.symm
  refine zac ?_
  refine zah (fun x:Nat × List (Value × Int)=>[(2,.own 0 2 0 0),(3,.own 0 3 0 0),(13,auts l),(14,ii l.length),(15,ii i),(6,.osl 0 19),(21,edgs es),(22,ii es.length),(23,ii x.1)])
   (fun x=>[(2,.box [.i (.v (.slice none 0 0)),.i (.v (.slice none 0 0)),.i (.v (.slice none 0 0))]),(3,.box [auts l,ints ev,.osl 0 40]),(40,.arr 214 1 bs.length (tbM bs) true),(19,zwh x.2)]) (fun _=>O) 44
   (fun x=>x.1≤es.length∧TT=(es.drop x.1).foldl (fun m e=>mset m (pk e.1 e.2.1) e.2.2) x.2) (fun x=>es.length - x.1) (0,[]) ⟨Nat.zero_le _,hTT⟩ ⟨rfl,rfl,rfl,rfl,rfl,rfl,rfl,rfl,rfl,trivial⟩ rfl ⟨rfl,rfl,rfl,rfl,trivial⟩ rfl rfl ?_
  clear hTT
  rintro ⟨j,m⟩ ⟨hj,hno⟩ ih2
  simp only at hj hno
  refine zae Tk Tryz.func79 ?_
  refine zai Tk Tryz.func79 rfl (fun g2=>?_) (fun g2=>?_)
  ·have h3:j<es.length:=by simpa using g2
   have ge:(es.map edgI)[(j:Int).toNat]? = some (edgI es[j]):=zaj h3
   have de:es.drop j=es[j]::es.drop (j+1):=List.drop_eq_getElem_cons h3
   rw[de,List.foldl_cons] at hno
   clear de
   generalize es[j]=e at *
   obtain⟨e1,e2,e3⟩:=e
   refine zag Tk Tryz.func79 (by exact⟨by omega,by show (j:Int)<(es.length:Int);omega⟩) ?_
   refine zap Tk Tryz.func79 (ge) ?_
   refine zac ?_
   exact ih2 (j+1,mset m (pk e1 e2) e3) _ _ ⟨h3,hno⟩ (by simp only;omega) ⟨rfl,rfl,rfl,rfl,rfl,rfl,rfl,rfl,congrArg ii (zaC (n:=1000001) (by omega) (by decide)),trivial⟩ rfl ⟨rfl,rfl,rfl,rfl,trivial⟩ rfl rfl
  ·have h3:es.length≤j:=by simpa using g2
   rw[List.drop_eq_nil_of_le h3,List.foldl_nil] at hno
   subst hno
   refine zay ?_
   refine zkk 6 rfl rfl rfl ?_
   intro E2 b ob hB2 hTb hnb hmi
   refine zae Tk Tryz.func79 ?_
   refine g_go Tk Tryz.func79 ?_
   refine zag Tk Tryz.func79 (by exact⟨by show (bs.length+1) * 8≤140737488355328;have:=hok.len;rw[List.length_take] at this;omega,by show bs.length+1≤9223372036854775807;have:=hok.len;rw[List.length_take] at this;omega⟩) ?_
   refine zac ?_
   refine ih E2 (i+1,bs++[(b,ob)]) _ _ ⟨h2,zrG hok h2 hla (by rw[hT0];exact hmi),hB.trans hB2,?_,?_⟩ (by simp only;omega) ⟨rfl,rfl,rfl,rfl,hj1,trivial⟩ rfl ⟨rfl,rfl,?_,trivial⟩ rfl rfl
   ·intro p hp
    rcases List.mem_append.1 hp with hp | hp
    ·exact hT.base hB2 p hp
    ·rw[List.mem_singleton] at hp;subst hp;exact hTb
   ·intro p hp
    rcases List.mem_append.1 hp with hp | hp
    ·exact hnp p hp
    ·rw[List.mem_singleton] at hp;subst hp;exact fun h=>hnb (hB.pr _ h)
   ·show some (Ob.arr 214 1 (bs.length+1) (tbM bs++[[I.v (.map (some b))]]) true)=some (Ob.arr 214 1 (bs++[(b,ob)]).length (tbM (bs++[(b,ob)])) true)
    simp
 ·have h2:l.length≤i:=by simpa using g1
  rw[List.take_of_length_le h2] at hok
  refine zay ?_
  refine zaq (zao 40 rfl rfl) ?_
  refine zae Tk Tryz.func79 ?_
  refine g_go Tk Tryz.func79 ?_
  refine zvO Tk (r:=.agg [auts l,ints ev,.i (.sl 1 bs.length (tbM bs))]) bs hok hB rfl hT hnp rfl rfl rfl ?_
  have e1:(tbM bs).length=bs.length:=by simp
  show CoD _ (.agg [auts l,ints ev,.i (.sl 1 (tbM bs).length (tbM bs))])
  rw[e1]
  exact CoD.refl _
end Go.AI
