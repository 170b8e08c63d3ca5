/- The layer of abstract runs, part 26. -/
import Derived.Test.YtlcekmemdnjjbaaGreatDoorAshY
set_option linter.unusedSimpArgs false
set_option linter.unusedVariables false
set_option linter.all false

set_option maxHeartbeats 4000000
namespace Go.AI
set_option maxRecDepth 20000
def Unf.map {σ τ:Type} (f:σ → τ) (U:Unf σ):Unf τ:=⟨U.sts.map f,U.mkl,U.eds⟩
def zkt {σ τ:Type} (f:σ → τ):Except Int (Unf σ) → Except Int (Unf τ)
 | .error e => .error e
 | .ok U => .ok (U.map f)
section
variable {σ τ:Type} {eq:σ → σ → Bool} {eq':τ → τ → Bool} {lim:Bool} {step:σ → Int → σ × Bool × Int} {step':τ → Int → τ × Bool × Int} {mkd:σ → Bool} {mkd':τ → Bool} {P:σ → Prop} {f:σ → τ} {alpha:List Int}
structure Sim (eq:σ → σ → Bool) (eq':τ → τ → Bool) (step:σ → Int → σ × Bool × Int) (step':τ → Int → τ × Bool × Int) (mkd:σ → Bool) (mkd':τ → Bool) (P:σ → Prop) (f:σ → τ) (alpha:List Int):Prop where
 st:∀ s ev,P s → ev ∈ alpha → (step' (f s) ev).2 = (step s ev).2 ∧ ((step s ev).2.1 = true → (step' (f s) ev).1 = f (step s ev).1 ∧ P (step s ev).1)
 eq:∀ a b,P a → P b → eq' (f a) (f b) = eq a b
 mark:∀ s,P s → mkd' (f s) = mkd s
theorem zna (h:Sim eq eq' step step' mkd mkd' P f alpha) {i:Nat} {s:σ} {ev:Int} {U:Unf σ} (hs:P s) (he:ev ∈ alpha) (hU:∀ t ∈ U.sts,P t) :
  zbB eq' lim step' i (f s) ev (U.map f) = zkt f (zbB eq lim step i s ev U) ∧ ∀ V,zbB eq lim step i s ev U = .ok V → ∀ t ∈ V.sts,P t:=by
 obtain ⟨h1,h2⟩:=h.st s ev hs he
 unfold zbB
 rw [h1]
 by_cases c1:(step s ev).2.2 ≠ 0
 ·rw [if_pos c1,if_pos c1]
  exact ⟨rfl,fun V hV => by cases hV⟩
 rw [if_neg c1,if_neg c1]
 by_cases c2:(step s ev).2.1 = false
 ·rw [if_pos c2,if_pos c2]
  exact ⟨rfl,fun V hV => by cases hV; exact hU⟩
 rw [if_neg c2,if_neg c2]
 obtain ⟨h3,h4⟩:=h2 (by simpa using c2)
 have e1:(U.map f).sts.findIdx (eq' (step' (f s) ev).1) = U.sts.findIdx (eq (step s ev).1):=by
  show (U.sts.map f).findIdx _ = _
  rw [List.findIdx_map,h3]
  exact zbR fun x hx => h.eq _ _ h4 (hU x hx)
 have e2:(U.map f).sts.length = U.sts.length:=by show (U.sts.map f).length = _; rw [List.length_map]
 rw [e1,e2]
 by_cases c3:U.sts.findIdx (eq (step s ev).1) < U.sts.length
 ·rw [if_pos c3,if_pos c3]
  exact ⟨rfl,fun V hV => by cases hV; exact hU⟩
 rw [if_neg c3,if_neg c3]
 by_cases c4:lim = true ∧ U.sts.length = 4096
 ·rw [if_pos c4,if_pos c4]
  exact ⟨rfl,fun V hV => by cases hV⟩
 rw [if_neg c4,if_neg c4]
 refine ⟨?_,fun V hV t ht => ?_⟩
 ·simp only [zkt,Unf.map,List.map_append,List.map_cons,List.map_nil,h3]
 ·cases hV
  rcases List.mem_append.1 ht with ht | ht
  ·exact hU t ht
  ·rw [List.mem_singleton] at ht
   subst ht
   exact h4
theorem zfK (h:Sim eq eq' step step' mkd mkd' P f alpha) {i:Nat} {s:σ} (hs:P s):∀ (l:List Int) {U:Unf σ},(∀ ev ∈ l,ev ∈ alpha) → (∀ t ∈ U.sts,P t) →
  zau eq' lim step' i (f s) l (U.map f) = zkt f (zau eq lim step i s l U) ∧ ∀ V,zau eq lim step i s l U = .ok V → ∀ t ∈ V.sts,P t
 | [],U,_,hU => ⟨rfl,fun V hV => by cases hV; exact hU⟩
 | ev :: l,U,hl,hU => by
  obtain ⟨h1,h2⟩:=zna (lim:=lim) (i:=i) h hs (hl ev (by simp)) hU
  simp only [zau]
  rw [h1]
  cases hV:zbB eq lim step i s ev U with
  | error e => exact ⟨rfl,fun V h => by cases h⟩
  | ok V =>
   simp only [zkt]
   exact zfK h hs l (fun x hx => hl x (by simp [hx])) (h2 V hV)
theorem ziL (h:Sim eq eq' step step' mkd mkd' P f alpha):∀ (n i:Nat) {U:Unf σ},(∀ t ∈ U.sts,P t) →
  zby eq' lim step' mkd' alpha n i (U.map f) = zkt f (zby eq lim step mkd alpha n i U) ∧ ∀ V,zby eq lim step mkd alpha n i U = .ok V → ∀ t ∈ V.sts,P t
 | 0,i,U,hU => ⟨rfl,fun V hV => by cases hV; exact hU⟩
 | n + 1,i,U,hU => by
  simp only [zby]
  have e0:(U.map f).sts[i]? = (U.sts[i]?).map f:=by show (U.sts.map f)[i]? = _; rw [List.getElem?_map]
  rw [e0]
  cases hs:U.sts[i]? with
  | none => exact ⟨rfl,fun V hV => by cases hV; exact hU⟩
  | some s =>
   simp only [Option.map_some]
   have hPs:P s:=hU s (List.mem_of_getElem? hs)
   have e1:zbk mkd' i (f s) (U.map f) = (zbk mkd i s U).map f:=by
    unfold zbk
    rw [h.mark s hPs]
    split <;> rfl
   obtain ⟨m1,m2⟩:=zb5 mkd i s U
   have hM:∀ t ∈ (zbk mkd i s U).sts,P t:=by rw [m1]; exact hU
   rw [e1]
   obtain ⟨h1,h2⟩:=zfK (lim:=lim) (i:=i) h hPs alpha (fun _ hx => hx) hM
   rw [h1]
   cases hV:zau eq lim step i s alpha (zbk mkd i s U) with
   | error e => exact ⟨rfl,fun V h => by cases h⟩
   | ok V =>
    simp only [zkt]
    exact ziL h n (i + 1) (h2 V hV)
theorem zre (h:Sim eq eq' step step' mkd mkd' P f alpha) {first:σ} (h0:P first):unfR eq' lim step' mkd' alpha (f first) = zkt f (unfR eq lim step mkd alpha first):=
 (ziL (lim:=lim) h 4097 0 (U:=unf0 first) (fun t ht => by rw [unf0,List.mem_singleton] at ht; subst ht; exact h0)).1
end
end Go.AI


namespace Go.AI
abbrev pk (x ev:Int):Value:=.agg ⟨[.int .i64 x,.int .i64 ev]⟩
def zfN (es:List Edg):List (Value × Int):=es.foldl (fun m e => mset m (pk e.1 e.2.1) e.2.2) []
theorem zud {a b:Int} {k:Value} (h:keyB (pk a b) k = true) (c d:Int):keyB (pk c d) k = (c == a && d == b):=by
 unfold keyB at h
 split at h
 ·rename_i heq; cases heq
 ·rename_i heq; cases heq
 ·rename_i heq
  simp only [Value.agg.injEq,Array.mk.injEq,List.cons.injEq,Value.int.injEq,and_true] at heq
  obtain ⟨⟨_,rfl⟩,_,rfl⟩:=heq
  simp only [Bool.and_eq_true,beq_iff_eq] at h
  obtain ⟨rfl,rfl⟩:=h
  rfl
 ·cases h
theorem ze6 {α:Type} (a b:Int) (v:α) (c d:Int):∀ m:List (Value × α),zbJ (mset m (pk a b) v) (pk c d) = if c = a ∧ d = b then some v else zbJ m (pk c d)
 | [] => by
  simp only [mset,zbJ]
  have:keyB (pk c d) (pk a b) = (c == a && d == b):=rfl
  rw [this]
  by_cases h:c = a ∧ d = b
  ·rw [if_pos h,h.1,h.2]; simp
  ·rw [if_neg h]
   have:(c == a && d == b) = false:=by
    rw [Bool.eq_false_iff]
    intro e
    simp only [Bool.and_eq_true,beq_iff_eq] at e
    exact h e
   rw [this]; rfl
 | (k,y) :: r => by
  simp only [mset]
  cases hk:keyB (pk a b) k with
  | true =>
   simp only [cond_true,zbJ]
   rw [zud hk,show keyB (pk c d) (pk a b) = (c == a && d == b) from rfl]
   by_cases h:c = a ∧ d = b
   ·rw [if_pos h,h.1,h.2]; simp
   ·rw [if_neg h]
    have:(c == a && d == b) = false:=by
     rw [Bool.eq_false_iff]
     intro e
     simp only [Bool.and_eq_true,beq_iff_eq] at e
     exact h e
    rw [this]; rfl
  | false =>
   simp only [cond_false,zbJ]
   rw [ze6 a b v c d r]
   by_cases h:c = a ∧ d = b
   ·rw [if_pos h,h.1,h.2,hk]; simp
   ·rw [if_neg h,if_neg h]
theorem ziP (x ev:Int):∀ (es:List Edg) (m:List (Value × Int)),es.Pairwise ltE → (∀ e ∈ es,0 ≤ e.2.2) →
  zbJ (es.foldl (fun m e => mset m (pk e.1 e.2.1) e.2.2) m) (pk x ev) = if 0 ≤ stp3 es x ev then some (stp3 es x ev) else zbJ m (pk x ev)
 | [],m,_,_ => by
  have:stp3 [] x ev = -1:=by unfold stp3; rfl
  rw [this]; rfl
 | e :: r,m,hp,ht => by
  rw [List.pairwise_cons] at hp
  rw [List.foldl_cons,ziP x ev r _ hp.2 fun e he => ht e (by simp [he]),ze6]
  have hs:stp3 (e :: r) x ev = if e.1 = x ∧ e.2.1 = ev then e.2.2 else stp3 r x ev:=by rw [stp3]
  by_cases c:e.1 = x ∧ e.2.1 = ev
  ·have h1:¬ 0 ≤ stp3 r x ev:=by
    intro h
    have:=hp.1 _ (zc5 h)
    unfold ltE at this
    simp only at this
    omega
   rw [hs,if_pos c,if_neg h1,if_pos ⟨c.1.symm,c.2.symm⟩,if_pos (ht e (by simp))]
  ·have h1:(if x = e.1 ∧ ev = e.2.1 then some e.2.2 else zbJ m (pk x ev)) = zbJ m (pk x ev):=if_neg fun h => c ⟨h.1.symm,h.2.symm⟩
   rw [hs,if_neg c,h1]
theorem zri {es:List Edg} (hp:es.Pairwise ltE) (ht:∀ e ∈ es,0 ≤ e.2.2) (x ev:Int):mhas (zfN es) (pk x ev) = decide (0 ≤ stp3 es x ev) ∧ (0 ≤ stp3 es x ev → zeF (zfN es) (pk x ev) = stp3 es x ev):=by
 have h:=ziP x ev es [] hp ht
 unfold mhas zeF zfN
 rw [h]
 by_cases c:0 ≤ stp3 es x ev
 ·rw [if_pos c,decide_eq_true c]; exact ⟨rfl,fun _ => rfl⟩
 ·rw [if_neg c,decide_eq_false c]; exact ⟨rfl,fun h => absurd h c⟩
theorem zpt (a b:Int) (v:Int):∀ {m:List (Value × Int)},(∀ p ∈ m,KK.ok (.pair .i64) p.1 = true) → ∀ p ∈ mset m (pk a b) v,KK.ok (.pair .i64) p.1 = true
 | [],_,p,hp => by
  simp only [mset,List.mem_singleton] at hp
  subst hp; rfl
 | (k,y) :: r,h,p,hp => by
  simp only [mset] at hp
  cases hk:keyB (pk a b) k with
  | true =>
   rw [hk,cond_true] at hp
   rcases List.mem_cons.1 hp with rfl | hp
   ·rfl
   ·exact h p (by simp [hp])
  | false =>
   rw [hk,cond_false] at hp
   rcases List.mem_cons.1 hp with rfl | hp
   ·exact h _ (by simp)
   ·exact zpt a b v (fun q hq => h q (by simp [hq])) p hp
theorem zrj (es:List Edg):∀ p ∈ zfN es,KK.ok (.pair .i64) p.1 = true:=by
 have:∀ (es:List Edg) (m:List (Value × Int)),(∀ p ∈ m,KK.ok (.pair .i64) p.1 = true) → ∀ p ∈ es.foldl (fun m e => mset m (pk e.1 e.2.1) e.2.2) m,KK.ok (.pair .i64) p.1 = true:=by
  intro es
  induction es with
  | nil => intro m h; exact h
  | cons e r ih => intro m h; exact ih _ (zpt _ _ _ h)
 exact this es [] (by simp)
section
variable {σ:Type} [DecidableEq σ] {mkd:σ → Bool} {al:List Int} {P:σ → Prop} {step:σ → Int → σ × Bool × Int} {V:Unf σ}
def unfA {σ:Type} (al:List Int) (V:Unf σ):Aut:=⟨al,V.sts.length,V.mkl,V.eds⟩
theorem zox {k:Nat} {s:σ} {x:Edg} (hx:x ∈ al.filterMap (eOf step V.sts k s)):x.1 = (k:Int) ∧ x.2.1 ∈ al ∧ (step s x.2.1).2.1 = true ∧ x.2.2 = (V.sts.findIdx (eqB (step s x.2.1).1):Nat):=by
 obtain ⟨ev,he,hx⟩:=List.mem_filterMap.1 hx
 unfold eOf at hx
 by_cases c:(step s ev).2.1 = true
 ·rw [if_pos c] at hx
  obtain rfl:=Option.some.inj hx
  exact ⟨rfl,he,c,rfl⟩
 ·rw [if_neg c] at hx; cases hx
theorem zlA (hU:UAt mkd al P step V.sts.length V) (hal:al.Pairwise (· < ·)):V.eds.Pairwise ltE:=by
 rw [hU.eds]
 refine zhV (fun i x hx => ?_) (fun i => ?_) _
 ·cases hs:V.sts[i]? with
  | none => rw [hs] at hx; cases hx
  | some s => rw [hs] at hx; exact (zox hx).1
 ·cases hs:V.sts[i]? with
  | none => exact .nil
  | some s =>
   refine List.Pairwise.filterMap _ (fun p q hpq x hx y hy => ?_) hal
   unfold eOf at hx hy
   by_cases cp:(step s p).2.1 = true
   ·by_cases cq:(step s q).2.1 = true
    ·rw [if_pos cp] at hx
     rw [if_pos cq] at hy
     obtain rfl:=Option.some.inj hx
     obtain rfl:=Option.some.inj hy
     exact hpq
    ·rw [if_neg cq] at hy; cases hy
   ·rw [if_neg cp] at hx; cases hx
theorem zhH (hU:UAt mkd al P step V.sts.length V) {x:Edg} (hx:x ∈ V.eds):∃ (k:Nat) (s:σ) (j:Nat),V.sts[k]? = some s ∧ x.1 = (k:Int) ∧ x.2.1 ∈ al ∧ (step s x.2.1).2.1 = true ∧ x.2.2 = (j:Int) ∧ V.sts[j]? = some (step s x.2.1).1:=by
 rw [hU.eds] at hx
 obtain ⟨k,hk,he⟩:=List.mem_flatMap.1 hx
 cases hs:V.sts[k]? with
 | none => rw [hs] at he; cases he
 | some s =>
  rw [hs] at he
  obtain ⟨h2,h3,h4,h5⟩:=zox he
  have hi:k < V.sts.length:=(List.getElem?_eq_some_iff.1 hs).1
  exact ⟨k,s,_,hs,h2,h3,h4,h5,zpJ ((hU.fine k s hi hs _ h3).2 h4)⟩
theorem zow (hU:UAt mkd al P step V.sts.length V) (hal:al.Pairwise (· < ·)) {i:Nat} {s:σ} {ev:Int} (hs:V.sts[i]? = some s) (hev:ev ∈ al) :
  ((step s ev).2.1 = false ∧ stp3 V.eds i ev = -1) ∨ ((step s ev).2.1 = true ∧ ∃ j:Nat,stp3 V.eds i ev = (j:Int) ∧ V.sts[j]? = some (step s ev).1):=by
 have hi:i < V.sts.length:=(List.getElem?_eq_some_iff.1 hs).1
 cases c:(step s ev).2.1 with
 | false =>
  refine .inl ⟨rfl,zhO fun e he hc => ?_⟩
  obtain ⟨k,t,j,h1,h2,h3,h4,_⟩:=zhH hU he
  have hki:k = i:=by have:=hc.1; omega
  subst hki
  rw [hs] at h1
  obtain rfl:=Option.some.inj h1
  rw [hc.2,c] at h4
  cases h4
 | true =>
  have hget:=zpJ ((hU.fine i s hi hs ev hev).2 c)
  refine .inr ⟨rfl,_,?_,hget⟩
  have hmem:((i:Int),ev,((V.sts.findIdx (eqB (step s ev).1):Nat):Int)) ∈ V.eds:=by
   rw [hU.eds]
   refine List.mem_flatMap.2 ⟨i,List.mem_range.2 hi,?_⟩
   rw [hs]
   refine List.mem_filterMap.2 ⟨ev,hev,?_⟩
   unfold eOf
   rw [if_pos c]
  exact zcP (zlA hU hal) hmem
theorem zrf (hU:UAt mkd al P step V.sts.length V) {N:Nat} (hN:al.length ≤ N):V.mkl.length ≤ V.sts.length ∧ V.eds.length ≤ N * V.sts.length:=by
 constructor
 ·rw [hU.mkl,List.length_map]
  exact Nat.le_trans (List.length_filter_le _ _) (by rw [List.length_range]; omega)
 ·rw [hU.eds]
  refine Nat.le_trans (zgF (N:=N) fun k _ => ?_) (by rw [List.length_range]; exact Nat.le_refl _)
  split
  ·simp
  ·exact Nat.le_trans (List.length_filterMap_le _ _) hN
theorem ztz (hU:UAt mkd al P step V.sts.length V) (hal:zak 32 al none = 0) (hn:V.sts.length ≤ 4096):gAut (unfA al V) V.sts.length:=by
 have hl:=zaX (by decide) hal
 have hs:=zar hal
 obtain ⟨l1,l2⟩:=zrf hU (N:=32) (by omega)
 have hlen:32 * V.sts.length ≤ 32 * 4096:=Nat.mul_le_mul_left _ hn
 refine ⟨rfl,⟨by show V.eds.length ≤ 1000000; omega,by show al.length ≤ 1000000; omega,by show V.mkl.length ≤ 1000000; omega⟩,zgQ hal ⟨by show (0:Int) ≤ (V.sts.length:Nat); omega,by show ((V.sts.length:Nat):Int) ≤ 4096; omega⟩ ?_ ?_⟩
 ·refine zbi ?_ (fun x hx => ?_) (by simp)
  ·show V.mkl.Pairwise (· < ·)
   rw [hU.mkl,List.pairwise_map]
   have:(List.range V.sts.length).Pairwise (· < ·):=List.pairwise_lt_range
   exact (this.filter _).imp fun {a b} h => by omega
  ·have hx:x ∈ V.mkl:=hx
   rw [hU.mkl] at hx
   obtain ⟨k,hk,rfl⟩:=List.mem_map.1 hx
   have:=List.mem_range.1 (List.mem_filter.1 hk).1
   show 0 ≤ (k:Int) ∧ (k:Int) < (V.sts.length:Nat)
   omega
 ·refine zeS (zlA hU hs.1) (fun x hx => ?_) (by simp)
  obtain ⟨k,s,j,h1,h2,h3,_,h5,h6⟩:=zhH hU hx
  have hk:=(List.getElem?_eq_some_iff.1 h1).1
  have hj:=(List.getElem?_eq_some_iff.1 h6).1
  show (0 ≤ x.1 ∧ x.1 < (V.sts.length:Nat)) ∧ (0 ≤ x.2.2 ∧ x.2.2 < (V.sts.length:Nat)) ∧ x.2.1 ∈ al
  exact ⟨by omega,by omega,h3⟩
end
def tupS:List Aut → List Int → Int → Option (List Int)
 | a :: l,x :: t,ev => if ev ∈ a.alpha then (if 0 ≤ stp3 a.edges x ev then (tupS l t ev).map (stp3 a.edges x ev :: ·) else none) else (tupS l t ev).map (x :: ·)
 | _,_,_ => some []
def ziQ (l:List Aut) (t:List Int) (ev:Int):List Int × Bool × Int:=((tupS l t ev).getD [],(tupS l t ev).isSome,0)
def tMk:List Aut → List Int → Bool
 | a :: l,x :: t => decide (x ∈ a.marked) && tMk l t
 | _,_ => true
def evL (l:List Aut):List Int:=l.foldl (fun o a => mrgR orK o a.alpha) []
def tup0 (l:List Aut):List Int:=l.map fun _ => 0
def tOk:List Aut → List Int → Prop
 | [],[] => True
 | a :: l,x :: t => (0 ≤ x ∧ x < a.states) ∧ tOk l t
 | _,_ => False
def zhL:List Aut → List (List Int)
 | [] => [[]]
 | a :: l => (List.range a.states.toNat).flatMap fun (x:Nat) => (zhL l).map fun t => (x:Int) :: t
def ztU (l:List Aut):Except Int (Unf (List Int)):=unfR eqB true (ziQ l) (tMk l) (evL l) (tup0 l)
theorem zfO:∀ {l:List Aut} {t:List Int},tOk l t → t.length = l.length
 | [],[],_ => rfl
 | a :: l,x :: t,h => by simp [zfO h.2]
 | [],_ :: _,h => h.elim
 | _ :: _,[],h => h.elim
theorem zlC:∀ {l:List Aut} {t:List Int},tOk l t → (∀ a ∈ l,a.states ≤ 64) → ∀ x ∈ t,0 ≤ x ∧ x < 64
 | [],[],_,_,x,hx => by cases hx
 | a :: l,y :: t,h,hl,x,hx => by
  rcases List.mem_cons.1 hx with rfl | hx
  ·have:=hl a (by simp); have:=h.1; omega
  ·exact zlC h.2 (fun b hb => hl b (by simp [hb])) x hx
 | [],_ :: _,h,_,_,_ => h.elim
 | _ :: _,[],h,_,_,_ => h.elim
theorem zgi:∀ {l:List Aut} {t:List Int},tOk l t → t ∈ zhL l
 | [],[],_ => by simp [zhL]
 | a :: l,x :: t,h => by
  simp only [zhL,List.mem_flatMap,List.mem_map]
  refine ⟨x.toNat,List.mem_range.2 (by have:=h.1; omega),t,zgi h.2,?_⟩
  have:=h.1
  rw [show ((x.toNat:Nat):Int) = x by omega]
 | [],_ :: _,h => h.elim
 | _ :: _,[],h => h.elim
theorem zoB:∀ {l:List Aut},(∀ a ∈ l,0 < a.states) → tOk l (tup0 l)
 | [],_ => trivial
 | a :: l,h => ⟨⟨Int.le_refl _,h a (by simp)⟩,zoB fun b hb => h b (by simp [hb])⟩
theorem zhM:∀ {l:List Aut} {t:List Int} {ev:Int} {n:List Int},(∀ a ∈ l,chkA a = 0) → tOk l t → tupS l t ev = some n → tOk l n
 | [],[],ev,n,_,_,e => by simp only [tupS,Option.some.injEq] at e; subst e; trivial
 | a :: l,x :: t,ev,n,hc,h,e => by
  simp only [tupS] at e
  by_cases c:ev ∈ a.alpha
  ·rw [if_pos c] at e
   by_cases c2:0 ≤ stp3 a.edges x ev
   ·rw [if_pos c2] at e
    obtain ⟨m,hm,rfl⟩:=Option.map_eq_some_iff.1 e
    exact ⟨(zdd (hc a (by simp))).2.1 _ (zc5 c2),zhM (fun b hb => hc b (by simp [hb])) h.2 hm⟩
   ·rw [if_neg c2] at e; cases e
  ·rw [if_neg c] at e
   obtain ⟨m,hm,rfl⟩:=Option.map_eq_some_iff.1 e
   exact ⟨h.1,zhM (fun b hb => hc b (by simp [hb])) h.2 hm⟩
 | [],_ :: _,_,_,_,h,_ => h.elim
 | _ :: _,[],_,_,_,h,_ => h.elim
theorem zrP {l:List Aut} (hc:∀ a ∈ l,chkA a = 0) (hV:(zhL l).length < 4096):Fin1 (ziQ l) eqB true (tOk l):=
 ⟨fun s ev hs hp => by
  show tOk l ((tupS l s ev).getD [])
  have hp:(tupS l s ev).isSome = true:=hp
  cases e:tupS l s ev with
  | none => rw [e] at hp; cases hp
  | some n => exact zhM hc hs e,fun _ _ _ _ => rfl,fun _ m h1 h2 => Nat.lt_of_le_of_lt (zbl h2 fun s hs => zgi (h1 s hs)) hV⟩
theorem ztb:∀ (l:List Aut) (o:List Int),o.Pairwise (· < ·) → (∀ x ∈ o,0 ≤ x ∧ x < 32) → (∀ a ∈ l,chkA a = 0) →
  (l.foldl (fun o a => mrgR orK o a.alpha) o).Pairwise (· < ·) ∧ (∀ x ∈ l.foldl (fun o a => mrgR orK o a.alpha) o,0 ≤ x ∧ x < 32) ∧ ∀ x,x ∈ l.foldl (fun o a => mrgR orK o a.alpha) o ↔ x ∈ o ∨ ∃ a ∈ l,x ∈ a.alpha
 | [],o,h1,h2,_ => ⟨h1,h2,by simp⟩
 | a :: l,o,h1,h2,hc => by
  have ha:=zar (zaK (hc a (by simp))).1
  have hm:=zpv h1 ha.1
  obtain ⟨e1,e2,e3⟩:=ztb l (mrgR orK o a.alpha) (zbN orK _ o a.alpha (Nat.le_refl _) h1 ha.1).2.1 (fun x hx => by
   rcases (hm x).1 hx with hx | hx
   ·exact h2 x hx
   ·exact ha.2.1 x hx) (fun b hb => hc b (by simp [hb]))
  refine ⟨e1,e2,fun x => ?_⟩
  rw [List.foldl_cons,e3,hm]
  simp only [List.mem_cons,exists_eq_or_imp,or_assoc]
theorem zuq {l:List Aut} (hc:∀ a ∈ l,chkA a = 0):zak 32 (evL l) none = 0:=
 have h:=ztb l [] .nil (by simp) hc
 zbi h.1 h.2.1 (by simp)
end Go.AI


namespace Go.AI
open Go.Proofs
set_option maxRecDepth 20000
abbrev autM (a:Aut):List I:=[zbu a.alpha,vi a.states,zbu a.marked,.sl 3 a.edges.length (a.edges.map edgI)]
abbrev auts (l:List Aut):D:=.i (.sl 4 l.length (l.map autM))
def zeT:List Aut → Int
 | [] => 0
 | a :: l => if chkA a ≠ 0 then chkA a else zeT l
theorem zqx (O:List Heap) (l:List Aut) (hl:l.length ≤ 12) (hs:∀ a ∈ l,smallA a):zan Tryz.prog 78 [auts l] O (ii (zeT l)) [] O:=by
 obtain ⟨R,hR⟩:∃ R,R = zeT (l.drop 0):=⟨_,rfl⟩
 have e0:zeT l = R:=hR.symm
 rw [e0]
 refine zat [] Tk Tryz.func78 rfl Tryz.call78 Tryz.ntmps78 (Nat.le_of_ble_eq_true rfl) fun E => ?_
 refine zae Tk Tryz.func78 ?_
 refine zai Tk Tryz.func78 rfl (fun h => absurd h (by simp; omega)) (fun _ => ?_)
 refine zac ?_
 refine zah (fun i:Nat => [(9,auts l),(10,ii l.length),(11,ii i)]) (fun _ => []) (fun _ => O) 21
  (fun i => i ≤ l.length ∧ R = zeT (l.drop i)) (fun i => l.length - i) 0 ⟨Nat.zero_le _,hR⟩ ⟨rfl,rfl,rfl,trivial⟩ rfl trivial rfl rfl ?_
 clear hR e0
 rintro i ⟨hi,hno⟩ ih
 refine zae Tk Tryz.func78 ?_
 refine zai Tk Tryz.func78 rfl (fun g1 => ?_) (fun g1 => ?_)
 ·have h2:i < l.length:=by simpa using g1
  have gl:(l.map autM)[(i:Int).toNat]? = some (autM l[i]):=zaj h2
  have dl:l.drop i = l[i] :: l.drop (i + 1):=List.drop_eq_getElem_cons h2
  have ha:=hs _ (List.getElem_mem h2)
  rw [dl] at hno
  simp only [zeT] at hno
  clear dl
  generalize l[i] = a at *
  have h1:=fun O => zfG O a (by have:=ha.ed; simp only [zas]; omega) (by have:=ha.al; simp only [zas]; omega) (by have:=ha.mkd; simp only [zas]; omega)
  obtain ⟨al,st,mk,es⟩:=a
  generalize chkA ⟨al,st,mk,es⟩ = c0 at *
  refine zag Tk Tryz.func78 (by exact ⟨by omega,by show (i:Int) < (l.length:Int); omega⟩) ?_
  refine zap Tk Tryz.func78 (gl) ?_
  refine zaf Tk Tryz.func78 (h1 _) rfl rfl rfl rfl rfl ?_
  refine zai Tk Tryz.func78 rfl (fun c1 => ?_) (fun c1 => ?_)
  ·have c1:c0 ≠ 0:=bneT c1
   rw [if_pos c1] at hno
   subst hno
   refine zal Tk (r:=ii R) rfl rfl rfl trivial rfl rfl ?_
   rfl
  ·have c1:c0 = 0:=bneF c1
   rw [if_neg (fun h => h c1)] at hno
   refine zac ?_
   exact ih (i + 1) _ _ ⟨h2,hno⟩ (by omega) ⟨rfl,rfl,congrArg ii (zaB (n:=4096) (by omega) (by decide)),trivial⟩ rfl trivial rfl rfl
 ·have h2:l.length ≤ i:=by simpa using g1
  rw [List.drop_eq_nil_of_le h2] at hno
  simp only [zeT] at hno
  subst hno
  refine zal Tk (r:=ii 0) rfl rfl rfl trivial rfl rfl ?_
  rfl
theorem zfc {l:List Aut} {i:Nat} (h:i < l.length):(l.map autM)[(i:Int).toNat]? = some (autM l[i]):=zaj h
theorem zqf (O:List Heap) (l:List Aut) (hl:l.length ≤ 12) (hc:∀ a ∈ l,chkA a = 0):zan Tryz.prog 132 [auts l] O (ints (evL l)) [] O:=by
 obtain ⟨R,hR⟩:∃ R,R = (l.drop 0).foldl (fun o a => mrgR orK o a.alpha) []:=⟨_,rfl⟩
 have e0:evL l = R:=hR.symm
 rw [e0]
 refine zat [] Tk Tryz.func132 rfl Tryz.call132 Tryz.ntmps132 (Nat.le_of_ble_eq_true rfl) fun E => ?_
 refine zae Tk Tryz.func132 ?_
 refine zac ?_
 refine zao (zb4 3 99 3 1 rfl rfl rfl) ?_
 refine zao (zam 99 rfl rfl) ?_
 refine zah (fun x:Nat × List Int => [(3,ints x.2),(6,auts l),(7,ii l.length),(8,ii x.1)]) (fun _ => []) (fun _ => O) 18
  (fun x => x.1 ≤ l.length ∧ x.2.Pairwise (· < ·) ∧ x.2.length ≤ 32 * x.1 ∧ R = (l.drop x.1).foldl (fun o a => mrgR orK o a.alpha) x.2) (fun x => l.length - x.1) (0,[]) ⟨Nat.zero_le _,.nil,Nat.le_refl _,hR⟩ ⟨rfl,rfl,rfl,rfl,trivial⟩ rfl trivial rfl rfl ?_
 clear hR e0
 rintro ⟨i,o⟩ ⟨hi,hp,hol,hno⟩ ih
 simp only at hi hp hol hno
 refine zae Tk Tryz.func132 ?_
 refine zai Tk Tryz.func132 rfl (fun g1 => ?_) (fun g1 => ?_)
 ·have h2:i < l.length:=by simpa using g1
  have gl:=zfc h2
  have dl:l.drop i = l[i] :: l.drop (i + 1):=List.drop_eq_getElem_cons h2
  have ha:=hc _ (List.getElem_mem h2)
  rw [dl,List.foldl_cons] at hno
  clear dl
  generalize l[i] = a at *
  obtain ⟨c1,_⟩:=zaK ha
  have hal:=zaX (by decide) c1
  have hms:=zbN orK _ o a.alpha (Nat.le_refl _) hp (zar c1).1
  have h1:=fun O => zrd O o a.alpha (by omega) (by omega)
  generalize mrgR orK o a.alpha = o2 at *
  obtain ⟨al,st,mk,es⟩:=a
  refine zag Tk Tryz.func132 (by exact ⟨by omega,by show (i:Int) < (l.length:Int); omega⟩) ?_
  refine zap Tk Tryz.func132 (gl) ?_
  refine zaf Tk Tryz.func132 (h1 _) rfl rfl rfl rfl rfl ?_
  refine zac ?_
  exact ih (i + 1,o2) _ _ ⟨h2,hms.2.1,by have:=hms.2.2; simp only at this ⊢; omega,hno⟩ (by simp only; omega) ⟨rfl,rfl,rfl,congrArg ii (zaB (n:=4096) (by omega) (by decide)),trivial⟩ rfl trivial rfl rfl
 ·have h2:l.length ≤ i:=by simpa using g1
  rw [List.drop_eq_nil_of_le h2,List.foldl_nil] at hno
  subst hno
  refine zal Tk (r:=ints R) rfl rfl rfl trivial rfl rfl ?_
  rfl
abbrev znB (l:List Aut) (ev:List Int) (M:List (List I)):D:=.agg [auts l,ints ev,.i (.sl 1 M.length M)]
theorem znF (O:List Heap) (l:List Aut) (ev:List Int) (M:List (List I)) (hl:l.length ≤ 12) (h0:¬ ∀ a ∈ l,a.states ≠ 0):zan Tryz.prog 80 [znB l ev M] O (.tup [.i (.v (.slice none 0 0)),bb false]) [] O:=by
 have h0:¬ ∀ a ∈ l.drop 0,a.states ≠ 0:=h0
 refine zat [] Tk Tryz.func80 rfl Tryz.call80 Tryz.ntmps80 (Nat.le_of_ble_eq_true rfl) fun E => ?_
 refine zae Tk Tryz.func80 ?_
 refine zac ?_
 refine zah (fun i:Nat => [(7,auts l),(8,ii l.length),(9,ii i)]) (fun _ => []) (fun _ => O) 21
  (fun i => i ≤ l.length ∧ ¬ ∀ a ∈ l.drop i,a.states ≠ 0) (fun i => l.length - i) 0 ⟨Nat.zero_le _,h0⟩ ⟨rfl,rfl,rfl,trivial⟩ rfl trivial rfl rfl ?_
 clear h0
 rintro i ⟨hi,hno⟩ ih
 refine zae Tk Tryz.func80 ?_
 refine zai Tk Tryz.func80 rfl (fun g1 => ?_) (fun g1 => ?_)
 ·have h2:i < l.length:=by simpa using g1
  have gl:=zfc h2
  have dl:l.drop i = l[i] :: l.drop (i + 1):=List.drop_eq_getElem_cons h2
  rw [dl] at hno
  clear dl
  generalize l[i] = a at *
  obtain ⟨al,st,mk,es⟩:=a
  refine zag Tk Tryz.func80 (by exact ⟨by omega,by show (i:Int) < (l.length:Int); omega⟩) ?_
  refine zap Tk Tryz.func80 (gl) ?_
  refine zai Tk Tryz.func80 rfl (fun c1 => ?_) (fun c1 => ?_)
  ·refine zal Tk (r:=.tup [.i (.v (.slice none 0 0)),bb false]) rfl rfl rfl trivial rfl rfl ?_
   rfl
  ·have c1:st ≠ 0:=beqF c1
   refine zac ?_
   refine ih (i + 1) _ _ ⟨h2,fun h => hno fun a ha => ?_⟩ (by omega) ⟨rfl,rfl,congrArg ii (zaB (n:=4096) (by omega) (by decide)),trivial⟩ rfl trivial rfl rfl
   rcases List.mem_cons.1 ha with rfl | ha
   ·exact c1
   ·exact h a ha
 ·have h2:l.length ≤ i:=by simpa using g1
  rw [List.drop_eq_nil_of_le h2] at hno
  exact absurd (by simp) hno
theorem zpH (O:List Heap) (l:List Aut) (ev:List Int) (M:List (List I)) (hl:l.length ≤ 12) (h0:∀ a ∈ l,a.states ≠ 0):zan Tryz.prog 80 [znB l ev M] O (.tup [ints (tup0 l),bb true]) [] O:=by
 refine zat [7] Tk Tryz.func80 rfl Tryz.call80 Tryz.ntmps80 (Nat.le_of_ble_eq_true rfl) fun E => ?_
 refine zae Tk Tryz.func80 ?_
 refine zac ?_
 refine zah (fun i:Nat => [(1,.own 0 1 0 0),(7,auts l),(8,ii l.length),(9,ii i)]) (fun _ => [(1,.box [auts l,ints ev,.i (.sl 1 M.length M)])]) (fun _ => O) 21
  (fun i => i ≤ l.length) (fun i => l.length - i) 0 (Nat.zero_le _) ⟨rfl,rfl,rfl,rfl,trivial⟩ rfl ⟨rfl,trivial⟩ rfl rfl ?_
 rintro i hi ih
 refine zae Tk Tryz.func80 ?_
 refine zai Tk Tryz.func80 rfl (fun g1 => ?_) (fun g1 => ?_)
 ·have h2:i < l.length:=by simpa using g1
  have gl:=zfc h2
  have ha:=h0 _ (List.getElem_mem h2)
  generalize l[i] = a at *
  obtain ⟨al,st,mk,es⟩:=a
  refine zag Tk Tryz.func80 (by exact ⟨by omega,by show (i:Int) < (l.length:Int); omega⟩) ?_
  refine zap Tk Tryz.func80 (gl) ?_
  refine zai Tk Tryz.func80 rfl (fun c1 => ?_) (fun c1 => ?_)
  ·exact absurd (beqT c1) ha
  ·refine zac ?_
   exact ih (i + 1) _ _ h2 (by omega) ⟨rfl,rfl,rfl,congrArg ii (zaB (n:=4096) (by omega) (by decide)),trivial⟩ rfl ⟨rfl,trivial⟩ rfl rfl
 ·refine zax ?_
  refine zae Tk Tryz.func80 ?_
  refine g_go Tk Tryz.func80 ?_
  refine zag Tk Tryz.func80 (by exact ⟨by omega,by omega,by show ((l.length:Nat):Int) * ((8:Nat):Int) ≤ 140737488355328; omega,by omega⟩) ?_
  refine zcJ (zam 20 rfl rfl) ?_
  refine zal Tk (r:=.tup [.i (.sl 1 ((l.length:Nat):Int).toNat (List.replicate ((l.length:Nat):Int).toNat [vi 0])),bb true]) rfl rfl rfl trivial rfl rfl ?_
  have e1:(tup0 l).length = l.length:=by simp [tup0]
  have e2:(tup0 l).map (fun x => [vi x]) = List.replicate l.length [vi 0]:=by
   unfold tup0
   rw [List.map_map]
   exact List.map_const' ..
  show D.tup [.i (.sl 1 _ _),_] = .tup [.i (.sl 1 (tup0 l).length ((tup0 l).map fun x => [vi x])),_]
  rw [e1,e2,Int.toNat_natCast]
theorem zr1 (O:List Heap) (l:List Aut) (ev:List Int) (M:List (List I)) (t:List Int) (hl:l.length ≤ 12) (ht:t.length = l.length) (hc:∀ a ∈ l,chkA a = 0) (hs:∀ a ∈ l,smallA a):zan Tryz.prog 82 [znB l ev M,ints t] O (bb (tMk l t)) [] O:=by
 obtain ⟨R,hR⟩:∃ R,R = tMk (l.drop 0) (t.drop 0):=⟨_,rfl⟩
 have e0:tMk l t = R:=hR.symm
 rw [e0]
 refine zat [] Tk Tryz.func82 rfl Tryz.call82 Tryz.ntmps82 (Nat.le_of_ble_eq_true rfl) fun E => ?_
 refine zae Tk Tryz.func82 ?_
 refine zac ?_
 refine zah (fun i:Nat => [(1,ints t),(8,auts l),(9,ii l.length),(10,ii i)]) (fun _ => []) (fun _ => O) 24
  (fun i => i ≤ l.length ∧ R = tMk (l.drop i) (t.drop i)) (fun i => l.length - i) 0 ⟨Nat.zero_le _,hR⟩ ⟨rfl,rfl,rfl,rfl,trivial⟩ rfl trivial rfl rfl ?_
 clear hR e0
 rintro i ⟨hi,hno⟩ ih
 refine zae Tk Tryz.func82 ?_
 refine zai Tk Tryz.func82 rfl (fun g1 => ?_) (fun g1 => ?_)
 ·have h2:i < l.length:=by simpa using g1
  have h3:i < t.length:=by omega
  have gl:=zfc h2
  have gt:(t.map fun x => [vi x])[(i:Int).toNat]? = some [vi t[i]]:=zaj (f:=fun x => [vi x]) h3
  have dl:l.drop i = l[i] :: l.drop (i + 1):=List.drop_eq_getElem_cons h2
  have dt:t.drop i = t[i] :: t.drop (i + 1):=List.drop_eq_getElem_cons h3
  have ha:=hc _ (List.getElem_mem h2)
  have ha2:=hs _ (List.getElem_mem h2)
  rw [dl,dt] at hno
  simp only [tMk] at hno
  clear dl dt
  generalize l[i] = a at *
  generalize t[i] = x at *
  obtain ⟨_,_,c3,_⟩:=zaK ha
  have hsm:=ha2.mkd
  have h1:=fun O => zdY O a.marked x (by simp only [zas]; omega) (zar c3).1
  obtain ⟨al,st,mk,es⟩:=a
  generalize decide (x ∈ Aut.marked ⟨al,st,mk,es⟩) = b at *
  refine zag Tk Tryz.func82 (by exact ⟨by omega,by show (i:Int) < (l.length:Int); omega⟩) ?_
  refine zap Tk Tryz.func82 (gl) ?_
  refine zaD Tk Tryz.func82 zaN rfl ?_
  refine zaz Tk (by exact ⟨by omega,by show (i:Int) < (t.length:Int); omega⟩) ?_
  refine zaJ Tk (gt) ?_
  refine za2 Tk (fun _ => h1 _) rfl rfl rfl ?_
  refine zaS Tk Tryz.func82 (by kernel_rfl) ?_
  refine zai Tk Tryz.func82 rfl (fun c1 => ?_) (fun c1 => ?_)
  ·have c1:b = false:=notT c1
   subst c1
   rw [Bool.false_and] at hno
   subst hno
   refine zal Tk (r:=bb false) rfl rfl rfl trivial rfl rfl ?_
   rfl
  ·have c1:b = true:=notF c1
   subst c1
   rw [Bool.true_and] at hno
   refine zac ?_
   exact ih (i + 1) _ _ ⟨h2,hno⟩ (by omega) ⟨rfl,rfl,rfl,congrArg ii (zaB (n:=4096) (by omega) (by decide)),trivial⟩ rfl trivial rfl rfl
 ·have h2:l.length ≤ i:=by simpa using g1
  rw [List.drop_eq_nil_of_le h2] at hno
  simp only [tMk] at hno
  subst hno
  refine zal Tk (r:=bb true) rfl rfl rfl trivial rfl rfl ?_
  rfl
end Go.AI


namespace Go.AI
open Go.Proofs
def zuI (ts:List (Nat × Obj)) (O:List Heap) (ρ:Nat → Nat → Loc) (w:World):Prop:=∀ p ∈ ts,TabQ p.1 p.2 O ρ w
def TabsE (ts:List (Nat × Obj)) (E:Env) (O:List Heap):Prop:=∀ p ∈ ts,TabE p.1 p.2 E O
theorem Base.trans {E0 E E':Env} {O:List Heap} (h:Base E0 E O) (h':Base E E' O):Base E0 E' O:=by
 refine ⟨Kn.le_trans h.K h'.K,fun d => (h'.ρ d).trans (h.ρ d),fun b hp => h'.pr b (h.pr b hp),fun b o x e => ?_,Nat.le_trans h.size h'.size,fun b hp ho => ?_,⟨h'.rest.1.trans h.rest.1,h'.rest.2.1.trans h.rest.2.1,h'.rest.2.2.trans h.rest.2.2⟩⟩
 ·rcases h'.new b o x e with h1 | h1
  ·exact h.new b o x h1
  ·exact .inr fun hp => h1 (h.pr b hp)
 ·rw [h'.old b (h.pr b hp) fun dep nm ob e hb => ?_]
  ·exact h.old b hp ho
  ·have e2:E.ρ0 dep = E0.ρ0 dep:=h.ρ dep
   rw [e2] at hb ⊢
   exact ho dep nm ob e hb
theorem TabsE.base {ts:List (Nat × Obj)} {E E':Env} {O:List Heap} (h:TabsE ts E O) (hb:Base E E' O):TabsE ts E' O:=fun p hp => hb.eok.tb p.1 p.2 O rfl (h p hp)
def zm8 (ts:List (Nat × Obj)) (P:Program) (f:FuncId) (args:List D) (O:List Heap) (res:D) (Hr:Heap) (O':List Heap):Prop:=
 ∀ E K ρ w vs,HInv E K ρ O w → zuI ts O ρ w → RepDL K ρ (shape O) vs args →
  Exec P f vs.toArray w fun v w' => ∃ K' ρ',HInv (.of K ρ w) K' ρ' (Hr :: O') w' ∧ RepD K' ρ' (shape (Hr :: O')) v res
def zuJ {α:Type} (ts:List (Nat × Obj)) (P:Program) (f:FuncId) (args:List D) (O:List Heap) (Q:α → Prop) (res:α → D) (tabs:α → List (Nat × Obj)):Prop:=
 ∀ E K ρ w vs,HInv E K ρ O w → zuI ts O ρ w → RepDL K ρ (shape O) vs args →
  Exec P f vs.toArray w fun v w' => ∃ x,Q x ∧ (∃ K' ρ',HInv (.of K ρ w) K' ρ' ([] :: O) w' ∧ RepD K' ρ' (shape ([] :: O)) v (res x)) ∧ ∀ p ∈ tabs x,w.heap.size ≤ p.1 ∧ w'.heap[p.1]? = some p.2
def zvF {α:Type} (E0:Env) (Q:α → Prop) (res:α → D) (tabs:α → List (Nat × Obj)) (O:List Heap):Value → World → Prop:=fun v w' => ∃ x,Q x ∧ zck E0 (res x) [] O v w' ∧ ∀ p ∈ tabs x,¬ E0.pr p.1 ∧ w'.heap[p.1]? = some p.2
section
variable {P:Program} {T:TT} {f:FuncId} {fn:Func} {code:Code}
theorem zjw {args:List D} {O:List Heap} {K:Kn} {ρ ρ1:Nat → Nat → Loc} {w:World} {vs:List Value} {n m:Nat} (hI:HInv (.of K ρ w) K ρ1 ([] :: O) w) (hρ1:∀ d,ρ1 (d + 1) = ρ d) (hrep:RepDL K ρ (shape O) vs args) (hn:m = n) (hlen:args.length ≤ n) :
  Inv (.of K ρ w) K ρ1 { σ:=argσ 0 (D.shifts 1 args),S:=[] :: O,n:=n } { tmps:=vs.toArray ++ Array.replicate (m - vs.toArray.size) undef,defers:=[] } w:=by
 have hvl:=hrep.length
 refine ⟨hI,rfl,by simp; omega,fun t d e => ?_⟩
 rw [zdy] at e
 simp only [Nat.zero_le,if_true,Nat.sub_zero] at e
 have hsh:RepDL K ρ1 (shape ([] :: O)) vs (D.shifts 1 args):=by
  refine RepDL.shift (ρ:=ρ1) (sh:=shape ([] :: O)) 1 ?_
  have e1:(fun d n => ρ1 (1 + d) n) = ρ:=by funext d n; rw [Nat.add_comm,hρ1]
  have e2:(fun d n => shape ([] :: O) (1 + d) n) = shape O:=by
   funext d n
   rw [Nat.add_comm]
   simp [shape,zaa]
  rw [e1,e2]
  exact hrep
 obtain ⟨y,hy,hr⟩:=hsh.get e
 have:(vs.toArray ++ Array.replicate (m - vs.toArray.size) undef).getD t undef = y:=by
  have hlt:t < vs.length:=(List.getElem?_eq_some_iff.1 hy).1
  simp only [Array.getD_eq_getD_getElem?]
  rw [Array.getElem?_append_left (by simpa using hlt)]
  simp [hy]
 rw [this]
 exact hr
theorem zhb {ts:List (Nat × Obj)} {O:List Heap} {K:Kn} {ρ:Nat → Nat → Loc} {w:World} (h:zuI ts O ρ w):TabsE ts (.of K ρ w) O:=fun p hp => ⟨h p hp,(Array.getElem?_eq_some_iff.1 (h p hp).1).1⟩
theorem zkL {ts:List (Nat × Obj)} (stop:List Nat) (hT:TOk P T) (hf:P.funcs[f]? = some fn) (hb:fn.body = some code) (hcall:∀ args w,(callFunc f args).run P w = .ok (.enter f args) w) {args:List D} {O O':List Heap} {res:D} {Hr:Heap} {n:Nat}
  (hn:fn.ntmps = n) (hlen:args.length ≤ n)
  (h:∀ E,TabsE ts E O → Rch { P:=P,T:=T,E:=E,f:=f,fn:=fn,post:=zck E res Hr O',stop:=stop } [.code code] { σ:=argσ 0 (D.shifts 1 args),S:=[] :: O,n:=n }):zm8 ts P f args O res Hr O':=by
 intro E K ρ w vs hw htab hrep
 refine .inl ⟨hcall _ _,fun cs => ?_⟩
 obtain ⟨ρ1,hρ1,hI⟩:=zcu hw
 let b:Frame:={ (default:Frame) with fn:=f,kind:=.normal }
 have henter:Frame.enter P f vs.toArray .normal = b.at { tmps:=vs.toArray ++ Array.replicate (fn.ntmps - vs.toArray.size) undef,defers:=[] } [.code code]:=by
  simp [Frame.enter,Frame.at,hf,hb,b]
 obtain ⟨v,w',fr,hp,hst,hfr,hlv⟩:=h (.of K ρ w) (zhb htab) K ρ1 _ w b cs (zjw hI hρ1 hrep hn hlen) rfl rfl
 rw [← henter] at hst
 exact ⟨.returned v,w',fr,⟨v,rfl,hp⟩,hst,hfr,hlv⟩
theorem znG {α:Type} (Q:α → Prop) (res:α → D) (tabs:α → List (Nat × Obj)) {ts:List (Nat × Obj)} (stop:List Nat) (hT:TOk P T) (hf:P.funcs[f]? = some fn) (hb:fn.body = some code) (hcall:∀ args w,(callFunc f args).run P w = .ok (.enter f args) w) {args:List D} {O:List Heap} {n:Nat}
  (hn:fn.ntmps = n) (hlen:args.length ≤ n)
  (h:∀ E,TabsE ts E O → Rch { P:=P,T:=T,E:=E,f:=f,fn:=fn,post:=zvF E Q res tabs O,stop:=stop } [.code code] { σ:=argσ 0 (D.shifts 1 args),S:=[] :: O,n:=n }):zuJ ts P f args O Q res tabs:=by
 intro E K ρ w vs hw htab hrep
 refine .inl ⟨hcall _ _,fun cs => ?_⟩
 obtain ⟨ρ1,hρ1,hI⟩:=zcu hw
 let b:Frame:={ (default:Frame) with fn:=f,kind:=.normal }
 have henter:Frame.enter P f vs.toArray .normal = b.at { tmps:=vs.toArray ++ Array.replicate (fn.ntmps - vs.toArray.size) undef,defers:=[] } [.code code]:=by
  simp [Frame.enter,Frame.at,hf,hb,b]
 obtain ⟨v,w',fr,⟨x,hx,hp,ht⟩,hst,hfr,hlv⟩:=h (.of K ρ w) (zhb htab) K ρ1 _ w b cs (zjw hI hρ1 hrep hn hlen) rfl rfl
 rw [← henter] at hst
 exact ⟨.returned v,w',fr,⟨v,rfl,x,hx,hp,fun p hp => ⟨Nat.le_of_not_lt (ht p hp).1,(ht p hp).2⟩⟩,hst,hfr,hlv⟩
end
section
variable {c:Cx} {s:St} {k:List Item} {ops:Array Oper} {rest:List Nat} {o:Oper}
theorem zpT (hT:TOk c.P c.T) (hfn:c.P.funcs[c.f]? = some c.fn) {α:Type} {Q:α → Prop} {res:α → D} {tabs:α → List (Nat × Obj)} {ts:List (Nat × Obj)} {O0:List Heap} (htab:TabsE ts c.E O0) {i t:Nat} {f:FuncId} {args:List D} {H:Heap} {O:List Heap} (hS:s.S = H :: O) (hO:shape O = shape O0)
  (ho:ops[i]? = some o) (hg:o.guard = none) (hd:o.dst = some t) (hn:Nat.ble (t + 1) s.n = true) (hex:exec c.T s o = .call f args) (hspec:zuJ ts c.P f (D.imms H args) (H :: O) Q res tabs)
  (h:∀ x E3,Q x → Base c.E E3 O → TabsE (tabs x) E3 O → (∀ p ∈ tabs x,¬ c.E.pr p.1) → GM { c with E:=E3 } (run c.T c.stop 1000 (.inRegion ops rest :: k) (znd s t (res x).down (H :: O)))):GM c (.pause ops i rest o s k):=by
 refine ⟨?_⟩
 intro K ρ a w hi
 simp only [wpOps,ho,za7 hi (show zav ops s o = some true by unfold zav; rw [hg]),if_true]
 have hsnd:=zfE hT hi.h (.inl hd) fun x _ => hi.ev x
 rw [hex] at hsnd
 obtain ⟨vs,hrun,hrep⟩:=hsnd
 have hh:=hi.h
 have hrep':=RepDL.imm hh hrep
 rw [hS] at hh hrep'
 refine .inl ?_
 have fin:∀ v w',(∃ x,Q x ∧ (∃ K' ρ',HInv (.of K ρ w) K' ρ' ([] :: H :: O) w' ∧ RepD K' ρ' (shape ([] :: H :: O)) v (res x)) ∧ ∀ p ∈ tabs x,w.heap.size ≤ p.1 ∧ w'.heap[p.1]? = some p.2) → wpOps c.P ops (fun e a' w' => e = .normal ∧ Ends c k a' w') rest (a.put o.dst v) w':=by
  intro v w' ⟨x,hx,⟨K',ρ',h1,h2⟩,h3⟩
  obtain ⟨ρ'',hI,hst,hdn⟩:=hh.back h1 rfl (fun nm h => by simp [look] at h)
  have e0:(zcb [] ++ H) :: O = H :: O:=rfl
  rw [e0] at hI hst hdn
  have hlt:∀ b,(∃ p ∈ tabs x,p.1 = b) → b < w'.heap.size:=by
   rintro b ⟨p,hp,rfl⟩
   exact (Array.getElem?_eq_some_iff.1 (h3 p hp).2).1
  have hblk:∀ d nm ob,zaa (H :: O) d nm = some ob → zaq (ρ'' d nm) ob → (ρ'' d nm).block < w.heap.size:=by
   intro d nm ob e hbk
   have el:ρ'' d nm = ρ d nm:=hst.loc d nm ob.sh (by simp [shape,e])
   rw [el] at hbk ⊢
   have:=hh.own d nm ob e
   exact this.lt (by simpa using hbk)
  have hfree:∀ nm ob b,(∃ p ∈ tabs x,p.1 = b) → zaa (H :: O) 0 nm = some ob → zaq (ρ'' 0 nm) ob → (ρ'' 0 nm).block ≠ b:=by
   rintro nm ob b ⟨p,hp,rfl⟩ e hbk he
   have:=hblk 0 nm ob e hbk
   have:=(h3 p hp).1
   omega
  have hR:=hI.rebase hlt hfree
  have hB:=zqC hI (Base.refl c.E O) hlt
  have hTb:TabsE (tabs x) (reE c.E K' w' (fun b => ∃ p ∈ tabs x,p.1 = b) hlt hI.size) O:=by
   intro p hp
   refine ⟨⟨(h3 p hp).2,fun d nm sh e hbk he => ?_⟩,.inr ⟨p,hp,rfl⟩⟩
   have ho2:ρ'' (d + 1) = c.E.ρ0 d:=hI.outer d
   have hρ:(reE c.E K' w' (fun b => ∃ p ∈ tabs x,p.1 = b) hlt hI.size).ρ0 d nm = ρ'' (d + 1) nm:=by rw [ho2]; rfl
   rw [hρ] at hbk he
   unfold shape at e
   cases hob:zaa O d nm with
   | none => simp [hob] at e
   | some ob =>
    simp only [hob,Option.map_some,Option.some.injEq] at e
    subst e
    have:=hblk (d + 1) nm ob (by simpa [zaa] using hob) (zfm.2 hbk)
    have:=(h3 p hp).1
    omega
  have hnp:∀ p ∈ tabs x,¬ c.E.pr p.1:=fun p hp hpr => by
   have:=c.E.lt _ hpr
   have:=hh.size
   have:=(h3 p hp).1
   omega
  have hG:=(h x _ hx hB hTb hnp).h
  have hk:=zaF (c:={ c with E:=reE c.E K' w' (fun b => ∃ p ∈ tabs x,p.1 = b) hlt hI.size }) hT hfn 1000 (.inRegion ops rest :: k) _ hG
  rw [zfz] at hk
  refine hk K' ρ'' _ w' ?_
  rw [hd]
  refine ⟨hR,by simp [Act.put]; exact hi.defers,by simp [Act.put]; exact hi.size,fun t' d' e' => ?_⟩
  rw [zbp (by rw [hi.size]; exact Nat.le_of_ble_eq_true hn)]
  simp only [zab] at e'
  split at e'
  ·rename_i e2
   simp only [Option.some.injEq] at e'
   subst e'
   rw [if_pos e2]
   exact h2.down hdn
  ·rename_i e2
   rw [if_neg e2]
   have h4:=hi.slots _ _ e'
   rw [hS] at h4
   exact h4.stays hst
 rcases hspec c.E K ρ w vs hh (fun p hp => zeY (htab p hp) hO hh) hrep' with ⟨h1,h2⟩ | ⟨v,w',h1,h2⟩
 ·rw [h1] at hrun
  simp only [Oper.wp,hrun,Oper.upon]
  refine h2.mono ?_
  rintro e w' ⟨v,rfl,hR⟩
  exact fin v w' hR
 ·rw [h1] at hrun
  simp only [Oper.wp,hrun,Oper.upon]
  exact fin v w' h2
theorem zvn (hT:TOk c.P c.T) {α:Type} {Q:α → Prop} {res:α → D} {tabs:α → List (Nat × Obj)} {E0:Env} {d r:D} {H:Heap} {O:List Heap} (x:α) (hx:Q x) (hb:Base E0 c.E O) (hp:c.post = zvF E0 Q res tabs O) (htab:TabsE (tabs x) c.E O) (hnp:∀ p ∈ tabs x,¬ E0.pr p.1)
  (hd:resD c.T s c.fn.results.toList = some d) (hS:s.S = H :: O) (hr:d.ret H [] = r) (he:CoD r (res x)):GM c (.ret s):=by
 refine ⟨?_⟩
 have h:=zie (c:={ c with post:=zck c.E (res x) [] O }) (Hr:=[]) (hT:=hT) rfl hd hS trivial hr rfl he
 intro K ρ a w hi
 obtain ⟨v,hv,K',ρ',h1,h2⟩:=h K ρ a w hi
 refine ⟨v,hv,?_⟩
 rw [hp]
 have hh:=hi.h
 rw [hS] at hh
 exact ⟨x,hx,⟨K',ρ',h1.unbase hb,h2⟩,fun p hp => ⟨hnp p hp,(zeY (htab p hp) rfl hh).1⟩⟩
end
section
variable {c:Cx} {s:St} {k:List Item} {ops:Array Oper} {rest:List Nat} {o:Oper} {H:Heap} {O:List Heap}
def zlv (ob:Obj) (m:MC):Prop:=∃ es ck,ob = .map es ck ∧ es.toList.map (fun e => (e.key,e.val)) = m.vals
theorem zsd {K:Kn} {ρ:Nat → Nat → Loc} {a:Act} {w:World} {E:Env} {nm t:Nat} {kk:KK} {m:MC} (hi:Inv E K ρ s a w) (hS:s.S = H :: O) (ho:look H nm = some (.mp kk m)) (ht:look s.σ t = some (.osl 0 nm)) :
  ∃ E' b ob,Base E E' O ∧ TabE b ob E' O ∧ ¬ E.pr b ∧ zlv ob m ∧ Inv E' K ρ { σ:=(t,.i (.v (.map (some b)))) :: zd2 nm s.σ,S:=zaT nm H :: O,n:=s.n } a w:=by
 have hh:=hi.h
 rw [hS] at hh
 have ho':zaa (H :: O) 0 nm = some (.mp kk m):=by simpa [zaa] using ho
 have h0:=hh.own 0 nm _ ho'
 have hD:=hh.dropNm nm
 have hbk:zaq (ρ 0 nm) (.mp kk m):=trivial
 obtain ⟨⟨es,ck,h1,h2,h3⟩,h4⟩:=id h0
 have hlt:∀ b,b = (ρ 0 nm).block → b < w.heap.size:=by rintro b rfl; exact h0.lt hbk
 have hfree:∀ nm' ob b,b = (ρ 0 nm).block → zaa (zaT nm H :: O) 0 nm' = some ob → zaq (ρ 0 nm') ob → (ρ 0 nm').block ≠ b:=by
  rintro nm' ob b rfl e hb he
  obtain ⟨o0,a1,a2,a3,_⟩:=zcC e
  exact a2 (hh.inj _ _ _ _ _ _ a1 ho' ((a3 _).1 hb) hbk he)
 have hI:=hD.rebase hlt hfree
 have hB:=zqC hD (Base.refl E O) hlt
 refine ⟨_,(ρ 0 nm).block,.map es ck,hB,⟨⟨h1,fun d nm' sh e hb he => ?_⟩,.inr rfl⟩,hh.loc nm _ ho' hbk,⟨es,ck,rfl,h2⟩,hI,hi.defers,hi.size,fun t' d e => ?_⟩
 ·have ho2:ρ (d + 1) = E.ρ0 d:=hh.outer d
  have hρ:(reE E K w (fun b => b = (ρ 0 nm).block) hlt hD.size).ρ0 d nm' = ρ (d + 1) nm':=by rw [ho2]; rfl
  rw [hρ] at hb he
  unfold shape at e
  cases hob:zaa O d nm' with
  | none => simp [hob] at e
  | some ob =>
   simp only [hob,Option.map_some,Option.some.injEq] at e
   subst e
   have:=hh.inj (d + 1) nm' ob 0 nm _ (by simpa [zaa] using hob) ho' (zfm.2 hb) hbk he
   omega
 ·have hsl:∀ t' d0,look s.σ t' = some d0 → RepD K ρ (shape (zaT nm H :: O)) (a.tmps.getD t' undef) (d0.kill nm):=by
   intro t' d0 e0
   have h1:=hi.slots t' d0 e0
   rw [hS] at h1
   exact RepD.kill (zfH (ρ:=ρ) (H:=H) (O:=O) nm) h1
  simp only [zab] at e
  split at e
  ·rename_i e2
   subst e2
   simp only [Option.some.injEq] at e
   subst e
   have h1:=hi.slots t _ ht
   rw [hS] at h1
   rw [zkj h1 (by simp [shape,zaa,ho,Ob.sh])]
   exact .i (.v rfl)
  ·rw [zbX] at e
   cases hl:look s.σ t' with
   | none => simp [hl] at e
   | some d0 =>
    simp only [hl,Option.map_some,Option.some.injEq] at e
    subst e
    exact hsl _ _ hl
theorem zjY {todo:List Item} {nm:Nat} {kk:KK} {m:MC} (t:Nat) (hS:s.S = H :: O) (ho:look H nm = some (.mp kk m)) (ht:look s.σ t = some (.osl 0 nm))
  (h:∀ E' b ob,Base c.E E' O → TabE b ob E' O → ¬ c.E.pr b → zlv ob m → Rch { c with E:=E' } todo { σ:=(t,.i (.v (.map (some b)))) :: zd2 nm s.σ,S:=zaT nm H :: O,n:=s.n }):Rch c todo s:=by
 intro K ρ a w b cs hi h1 h2
 obtain ⟨E',bl,ob,hB,hT,hn,hm,hi'⟩:=zsd hi hS ho ht
 exact h E' bl ob hB hT hn hm K ρ a w b cs hi' h1 h2
end
section
variable {c:Cx} {ops:Array Oper} {O:List Heap} {n:Nat} {F:SH → List Pl → Prop}
def zpB (k:IntKind) (l:List (Value × Int)) (key:Value) (ok:Bool):D:=bif ok then .tup [.i (.v (.int k (zeF l key))),.i (.v (.bool (mhas l key)))] else .i (.v (.int k (zeF l key)))
theorem zjR {P:Program} {w:World} {tm kt vt b:Nat} {ki vi:TI} {kk:KK} {k:IntKind} {l:List (Value × Int)} {ob:Obj} {key:Value} (hu:P.underlying tm = some (.map kt vt)) (hk:TIok P kt ki) (hv:TIok P vt vi) (hkk:ki.isKK kk = true) (hkey:kk.ok key = true) (hz:vi.zero = [.int k 0]) (ha:vi.k.agg = false)
  (hb:w.heap[b]? = some ob) (hm:zlv ob (.i k l)) (hl:∀ p ∈ l,kk.ok p.1 = true) (ok:Bool):∃ v,(Instr.lookup tm (.map (some b)) key ok).run P w = .ok v w ∧ ∀ K ρ sh,RepD K ρ sh v (zpB k l key ok):=by
 obtain ⟨es,ck,rfl,he⟩:=hm
 have hm':∀ p ∈ (MC.i k l).vals,kk.ok p.1 = true:=by
  intro p hp
  obtain ⟨q,hq,rfl⟩:=List.mem_map.1 hp
  exact hl q hq
 have hr:=ze1 (P:=P) (w:=w) hu hk hv hkk hkey hz ha hb he hm' ok
 have hlk:=zc9 (fun n:Int => Value.int k n) l key 0
 have hg:((zaZ (MC.vals (.i k l)) key 0).map (·.2)).getD (.int k 0) = .int k (zeF l key):=by
  show ((zaZ (l.map fun p => (p.1,Value.int k p.2)) key 0).map (·.2)).getD _ = _
  rw [hlk]
  unfold zeF
  cases zbJ l key <;> rfl
 have hs:(zaZ (MC.vals (.i k l)) key 0).isSome = mhas l key:=by
  show (zaZ (l.map fun p => (p.1,Value.int k p.2)) key 0).isSome = _
  have:=congrArg Option.isSome hlk
  simpa [mhas] using this
 rw [hg,hs] at hr
 cases ok with
 | true => exact ⟨_,hr,fun K ρ sh => .tup (.cons (za5 rfl) (.cons (za5 rfl) .nil))⟩
 | false => exact ⟨_,hr,fun K ρ sh => za5 rfl⟩
theorem znf {o:Oper} {v:SH} {t tm kt vt b:Nat} {px pi:Operand} {ok:Bool} {ti ki vi:TI} {kk:KK} {k:IntKind} {l:List (Value × Int)} {ob:Obj} {key:Value} (hT:TOk c.P c.T) (hw:zav ops (St.of O n v) o = some true) (ht:o.dst = some t) (hn:Nat.ble (t + 1) n = true) (hop:o.op = .lookup tm px pi ok)
  (hx:evD (St.of O n v) px = .i (.v (.map (some b)))) (hi:(evD (St.of O n v) pi).keyOf = some key) (htab:TabE b ob c.E O) (hm:zlv ob (.i k l))
  (h1:look c.T tm = some ti) (hk1:ti.k = .map kt vt) (h2:look c.T kt = some ki) (h3:look c.T vt = some vi) (hkk:ki.isKK kk = true) (hkey:kk.ok key = true) (hz:vi.zero = [.int k 0]) (ha:vi.k.agg = false) (hl:∀ p ∈ l,kk.ok p.1 = true) :
  zdg c ops O n o v (.one t (zpB k l key ok)):=by
 refine .inr ⟨hw,fun E hE K ρ a w hi' next Qe hnx => ?_⟩
 have hu:c.P.underlying tm = some (.map kt vt):=by have:=(hT _ _ h1).kind; rw [hk1] at this; exact this
 have rx:=hi'.ev px
 rw [hx] at rx
 have ri:=hi'.ev pi
 have evx:=zaM rx
 have evi:=zgu hi ri
 have hh:HInv E K ρ (v.2 :: O) w:=hi'.h
 have hb:=(zeY (hE.tb b ob O rfl htab) rfl hh).1
 obtain ⟨val,hrun,hrep⟩:=zjR (P:=c.P) (w:=w) hu (hT _ _ h2) (hT _ _ h3) hkk hkey hz ha hb hm hl ok
 have hex:(execOp a.eval o).run c.P w = .ok (.value val) w:=by
  simp only [execOp,hop,evx,evi,hrun,Sem.run_bind,Result.andThen_ok,Sem.run_pure]
 simp only [Oper.wp,hex,Oper.upon]
 refine hnx val w [(t,zpB k l key ok)] K ρ (Kn.le_refl _) (fun _ _ _ _ e => ⟨e,rfl⟩) ⟨hh,by rw [ht]; simp [Act.put]; exact hi'.defers,by rw [ht]; simp [Act.put]; exact hi'.size,fun t' d' e => ?_⟩ fun t' d' e => .inr e
 obtain ⟨rfl,rfl⟩:=zaP e
 rw [ht,zbp (by rw [hi'.size]; exact Nat.le_of_ble_eq_true hn),if_pos rfl]
 exact hrep _ _ _
theorem zwb {o:Oper} {rest:List Oper} {x:SH} {acc:List Pl} {lo:List Oper} {t i N tm kt vt b:Nat} {px pi:Operand} {ok:Bool} {ti ki vi:TI} {kk:KK} {k:IntKind} {l:List (Value × Int)} {ob:Obj} {key:Value} (hT:TOk c.P c.T) (htab:TabE b ob c.E O) (hm:zlv ob (.i k l)) (hl:∀ p ∈ l,kk.ok p.1 = true) (hlo:lo = o :: rest) (hN:acc.length = N)
  (hw:zav ops (St.of O n (zaA ops o x)) o = some true) (ht:o.dst = some t) (hn:Nat.ble (t + 1) n = true) (hop:o.op = .lookup tm px pi ok)
  (hx:evD (St.of O n (zaA ops o x)) px = .i (.v (.map (some b)))) (hi:(evD (St.of O n (zaA ops o x)) pi).keyOf = some key)
  (h1:look c.T tm = some ti) (hk1:ti.k = .map kt vt) (h2:look c.T kt = some ki) (h3:look c.T vt = some vi) (hkk:ki.isKK kk = true) (hkey:kk.ok key = true) (hz:vi.zero = [.int k 0]) (ha:vi.k.agg = false)
  (h:GE c ops O n F (runS c.T ops O n i rest (setX x t (zpB k l key ok)) (acc ++ [.one t (zpB k l key ok)]))):GE c ops O n (SegF c ops O n F N lo) (.done x acc):=by
 subst hlo
 exact ⟨⟨hN,zeo (znf hT hw ht hn hop hx hi htab hm h1 hk1 h2 h3 hkk hkey hz ha hl) (zaY hT rest i _ _ h.h)⟩⟩
end
end Go.AI


namespace Go.AI
open Go.Proofs
theorem znU {ts:List (Nat × Obj)} {c:Cx} {s:St} {o:Oper} {Q:St → Prop} {f:FuncId} {args:List D} {res:D} {Hr H':Heap} {O0 O':List Heap} {t:Nat} (htab:TabsE ts c.E O0)
  (hspec:zm8 ts c.P f (D.imms (zen s.S) args) s.S res Hr (H' :: O')) (ht:o.dst = some t) (hn:t < s.n) {H:Heap} {O:List Heap} (hS:s.S = H :: O) (hO:shape O = shape O0) (hsh:shape (H' :: O') = shape s.S) (hf:∀ nm,look Hr nm ≠ none → look H' nm = none)
  (hq:Q { σ:=(t,res.down) :: s.σ,S:=(zcb Hr ++ H') :: O',n:=s.n }):Does c o s Q (.call f args):=by
 intro K ρ a w hi ⟨vs,hrun,hrep⟩ next Qe hnext
 have hh:=hi.h
 have hrep':=RepDL.imm hh hrep
 rw [hS] at hspec hsh hh hrep'
 have fin:∀ v w',(∃ K' ρ',HInv (.of K ρ w) K' ρ' (Hr :: H' :: O') w' ∧ RepD K' ρ' (shape (Hr :: H' :: O')) v res) → next (a.put o.dst v) w':=by
  intro v w' ⟨K',ρ',h1,h2⟩
  obtain ⟨ρ'',hI,hst,hdn⟩:=hh.back h1 hsh hf
  refine hnext _ _ _ _ _ hst.le (fun d n x _ e => ⟨hst.shp _ _ _ (by rw [hS] at e; exact e),hst.loc _ _ _ (by rw [hS] at e; exact e)⟩) ?_ hq
  rw [ht]
  refine zcf hi hn hI ?_ (h2.down hdn)
  rw [hS]; exact hst
 rcases hspec c.E K ρ w vs hh (fun p hp => zeY (htab p hp) hO hh) hrep' with ⟨h1,h2⟩ | ⟨v,w',h1,h2⟩
 ·rw [h1] at hrun
  simp only [Oper.wp,hrun,Oper.upon]
  refine h2.mono ?_
  rintro e w' ⟨v,rfl,hR⟩
  exact fin v w' hR
 ·rw [h1] at hrun
  simp only [Oper.wp,hrun,Oper.upon]
  exact fin v w' h2
section
variable {c:Cx} {ops:Array Oper} {O:List Heap} {n:Nat} {F:SH → List Pl → Prop} {o:Oper} {rest:List Oper} {x:SH} {acc:List Pl} {i:Nat}
theorem zoY (hT:TOk c.P c.T) {ts:List (Nat × Obj)} {O0:List Heap} (htab:TabsE ts c.E O0) {f:FuncId} {args:List D} {res:D} {Hr:Heap} {t:Nat} (hspec:zm8 ts c.P f (D.imms (zaA ops o x).2 args) ((zaA ops o x).2 :: O) res Hr ((zaA ops o x).2 :: O)) (ht:o.dst = some t) (hn:Nat.ble (t + 1) n = true)
  (hO:shape O = shape O0) (hf:zbS Hr x.2 = true) (h:GE c ops O n F (runS c.T ops O n (i + 1) rest (newX x t res.down (zcb Hr)) (acc ++ [⟨[(t,res.down)],zcb Hr,none⟩]))) :
  GE c ops O n F (.at i o rest x acc (.call f args)):=by
 refine ⟨fun hro => ⟨⟨[(t,res.down)],zcb Hr,none⟩,(zin hro).symm,fun E hE => ?_,zaY hT rest _ _ _ h.h⟩⟩
 refine znU (c:={ c with E:=E }) (s:=vw ops O n o x) (H':=(zaA ops o x).2) (O':=O) (H:=(zaA ops o x).2) (O:=O) (fun p hp => hE.tb p.1 p.2 O0 hO (htab p hp)) hspec ht (Nat.le_of_ble_eq_true hn) rfl hO rfl (zb8 (zgz zhF hf)) ⟨rfl,rfl,fun t' d' e => ?_⟩
 obtain ⟨rfl,rfl⟩:=zaP e
 exact .inr (.inl (by simp [zab]))
end
theorem zse {c:Cx} {s:St} (hT:TOk c.P c.T) {E0:Env} {res d r:D} {H:Heap} {O:List Heap} (hb:Base E0 c.E O) (hp:c.post = zck E0 res [] O) (hd:resD c.T s c.fn.results.toList = some d) (hS:s.S = H :: O) (hr:d.ret H [] = r)
  (he:CoD r res):GM c (.ret s):=by
 refine ⟨?_⟩
 have h:=zie (c:={ c with post:=zck c.E res [] O }) (Hr:=[]) (hT:=hT) rfl hd hS trivial hr rfl he
 intro K ρ a w hi
 obtain ⟨v,hv,K',ρ',h1,h2⟩:=h K ρ a w hi
 refine ⟨v,hv,?_⟩
 rw [hp]
 exact ⟨K',ρ',h1.unbase hb,h2⟩
end Go.AI


namespace Go.AI
open Go.Proofs
set_option maxRecDepth 20000
def zdZ (l:List Int):ByteArray:=⟨(keyL [] l).toArray⟩
theorem zrg {a b:List Int} (ha:∀ x ∈ a,0 ≤ x ∧ x < 64) (hb:∀ x ∈ b,0 ≤ x ∧ x < 64) (h:zdZ a = zdZ b):a = b:=by
 unfold zdZ at h
 rw [zii,zii] at h
 simp only [ByteArray.mk.injEq,List.nil_append] at h
 have h:encL a = encL b:=by
  have:=congrArg Array.toList h
  simpa using this
 exact (zjx ha hb (u:=[]) (v:=[]) (by rw [h])).1
theorem zvS {g:Nat} (hg:zfx g) {ty:TypeId} {fr:Nat × Nat} (O:List Heap) (l:List Int) (h0:l ≠ []) (hn:l.length ≤ 4096) (hl:∀ v ∈ l,0 ≤ v ∧ v < 64) :
  ASpecT g (ptab ty fr) Tryz.prog 81 [ints l] O (.i (.v (.string (zdZ l)))) [] O:=by
 have hno:zdZ l = ⟨(keyL [] (l.drop 0)).toArray⟩:=rfl
 have hpos:0 < l.length:=List.length_pos_iff.2 h0
 generalize zdZ l = R at *
 refine zaU [200003,200014,200015,200017] Tk Tryz.func81 rfl Tryz.call81 Tryz.ntmps81 (Nat.le_of_ble_eq_true rfl) fun E hE => ?_
 refine zae Tk Tryz.func81 ?_
 refine g_tb Tk Tryz.func81 rfl rfl rfl rfl rfl rfl rfl rfl ?_
 refine zac ?_
 refine zao (zlx 3 60 5 1 rfl rfl rfl) ?_
 refine zah (fun x:Nat × List UInt8 × Bool => [(3,.own 0 3 0 0),(6,ints l),(7,ii l.length),(8,ii x.1)]) (fun x => [(3,.tb 217 [dp3 x.2.2,.osl 0 60]),(60,oby x.2.1)]) (fun _ => O) 18
  (fun x => x.1 ≤ l.length ∧ x.2.1.length ≤ 22 * x.1 ∧ (x.1 = 0 ∨ x.2.1 ≠ []) ∧ R = ⟨(keyL x.2.1 (l.drop x.1)).toArray⟩) (fun x => l.length - x.1) (0,[],false)
  ⟨Nat.zero_le _,by simp,.inl rfl,hno⟩ ⟨rfl,rfl,rfl,rfl,trivial⟩ rfl ⟨rfl,rfl,trivial⟩ rfl rfl ?_
 clear hno
 rintro ⟨k,U,q⟩ ⟨hk,hUl,hT0,hF⟩ ih2
 simp only at hk hUl hT0 hF
 refine zae Tk Tryz.func81 ?_
 refine zai Tk Tryz.func81 rfl (fun g2 => ?_) (fun g2 => ?_)
 ·have h3:k < l.length:=by simpa using g2
  clear g2
  have gl:(l.map fun x => [vi x])[(k:Int).toNat]? = some [vi l[k]]:=zaj (f:=fun x => [vi x]) h3
  have dl:l.drop k = l[k] :: l.drop (k + 1):=List.drop_eq_getElem_cons h3
  have hv:=hl _ (List.getElem_mem h3)
  rw [dl] at hF
  simp only [keyL] at hF
  clear dl
  generalize l[k] = n at *
  have hz:=znC (n:=n) (by omega) (by omega)
  have hk1:ii (IntKind.i64.wrap ((k:Int) + 1)) = ii ((k + 1:Nat):Int):=congrArg ii (zaB (n:=4096) (by omega) (by decide))
  refine zag Tk Tryz.func81 (by exact ⟨by omega,by show (k:Int) < (l.length:Int); omega⟩) ?_
  refine zap Tk Tryz.func81 (gl) ?_
  refine zbf Tk Tryz.func81 hE (zvg hg _ n (by omega) (by omega)) rfl rfl rfl rfl rfl rfl ?_
  generalize zkd n = W at *
  refine zdB Tk Tryz.func81 rfl rfl rfl rfl (zut rfl W U (ztg q) (by omega) rfl (show 14 < 18 by decide) rfl rfl rfl (by decide)) ?_
  refine zdB Tk Tryz.func81 rfl rfl rfl rfl (zuv rfl 32 (U ++ W.data.toList) (.inr rfl) (by rw [List.length_append,zfS]; omega) rfl (show 15 < 18 by decide) rfl rfl rfl (by decide)) ?_
  refine zac ?_
  refine ih2 (k + 1,U ++ W.data.toList ++ [32],true) _ _ ⟨h3,by simp only [List.length_append,zfS,List.length_singleton]; omega,.inr (by simp),hF⟩ (by simp only; omega) ⟨rfl,rfl,rfl,hk1,trivial⟩ rfl ⟨rfl,rfl,trivial⟩ rfl rfl
 ·have h3:l.length ≤ k:=by simpa using g2
  rw [List.drop_eq_nil_of_le h3] at hF
  simp only [keyL] at hF
  subst hF
  have hT0:U ≠ []:=hT0.resolve_left (by omega)
  refine zdB Tk Tryz.func81 rfl rfl rfl rfl (zqp rfl hT0 rfl (show 17 < 18 by decide) rfl rfl rfl) ?_
  refine zal Tk (r:=.i (.v (.string ⟨U.toArray⟩))) rfl rfl rfl trivial rfl rfl ?_
  rfl
abbrev Tb:=Nat × Obj
abbrev tbM (bs:List Tb):List (List I):=bs.map fun b => [I.v (.map (some b.1))]
structure tbOk (l:List Aut) (bs:List Tb):Prop where
 len:bs.length = l.length
 is:∀ (i:Nat) a b,l[i]? = some a → bs[i]? = some b → zlv b.2 (.i .i64 (zfN a.edges))
theorem zuQ (O:List Heap) (l:List Aut) (ev:List Int) (bs:List Tb) (t:List Int) (e:Int) (hl:l.length ≤ 12) (ht:t.length = l.length) (hc:∀ a ∈ l,chkA a = 0) (hbs:tbOk l bs) :
  zm8 bs Tryz.prog 83 [znB l ev (tbM bs),ints t,ii e] O (.tup [(match tupS l t e with | some n => ints n | none => .i (.v (.slice none 0 0))),bb (tupS l t e).isSome]) [] O:=by
 have hR:tupS l t e = (tupS (l.drop 0) (t.drop 0) e).map (([]:List Int) ++ ·):=by simp
 obtain ⟨R,hRR⟩:∃ R,R = tupS l t e:=⟨_,rfl⟩
 rw [← hRR] at hR ⊢
 clear hRR
 have hcl:=fun O => zuA 14 O t (by simp only [big]; omega)
 have hbl:=hbs.len
 refine zkL [11] Tk Tryz.func83 rfl Tryz.call83 Tryz.ntmps83 (Nat.le_of_ble_eq_true rfl) fun E hE => ?_
 refine zae Tk Tryz.func83 ?_
 refine zaf Tk Tryz.func83 (hcl _) rfl rfl rfl rfl rfl ?_
 refine zac ?_
 refine zah (fun x:Nat × List Int => [(1,ints t),(2,ii e),(3,.own 0 3 0 0),(8,.osl 0 14),(16,auts l),(17,ii l.length),(18,ii x.1)])
  (fun x => [(3,.box [auts l,ints ev,.i (.sl 1 (tbM bs).length (tbM bs))]),(14,zaw (x.2 ++ t.drop x.1))]) (fun _ => O) 51
  (fun x => x.1 ≤ l.length ∧ x.2.length = x.1 ∧ R = (tupS (l.drop x.1) (t.drop x.1) e).map (x.2 ++ ·)) (fun x => l.length - x.1) (0,[]) ⟨Nat.zero_le _,rfl,hR⟩ ⟨rfl,rfl,rfl,rfl,rfl,rfl,rfl,trivial⟩ rfl ⟨rfl,rfl,trivial⟩ rfl rfl ?_
 clear hR
 rintro ⟨i,pre⟩ ⟨hi,hp,hno⟩ ih
 simp only at hi hp hno
 have hj1:ii (IntKind.i64.wrap ((i:Int) + 1)) = ii ((i + 1:Nat):Int):=congrArg ii (zaB (n:=4096) (by omega) (by decide))
 refine zae Tk Tryz.func83 ?_
 refine zai Tk Tryz.func83 rfl (fun g1 => ?_) (fun g1 => ?_)
 ·have h2:i < l.length:=by simpa using g1
  have h3:i < t.length:=by omega
  have h4:i < bs.length:=by omega
  have gl:=zfc h2
  have gt:(t.map fun x => [vi x])[(i:Int).toNat]? = some [vi t[i]]:=zaj (f:=fun x => [vi x]) h3
  have gb:(tbM bs)[(i:Int).toNat]? = some [I.v (.map (some bs[i].1))]:=zaj (f:=fun b:Tb => [I.v (.map (some b.1))]) h4
  have hm:=hbs.is i _ _ (List.getElem?_eq_getElem h2) (List.getElem?_eq_getElem h4)
  have htb:=hE _ (List.getElem_mem h4)
  have dl:l.drop i = l[i] :: l.drop (i + 1):=List.drop_eq_getElem_cons h2
  have dt:t.drop i = t[i] :: t.drop (i + 1):=List.drop_eq_getElem_cons h3
  have ha:=hc _ (List.getElem_mem h2)
  rw [dt]
  rw [dl,dt] at hno
  simp only [tupS] at hno
  clear dl dt
  generalize l[i] = a at *
  generalize t[i] = x at *
  generalize bs[i] = b at *
  obtain ⟨b1,b2⟩:=b
  obtain ⟨c1,_,_,c4⟩:=zaK ha
  have hal:=zaX (by decide) c1
  have h1:=fun O => zdY O a.alpha e (by simp only [zas]; omega) (zar c1).1
  obtain ⟨hlk,hlg⟩:=zri (zbh c4).1 (fun x hx => ((zdd ha).2.1 x hx).1) x e
  obtain ⟨al,st,mk,es⟩:=a
  simp only at hlk hlg h1 hno hm
  generalize stp3 es x e = s at *
  refine zag Tk Tryz.func83 (by exact ⟨by omega,by show (i:Int) < (l.length:Int); omega⟩) ?_
  refine zap Tk Tryz.func83 (gl) ?_
  refine zaf Tk Tryz.func83 (h1 _) rfl rfl rfl rfl rfl ?_
  have happ:∀ y,zaw ((pre ++ [y]) ++ t.drop (i + 1)) = zaw (pre ++ y :: t.drop (i + 1)):=fun y => by rw [List.append_assoc]; rfl
  refine zai Tk Tryz.func83 rfl (fun d1 => ?_) (fun d1 => ?_)
  ·have d1:e ∉ al:=of_decide_eq_false (notT d1)
   rw [if_neg d1,Option.map_map] at hno
   refine zac ?_
   refine ih (i + 1,pre ++ [x]) _ _ ⟨h2,by simp [hp],?_⟩ (by simp only; omega) ⟨rfl,rfl,rfl,rfl,rfl,rfl,hj1,trivial⟩ rfl ⟨rfl,congrArg some (happ x).symm,trivial⟩ rfl rfl
   rw [hno]
   congr 1
   funext z
   simp
  have d1:e ∈ al:=of_decide_eq_true (notF d1)
  rw [if_pos d1] at hno
  refine znH Tk 11 zaN rfl (by decide) ?_
  refine zaz Tk (by exact ⟨by omega,by show (i:Int) < ((bs.map fun b => [I.v (.map (some b.1))]).length:Int); rw [List.length_map]; omega⟩) ?_
  refine zaJ Tk (gb) ?_
  refine zaz Tk (by exact ⟨by omega,by show (i:Int) < (t.length:Int); omega⟩) ?_
  refine zaJ Tk (gt) ?_
  refine zwb (i:=12) (ti:=ziD) (ki:=zkO) (vi:=zhE) (kk:=.pair .i64) (k:=.i64) (l:=zfN es) (key:=pk x e) Tk htb hm (zrj es) rfl rfl rfl rfl rfl rfl rfl rfl rfl rfl rfl rfl rfl rfl rfl rfl ?_
  refine zaS Tk Tryz.func83 (by kernel_rfl) ?_
  refine zai Tk Tryz.func83 rfl (fun d2 => ?_) (fun d2 => ?_)
  ·have d2:mhas (zfN es) (pk x e) = false:=notT d2
   rw [hlk] at d2
   have d2:¬ 0 ≤ s:=of_decide_eq_false d2
   rw [if_neg d2] at hno
   subst hno
   refine zal Tk (r:=.tup [.i (.v (.slice none 0 0)),bb false]) rfl rfl rfl trivial rfl rfl ?_
   rfl
  have d2:mhas (zfN es) (pk x e) = true:=notF d2
  rw [hlk] at d2
  have d2:0 ≤ s:=of_decide_eq_true d2
  rw [if_pos d2,Option.map_map] at hno
  have hg:=hlg d2
  generalize zeF (zfN es) (pk x e) = mg at *
  subst hg
  refine zag Tk Tryz.func83 (by exact ⟨by omega,by show (i:Int) < ((pre ++ x :: t.drop (i + 1)).length:Int); rw [List.length_append]; simp; omega⟩) ?_
  have hset:((pre ++ x :: t.drop (i + 1)).map fun x => [vi x]).set i [vi mg] = (pre ++ mg :: t.drop (i + 1)).map fun x => [vi x]:=by
   rw [List.map_append,List.set_append,if_neg (by rw [List.length_map]; omega),List.length_map,hp,Nat.sub_self]
   simp
  refine zac ?_
  refine ih (i + 1,pre ++ [mg]) _ _ ⟨h2,by simp [hp],?_⟩ (by simp only; omega) ⟨rfl,rfl,rfl,rfl,rfl,rfl,hj1,trivial⟩ rfl ⟨rfl,?_,trivial⟩ rfl rfl
  ·rw [hno]
   congr 1
   funext z
   simp
  ·rw [happ mg]
   show some (Ob.arr 3 1 (pre ++ x :: t.drop (i + 1)).length (((pre ++ x :: t.drop (i + 1)).map fun x => [vi x]).set (i:Int).toNat [vi mg]) true) = some (zaw (pre ++ mg :: t.drop (i + 1)))
   rw [Int.toNat_natCast,hset]
   have e1:(pre ++ x :: t.drop (i + 1)).length = (pre ++ mg :: t.drop (i + 1)).length:=by simp
   rw [e1]
 ·have h2:l.length ≤ i:=by simpa using g1
  rw [List.drop_eq_nil_of_le h2,List.drop_eq_nil_of_le (by omega)] at hno
  rw [List.drop_eq_nil_of_le (by omega),List.append_nil]
  simp only [tupS,Option.map_some,List.append_nil] at hno
  subst hno
  refine zax ?_
  refine zao (zam 14 rfl rfl) ?_
  refine zae Tk Tryz.func83 ?_
  refine g_go Tk Tryz.func83 ?_
  refine zal Tk (r:=.tup [ints pre,bb true]) rfl rfl rfl trivial rfl rfl ?_
  rfl
abbrev zvO (m:List (Value × Int)):Ob:=.mp (.pair .i64) (.i .i64 m)
theorem zrh {l:List Aut} {bs:List Tb} {i:Nat} {a:Aut} {b:Tb} (h:tbOk (l.take i) bs) (hi:i < l.length) (ha:l[i]? = some a) (hb:zlv b.2 (.i .i64 (zfN a.edges))):tbOk (l.take (i + 1)) (bs ++ [b]):=by
 have hl:=h.len
 rw [List.length_take,Nat.min_eq_left (by omega)] at hl
 refine ⟨by rw [List.length_append,List.length_singleton,hl,List.length_take,Nat.min_eq_left (by omega)],fun k a' b' h1 h2 => ?_⟩
 have hk:k < i + 1:=by
  have:=(List.getElem?_eq_some_iff.1 h1).1
  rw [List.length_take] at this
  omega
 rw [List.getElem?_take,if_pos hk] at h1
 by_cases e:k = i
 ·subst e
  rw [ha] at h1
  obtain rfl:=Option.some.inj h1
  rw [List.getElem?_append_right (by omega),hl,Nat.sub_self] at h2
  obtain rfl:=Option.some.inj h2
  exact hb
 ·rw [List.getElem?_append_left (by omega)] at h2
  exact h.is k a' b' (by rw [List.getElem?_take,if_pos (by omega)]; exact h1) h2
theorem zsS (O:List Heap) (l:List Aut) (hl:l.length ≤ 12) (hc:∀ a ∈ l,chkA a = 0) (hs:∀ a ∈ l,smallA a):zuJ [] Tryz.prog 79 [auts l] O (tbOk l) (fun bs => znB l (evL l) (tbM bs)) (fun bs => bs):=by
 have h1:=fun O => zqf O l hl hc
 generalize evL l = ev at *
 refine znG (tbOk l) (fun bs => znB l ev (tbM bs)) (fun bs => bs) [11,13] Tk Tryz.func79 rfl Tryz.call79 Tryz.ntmps79 (Nat.le_of_ble_eq_true rfl) fun E _ => ?_
 refine zae Tk Tryz.func79 ?_
 refine zaf Tk Tryz.func79 (h1 _) rfl rfl rfl rfl rfl ?_
 refine zac ?_
 refine zao (zaO 3 40 214 1 (pre:=[auts l,ints ev]) (post:=[]) rfl rfl rfl) ?_
 refine zi2 (fun x:Nat × List Tb => [(2,.own 0 2 0 0),(3,.own 0 3 0 0),(13,auts l),(14,ii l.length),(15,ii x.1)])
  (fun x => [(2,.box [.i (.v (.slice none 0 0)),.i (.v (.slice none 0 0)),.i (.v (.slice none 0 0))]),(3,.box [auts l,ints ev,.osl 0 40]),(40,.arr 214 1 x.2.length (tbM x.2) true)]) (fun _ => O) 44
  (fun E' x => x.1 ≤ l.length ∧ tbOk (l.take x.1) x.2 ∧ Base E E' O ∧ TabsE x.2 E' O ∧ ∀ p ∈ x.2,¬ E.pr p.1) (fun x => l.length - x.1) (0,[])
  ⟨Nat.zero_le _,⟨by simp,fun i a b h => by simp at h⟩,Base.refl E O,fun p hp => (List.not_mem_nil hp).elim,fun p hp => (List.not_mem_nil hp).elim⟩ ⟨rfl,rfl,rfl,rfl,rfl,trivial⟩ rfl ⟨rfl,rfl,rfl,trivial⟩ rfl rfl ?_
 rintro E1 ⟨i,bs⟩ ⟨hi,hok,hB,hT,hnp⟩ ih
 simp only at hi hok hB hT hnp
 have hj1:ii (IntKind.i64.wrap ((i:Int) + 1)) = ii ((i + 1:Nat):Int):=congrArg ii (zaB (n:=4096) (by omega) (by decide))
 refine zae Tk Tryz.func79 ?_
 refine zai Tk Tryz.func79 rfl (fun g1 => ?_) (fun g1 => ?_)
 ·have h2:i < l.length:=by simpa using g1
  have gl:=zfc h2
  have hla:l[i]? = some l[i]:=List.getElem?_eq_getElem h2
  have hsm:=(hs _ (List.getElem_mem h2)).ed
  generalize l[i] = a at *
  obtain ⟨al,st,mk,es⟩:=a
  simp only at hsm
  refine zag Tk Tryz.func79 (by exact ⟨by omega,by show (i:Int) < (l.length:Int); omega⟩) ?_
  refine zap Tk Tryz.func79 (gl) ?_
  obtain ⟨TT,hTT⟩:∃ TT,TT = (es.drop 0).foldl (fun m e => mset m (pk e.1 e.2.1) e.2.2) []:=⟨_,rfl⟩
  have hT0:zfN es = TT:=hTT.symm
  refine zac ?_
  refine zah (fun x:Nat × List (Value × Int) => [(2,.own 0 2 0 0),(3,.own 0 3 0 0),(13,auts l),(14,ii l.length),(15,ii i),(6,.osl 0 19),(21,edgs es),(22,ii es.length),(23,ii x.1)])
   (fun x => [(2,.box [.i (.v (.slice none 0 0)),.i (.v (.slice none 0 0)),.i (.v (.slice none 0 0))]),(3,.box [auts l,ints ev,.osl 0 40]),(40,.arr 214 1 bs.length (tbM bs) true),(19,zvO x.2)]) (fun _ => O) 44
   (fun x => x.1 ≤ es.length ∧ TT = (es.drop x.1).foldl (fun m e => mset m (pk e.1 e.2.1) e.2.2) x.2) (fun x => es.length - x.1) (0,[]) ⟨Nat.zero_le _,hTT⟩ ⟨rfl,rfl,rfl,rfl,rfl,rfl,rfl,rfl,rfl,trivial⟩ rfl ⟨rfl,rfl,rfl,rfl,trivial⟩ rfl rfl ?_
  clear hTT
  rintro ⟨j,m⟩ ⟨hj,hno⟩ ih2
  simp only at hj hno
  refine zae Tk Tryz.func79 ?_
  refine zai Tk Tryz.func79 rfl (fun g2 => ?_) (fun g2 => ?_)
  ·have h3:j < es.length:=by simpa using g2
   have ge:(es.map edgI)[(j:Int).toNat]? = some (edgI es[j]):=zaj h3
   have de:es.drop j = es[j] :: es.drop (j + 1):=List.drop_eq_getElem_cons h3
   rw [de,List.foldl_cons] at hno
   clear de
   generalize es[j] = e at *
   obtain ⟨e1,e2,e3⟩:=e
   refine zag Tk Tryz.func79 (by exact ⟨by omega,by show (j:Int) < (es.length:Int); omega⟩) ?_
   refine zap Tk Tryz.func79 (ge) ?_
   refine zac ?_
   exact ih2 (j + 1,mset m (pk e1 e2) e3) _ _ ⟨h3,hno⟩ (by simp only; omega) ⟨rfl,rfl,rfl,rfl,rfl,rfl,rfl,rfl,congrArg ii (zaB (n:=1000001) (by omega) (by decide)),trivial⟩ rfl ⟨rfl,rfl,rfl,rfl,trivial⟩ rfl rfl
  ·have h3:es.length ≤ j:=by simpa using g2
   rw [List.drop_eq_nil_of_le h3,List.foldl_nil] at hno
   subst hno
   refine zax ?_
   refine zjY 6 rfl rfl rfl ?_
   intro E2 b ob hB2 hTb hnb hmi
   refine zae Tk Tryz.func79 ?_
   refine g_go Tk Tryz.func79 ?_
   refine zag Tk Tryz.func79 (by exact ⟨by show (bs.length + 1) * 8 ≤ 140737488355328; have:=hok.len; rw [List.length_take] at this; omega,by show bs.length + 1 ≤ 9223372036854775807; have:=hok.len; rw [List.length_take] at this; omega⟩) ?_
   refine zac ?_
   refine ih E2 (i + 1,bs ++ [(b,ob)]) _ _ ⟨h2,zrh hok h2 hla (by rw [hT0]; exact hmi),hB.trans hB2,?_,?_⟩ (by simp only; omega) ⟨rfl,rfl,rfl,rfl,hj1,trivial⟩ rfl ⟨rfl,rfl,?_,trivial⟩ rfl rfl
   ·intro p hp
    rcases List.mem_append.1 hp with hp | hp
    ·exact hT.base hB2 p hp
    ·rw [List.mem_singleton] at hp; subst hp; exact hTb
   ·intro p hp
    rcases List.mem_append.1 hp with hp | hp
    ·exact hnp p hp
    ·rw [List.mem_singleton] at hp; subst hp; exact fun h => hnb (hB.pr _ h)
   ·show some (Ob.arr 214 1 (bs.length + 1) (tbM bs ++ [[I.v (.map (some b))]]) true) = some (Ob.arr 214 1 (bs ++ [(b,ob)]).length (tbM (bs ++ [(b,ob)])) true)
    simp
 ·have h2:l.length ≤ i:=by simpa using g1
  rw [List.take_of_length_le h2] at hok
  refine zax ?_
  refine zao (zam 40 rfl rfl) ?_
  refine zae Tk Tryz.func79 ?_
  refine g_go Tk Tryz.func79 ?_
  refine zvn Tk (r:=.agg [auts l,ints ev,.i (.sl 1 bs.length (tbM bs))]) bs hok hB rfl hT hnp rfl rfl rfl ?_
  have e1:(tbM bs).length = bs.length:=by simp
  show CoD _ (.agg [auts l,ints ev,.i (.sl 1 (tbM bs).length (tbM bs))])
  rw [e1]
  exact CoD.refl _
end Go.AI


namespace Go.AI
open Go.Proofs
set_option maxRecDepth 20000
theorem zr5 {k:ByteArray} {c:Value} (h:keyB (.string k) c = true) (k':ByteArray):keyB (.string k') c = (k' == k):=by
 cases c with
 | string s =>
  have e1:k = s:=(znX _ _).1 h
  rw [e1]; rfl
 | _ => simp [keyB] at h
theorem zgh {α:Type} (k:ByteArray) (v:α) (k':ByteArray):∀ m:List (Value × α),zbJ (mset m (.string k) v) (.string k') = if k' = k then some v else zbJ m (.string k')
 | [] => by
  simp only [mset,zbJ]
  rw [show keyB (.string k') (.string k) = (k' == k) from rfl]
  by_cases h:k' = k
  ·rw [if_pos h,h,zqD]; rfl
  ·rw [if_neg h]
   have:(k' == k) = false:=by
    rw [Bool.eq_false_iff]; exact fun e => h ((znX _ _).1 e)
   rw [this]; rfl
 | (c,y) :: r => by
  simp only [mset]
  cases hk:keyB (.string k) c with
  | true =>
   simp only [cond_true,zbJ]
   rw [zr5 hk,show keyB (.string k') (.string k) = (k' == k) from rfl]
   by_cases h:k' = k
   ·rw [if_pos h,h,zqD]; rfl
   ·rw [if_neg h]
    have:(k' == k) = false:=by
     rw [Bool.eq_false_iff]; exact fun e => h ((znX _ _).1 e)
    rw [this]; rfl
  | false =>
   simp only [cond_false,zbJ]
   rw [zgh k v k' r]
   by_cases h:k' = k
   ·rw [if_pos h,if_pos h,h,hk]; rfl
   ·rw [if_neg h,if_neg h]
def kmOk (P:List Int → Prop) (key:List Int → ByteArray) (km:List (Value × Int)) (sts:List (List Int)):Prop:=
 ∀ s,P s → mhas km (.string (key s)) = decide (s ∈ sts) ∧ (s ∈ sts → zeF km (.string (key s)) = ((sts.findIdx (eqB s):Nat):Int))
theorem zih {P:List Int → Prop} {key:List Int → ByteArray} (hinj:∀ a b,P a → P b → key a = key b → a = b) {km:List (Value × Int)} {sts:List (List Int)} (h:kmOk P key km sts) {n:List Int} (hn:P n) (hno:n ∉ sts) :
  kmOk P key (mset km (.string (key n)) (sts.length:Nat)) (sts ++ [n]):=by
 intro s hs
 obtain ⟨h1,h2⟩:=h s hs
 unfold mhas at h1
 unfold zeF at h2
 unfold mhas zeF
 rw [zgh]
 by_cases e:key s = key n
 ·have e:=hinj s n hs hn e
  subst e
  rw [if_pos rfl]
  refine ⟨by simp,fun _ => ?_⟩
  have:(sts ++ [s]).findIdx (eqB s) = sts.length:=by
   rw [List.findIdx_append,za4 fun x hx => ?_,if_neg (Nat.lt_irrefl _)]
   ·simp [eqB]
   ·simp only [eqB,decide_eq_false_iff_not]
    rintro rfl
    exact hno hx
  rw [this]; rfl
 ·rw [if_neg e]
  have hsn:s ≠ n:=fun h => e (by rw [h])
  refine ⟨?_,fun hm => ?_⟩
  ·rw [h1]
   simp [hsn]
  ·have hm:s ∈ sts:=by simpa [hsn] using hm
   rw [zep [n] ⟨s,hm,by simp [eqB]⟩]
   exact h2 hm
theorem zl5 {P:List Int → Prop} {key:List Int → ByteArray} (hinj:∀ a b,P a → P b → key a = key b → a = b) {n:List Int} (hn:P n):kmOk P key (mset [] (.string (key n)) 0) [n]:=
 zih (km:=[]) (sts:=[]) hinj (fun s _ => by simp [mhas,zbJ]) hn (by simp)
theorem zew {σ:Type} [DecidableEq σ] {eq:σ → σ → Bool} {lim:Bool} {step:σ → Int → σ × Bool × Int} {P:σ → Prop} (hF:Fin1 step eq lim P) {i:Nat} {s:σ} {ev:Int} {U V:Unf σ} (hU:UOk P U) (hs:P s) (hi:i < U.sts.length) (h:zbB eq lim step i s ev U = .ok V) :
  UOk P V ∧ i < V.sts.length ∧ V.sts[i]? = U.sts[i]?:=by
 have h1:=zea hF (ev:=ev) hU hs hi
 split at h1
 ·rw [h1] at h; cases h
 ·obtain ⟨r,h2,h3,_⟩:=h1
  rw [h2] at h
  simp only [Except.ok.injEq] at h
  subst h
  exact ⟨h3,by simp only [List.length_append]; omega,List.getElem?_append_left hi⟩
theorem zer:∀ {l:List Aut},(∀ a ∈ l,chkA a = 0) → zeT l = 0
 | [],_ => rfl
 | a :: l,h => by
  simp only [zeT]
  rw [h a (by simp),if_neg (by simp)]
  exact zer fun b hb => h b (by simp [hb])
set_option maxHeartbeats 8000000 in
theorem ztD {g:Nat} (hg:zfx g) {ty:TypeId} {fr:Nat × Nat} (O:List Heap) (l:List Aut) (hl:l.length ≤ 12) (hc:∀ a ∈ l,chkA a = 0) (hs:∀ a ∈ l,smallA a) (h0:¬ ∀ a ∈ l,a.states ≠ 0) :
  ASpecT g (ptab ty fr) Tryz.prog 32 [auts l] O (.tup [autD ⟨evL l,0,[],[]⟩,.i (.v (.slice none 0 0)),ii 0]) [] O:=by
 have h1:=fun O => zqx O l hl hs
 rw [zer hc] at h1
 have h2:=fun O => zsS O l hl hc hs
 have h3:=fun O ev M => znF O l ev M hl h0
 generalize evL l = ev at *
 refine zaU [200024] Tk Tryz.func32 rfl Tryz.call32 Tryz.ntmps32 (Nat.le_of_ble_eq_true rfl) fun E hE => ?_
 refine zae Tk Tryz.func32 ?_
 refine zaf Tk Tryz.func32 (h1 _) rfl rfl rfl rfl rfl ?_
 refine gcF Tk Tryz.func32 rfl ?_
 refine zpT Tk Tryz.func32 (ts:=[]) (O0:=O) (fun p hp => (List.not_mem_nil hp).elim) rfl rfl rfl rfl rfl rfl rfl (h2 _) ?_
 intro bs E3 hbs hB hTB hnp
 refine zaf Tk Tryz.func32 (h3 _ _ _) rfl rfl rfl rfl rfl ?_
 refine gcT Tk Tryz.func32 rfl ?_
 refine zse Tk hB rfl rfl rfl (r:=.tup [.agg [ints ev,ii 0,.i (.v (.slice none 0 0)),.i (.v (.slice none 0 0))],.i (.v (.slice none 0 0)),ii 0]) rfl ?_
 repeat' (first | refine zcR ?_ | refine zcS ?_ | refine zfi ?_ | refine CoDL.cons ?_ ?_ | exact CoDL.nil | exact zbZ | refine zdF ?_ | refine CoLL.cons ?_ ?_ | exact CoLL.nil | refine CoL.cons ?_ ?_ | exact CoL.nil | exact CoI.refl _ | exact CoL.refl _ | exact CoLL.refl _ | exact CoDL.refl _ | exact CoD.refl _)
theorem zrl (l:List Aut) (t:List Int) (ev:Int):ziQ l t ev = ((tupS l t ev).getD [],(tupS l t ev).isSome,0):=rfl
set_option maxHeartbeats 16000000 in
theorem zuO {g:Nat} (hg:zfx g) {ty:TypeId} {fr:Nat × Nat} (O:List Heap) (l:List Aut) (hl0:l ≠ []) (hl:l.length ≤ 12) (hc:∀ a ∈ l,chkA a = 0) (hs:∀ a ∈ l,smallA a) (h0:∀ a ∈ l,0 < a.states) (h64:∀ a ∈ l,a.states ≤ 64) (hV0:(zhL l).length ≤ 4095)
  (V:Unf (List Int)) (hV:ztU l = .ok V) :
  ASpecT g (ptab ty fr) Tryz.prog 32 [auts l] O (.tup [autD (unfA (evL l) V),.i (zdo V.sts),ii 0]) [] O:=by
 have h1:=fun O => zqx O l hl hs
 rw [zer hc] at h1
 have h2:=fun O => zsS O l hl hc hs
 have h3:=fun O ev M => zpH O l ev M hl fun a ha => by have:=h0 a ha; omega
 have hF:=zrP hc (show (zhL l).length < 4096 by omega)
 have hf0:tOk l (tup0 l):=zoB h0
 have hpne:∀ t,tOk l t → t ≠ []:=fun t ht e => by have:=zfO ht; rw [e] at this; exact hl0 (List.eq_nil_of_length_eq_zero this.symm)
 have hinj:∀ a b,tOk l a → tOk l b → zdZ a = zdZ b → a = b:=fun a b ha hb h => zrg (zlC ha h64) (zlC hb h64) h
 have hkey:∀ O t,tOk l t → ASpecT g (ptab ty fr) Tryz.prog 81 [ints t] O (.i (.v (.string (zdZ t)))) [] O:=fun O t ht => zvS hg O t (hpne t ht) (by have:=zfO ht; omega) (zlC ht h64)
 have hmkd:=fun O ev M t (ht:tOk l t) => zr1 O l ev M t hl (zfO ht) hc hs
 have hstp:=fun O ev bs t e (ht:tOk l t) (hb:tbOk l bs) => zuQ O l ev bs t e hl (zfO ht) hc hb
 have hfew:∀ U:Unf (List Int),UOk (tOk l) U → U.sts.length ≤ 4095:=fun U hU => Nat.le_trans (zbl hU.nd fun s hs => zgi (hU.ok s hs)) hV0
 have hevl:=zaX (by decide) (zuq hc)
 have hno:(Except.ok V:Except Int (Unf (List Int))) = zby eqB true (ziQ l) (tMk l) (evL l) (4097 - 0) 0 (unf0 (tup0 l)):=hV.symm
 have hU0:UOk (tOk l) (unf0 (tup0 l)):=⟨by simpa [unf0] using hf0,by simp [unf0],rfl⟩
 have hk0:=zl5 hinj hf0
 have hsts:=zrl l
 have hvok:=fun i s ev U V' hU hs hi hq => @zew (List Int) _ eqB true (ziQ l) (tOk l) hF i s ev U V' hU hs hi hq
 unfold unfA
 generalize hR:(Except.ok V:Except Int (Unf (List Int))) = R at *
 generalize evL l = ev at *
 generalize ziQ l = ts at *
 generalize tMk l = mr at *
 generalize tup0 l = s0 at *
 clear hV hF
 refine zaU [200024,16,28,30] Tk Tryz.func32 rfl Tryz.call32 Tryz.ntmps32 (Nat.le_of_ble_eq_true rfl) fun E hE => ?_
 refine zae Tk Tryz.func32 ?_
 refine zaf Tk Tryz.func32 (h1 _) rfl rfl rfl rfl rfl ?_
 refine gcF Tk Tryz.func32 rfl ?_
 refine zpT Tk Tryz.func32 (ts:=[]) (O0:=O) (fun p hp => (List.not_mem_nil hp).elim) rfl rfl rfl rfl rfl rfl rfl (h2 _) ?_
 intro bs E3 hbs hB hTB hnp
 have hE3:=hB.eok.tb g (ptab ty fr) O rfl hE
 refine zaf Tk Tryz.func32 (h3 _ _ _) rfl rfl rfl rfl rfl ?_
 refine gcF Tk Tryz.func32 rfl ?_
 refine zbf Tk Tryz.func32 hE3 (hkey _ s0 hf0) rfl rfl rfl rfl rfl rfl ?_
 refine zac ?_
 refine zao (zcT 37 101 rfl rfl rfl) ?_
 refine zao (zaO 2 58 3 1 (pre:=[ints ev,ii 0]) (post:=[.i (.v (.slice none 0 0))]) rfl rfl rfl) ?_
 refine zao (zaO 2 109 117 3 (pre:=[ints ev,ii 0,.osl 0 58]) (post:=[]) rfl rfl rfl) ?_
 refine zah (fun x:Nat × Unf (List Int) × List (Value × Int) => [(2,.own 0 2 0 0),(3,.osl 0 101),(6,.own 0 6 0 0),(9,.osl 0 38),(10,ii x.1)])
  (fun x => [(2,.box [ints ev,ii 0,.osl 0 58,.osl 0 109]),(6,.box [auts l,ints ev,.i (.sl 1 (tbM bs).length (tbM bs))]),(101,ze4 x.2.1.sts),(58,zaw x.2.1.mkl),(109,zbD x.2.1.eds),(38,.mp .str (.i .i64 x.2.2))]) (fun _ => O) 117
  (fun x => x.1 ≤ x.2.1.sts.length ∧ UOk (tOk l) x.2.1 ∧ kmOk (tOk l) zdZ x.2.2 x.2.1.sts ∧ x.2.1.mkl.length ≤ x.1 ∧ x.2.1.eds.length ≤ 32 * x.1 ∧ R = zby eqB true ts mr ev (4097 - x.1) x.1 x.2.1) (fun x => 4097 - x.1) (0,unf0 s0,mset [] (.string (zdZ s0)) 0)
  ⟨Nat.zero_le _,hU0,hk0,Nat.le_refl _,Nat.le_refl _,hno⟩ ⟨rfl,rfl,rfl,rfl,rfl,trivial⟩ rfl ⟨rfl,rfl,rfl,rfl,rfl,rfl,trivial⟩ rfl rfl ?_
 clear hno hU0 hk0 h1 h2 h3 hf0
 rintro ⟨i,U,km⟩ ⟨hi,hgd,hkm,hml,hel,hno⟩ ih
 simp only at hi hgd hkm hml hel hno
 refine zae Tk Tryz.func32 ?_
 refine zai Tk Tryz.func32 rfl (fun g1 => ?_) (fun g1 => ?_)
 ·have h1:i < U.sts.length:=by simpa using g1
  clear g1
  have hle:=hfew U hgd
  have hsi:U.sts[i]? = some U.sts[i]:=List.getElem?_eq_getElem h1
  have gs:(U.sts.map fun r => [zbu r])[(i:Int).toNat]? = some [zbu U.sts[i]]:=zaj (f:=fun r => [zbu r]) h1
  have hoks:=hgd.ok _ (List.getElem_mem h1)
  generalize U.sts[i] = s at *
  have hmk':=fun O => hmkd O ev (tbM bs) s hoks
  have hno:R = match zau eqB true ts i s ev (zbk mr i s U) with
    | .error e => .error e
    | .ok U' => zby eqB true ts mr ev (4097 - (i + 1)) (i + 1) U':=by
   rw [hno,show 4097 - i = (4097 - (i + 1)) + 1 by omega]
   simp only [zby,hsi]
   cases zau eqB true ts i s ev (zbk mr i s U) <;> rfl
  obtain ⟨m1,m2⟩:=zb5 mr i s U
  have hM:UOk (tOk l) (zbk mr i s U):=⟨by rw [m1]; exact hgd.ok,by rw [m1]; exact hgd.nd,by rw [m1,m2]; exact hgd.fr⟩
  have hm3:(zbk mr i s U).mkl = if mr s = true then U.mkl ++ [(i:Int)] else U.mkl:=by
   unfold zbk
   by_cases h:mr s = true <;> simp [h]
  generalize zbk mr i s U = U1 at *
  generalize mr s = B at *
  obtain ⟨sts,mkl,eds⟩:=U
  obtain ⟨sts1,mkl1,eds1⟩:=U1
  simp only at m1 m2 hm3 hsi gs hno h1 hle hel hml hi hkm hgd
  subst m1 m2
  have n1:0 ≤ (i:Int) ∧ (i:Int) < (sts1.length:Int):=by omega
  have hml1:mkl1.length ≤ i + 1:=by rw [hm3]; split; (rw [List.length_append,List.length_singleton]; omega); omega
  refine zaD Tk Tryz.func32 zaN rfl ?_
  refine zaz Tk (by exact n1) ?_
  refine zaJ Tk (gs) ?_
  refine za2 Tk (fun _ => hmk' _) rfl rfl rfl ?_
  refine zaS Tk Tryz.func32 (by kernel_rfl) ?_
  apply zcj (P:=True) (s6:={ σ:=[(2,.own 0 2 0 0),(3,.osl 0 101),(6,.own 0 6 0 0),(9,.osl 0 38),(10,ii i)],S:=[(2,.box [ints ev,ii 0,.osl 0 58,.osl 0 109]),(6,.box [auts l,ints ev,.i (.sl 1 (tbM bs).length (tbM bs))]),(101,ze4 sts1),(58,zaw mkl1),(109,zbD eds1),(38,.mp .str (.i .i64 km))] :: O,n:=117 })
  ·intro J
   refine zai Tk Tryz.func32 rfl (fun c1 => ?_) (fun c1 => ?_)
   ·have c1:B = true:=c1
    rw [if_pos c1] at hm3
    refine zag Tk Tryz.func32 (by exact ⟨by show (mkl.length + 1) * 8 ≤ 140737488355328; omega,by show mkl.length + 1 ≤ 9223372036854775807; omega⟩) ?_
    refine zax ?_
    refine zaC (J trivial) ⟨rfl,rfl,rfl,rfl,rfl,trivial⟩ rfl ⟨rfl,rfl,rfl,by rw [hm3]; exact congrArg some (zaL mkl (i:Int)),rfl,rfl,trivial⟩ rfl rfl
   ·have c1:¬ B = true:=by rw [show B = false from c1]; decide
    rw [if_neg c1] at hm3
    refine zax ?_
    refine zaC (J trivial) ⟨rfl,rfl,rfl,rfl,rfl,trivial⟩ rfl ⟨rfl,rfl,rfl,by rw [hm3]; rfl,rfl,rfl,trivial⟩ rfl rfl
  intro _
  clear hm3 hml hmk' gs hgd
  have hV0:zau eqB true ts i s ev ⟨sts1,mkl1,eds1⟩ = zau eqB true ts i s (ev.drop 0) ⟨sts1,mkl1,eds1⟩:=rfl
  generalize zau eqB true ts i s ev ⟨sts1,mkl1,eds1⟩ = VV at *
  refine zae Tk Tryz.func32 ?_
  refine g_go Tk Tryz.func32 ?_
  refine zac ?_
  refine zah (fun x:Nat × Unf (List Int) × List (Value × Int) => [(2,.own 0 2 0 0),(3,.osl 0 101),(6,.own 0 6 0 0),(9,.osl 0 38),(10,ii i),(61,ints ev),(62,ii ev.length),(63,ii x.1)])
   (fun x => [(2,.box [ints ev,ii 0,.osl 0 58,.osl 0 109]),(6,.box [auts l,ints ev,.i (.sl 1 (tbM bs).length (tbM bs))]),(101,ze4 x.2.1.sts),(58,zaw x.2.1.mkl),(109,zbD x.2.1.eds),(38,.mp .str (.i .i64 x.2.2))]) (fun _ => O) 117
   (fun x => x.1 ≤ ev.length ∧ UOk (tOk l) x.2.1 ∧ kmOk (tOk l) zdZ x.2.2 x.2.1.sts ∧ i < x.2.1.sts.length ∧ x.2.1.mkl = mkl1 ∧ x.2.1.eds.length ≤ 32 * i + x.1 ∧ x.2.1.sts[i]? = some s ∧ VV = zau eqB true ts i s (ev.drop x.1) x.2.1) (fun x => ev.length - x.1) (0,⟨sts1,mkl1,eds1⟩,km)
   ⟨Nat.zero_le _,hM,hkm,h1,rfl,hel,hsi,hV0⟩ ⟨rfl,rfl,rfl,rfl,rfl,rfl,rfl,rfl,trivial⟩ rfl ⟨rfl,rfl,rfl,rfl,rfl,rfl,trivial⟩ rfl rfl ?_
  clear hV0 hsi hel hle hM n1 h1 hkm
  rintro ⟨j,⟨sts,mk',eds⟩,km⟩ ⟨hj,hgd,hkm,hil,hmke,hel,hsi,hV⟩ ih2
  simp only at hj hgd hkm hil hmke hel hsi hV
  subst hmke
  have hle:=hfew _ hgd
  simp only at hle
  have hj1:ii (IntKind.i64.wrap ((j:Int) + 1)) = ii ((j + 1:Nat):Int):=congrArg ii (zaB (n:=4096) (by omega) (by decide))
  refine zae Tk Tryz.func32 ?_
  refine zai Tk Tryz.func32 rfl (fun g2 => ?_) (fun g2 => ?_)
  ·have h3:j < ev.length:=by simpa using g2
   clear g2
   have ga:(ev.map fun x => [vi x])[(j:Int).toNat]? = some [vi ev[j]]:=zaj (f:=fun x => [vi x]) h3
   have da:ev.drop j = ev[j] :: ev.drop (j + 1):=List.drop_eq_getElem_cons h3
   rw [da] at hV
   simp only [zau] at hV
   clear da
   have hst2:=fun O => hstp O ev bs s ev[j] hoks hbs
   generalize ev[j] = e at *
   have gs:(sts.map fun r => [zbu r])[(i:Int).toNat]? = some [zbu s]:=by simp [hsi]
   have hvok:=fun V' h => hvok i s e ⟨sts,mk',eds⟩ V' hgd hoks hil h
   have hnxt:∀ n,tupS l s e = some n → tOk l n:=fun n hn => zhM hc hoks hn
   unfold zbB at hV hvok
   rw [hsts] at hV hvok
   have n3:0 ≤ (i:Int) ∧ (i:Int) < (sts.length:Int):=by omega
   refine zag Tk Tryz.func32 (by exact ⟨by omega,by show (j:Int) < (ev.length:Int); omega⟩) ?_
   refine zap Tk Tryz.func32 (ga) ?_
   generalize tupS l s e = NX at *
   cases NX with
   | none =>
    simp only [Option.isSome_none,Option.getD_none,ne_eq,not_true,if_false,if_true] at hV hst2
    refine zaD Tk Tryz.func32 zaN rfl ?_
    refine zaz Tk (by exact n3) ?_
    refine zaJ Tk (gs) ?_
    refine zoY Tk hTB (hst2 _) rfl rfl rfl rfl ?_
    refine zaS Tk Tryz.func32 (by kernel_rfl) ?_
    refine gcT Tk Tryz.func32 rfl ?_
    refine zac ?_
    exact ih2 (j + 1,⟨sts,mk',eds⟩,km) _ _ ⟨h3,hgd,hkm,hil,rfl,by simp only; omega,hsi,hV⟩ (by simp only; omega) ⟨rfl,rfl,rfl,rfl,rfl,rfl,rfl,hj1,trivial⟩ rfl ⟨rfl,rfl,rfl,rfl,rfl,rfl,trivial⟩ rfl rfl
   | some nx =>
    simp only [Option.isSome_some,Option.getD_some,ne_eq,not_true,if_false,Bool.true_eq_false] at hV hvok hst2
    have hnx:=hnxt nx rfl
    obtain ⟨hkh,hkg⟩:=hkm nx hnx
    refine zaD Tk Tryz.func32 zaN rfl ?_
    refine zaz Tk (by exact n3) ?_
    refine zaJ Tk (gs) ?_
    refine zoY Tk hTB (hst2 _) rfl rfl rfl rfl ?_
    refine zaS Tk Tryz.func32 (by kernel_rfl) ?_
    refine gcF Tk Tryz.func32 rfl ?_
    refine zbf Tk Tryz.func32 hE3 (hkey _ nx hnx) rfl rfl rfl rfl rfl rfl ?_
    obtain ⟨t,ht⟩:∃ t,t = sts.findIdx (eqB nx):=⟨_,rfl⟩
    rw [← ht] at hV hvok hkg
    obtain ⟨sts2,hst3⟩:∃ sts2,sts2 = if nx ∈ sts then sts else sts ++ [nx]:=⟨_,rfl⟩
    obtain ⟨km2,hkm3⟩:∃ km2,km2 = if nx ∈ sts then km else mset km (.string (zdZ nx)) (sts.length:Nat):=⟨_,rfl⟩
    have hU2:VV = zau eqB true ts i s (ev.drop (j + 1)) ⟨sts2,mk',eds ++ [((i:Int),e,(t:Int))]⟩ ∧ UOk (tOk l) ⟨sts2,mk',eds ++ [((i:Int),e,(t:Int))]⟩ ∧ i < sts2.length ∧ sts2[i]? = some s ∧ kmOk (tOk l) zdZ km2 sts2:=by
     by_cases hm:nx ∈ sts
     ·have hlt:t < sts.length:=by rw [ht]; exact zcv ⟨nx,hm,by simp [eqB]⟩
      rw [if_pos hm] at hst3 hkm3
      rw [if_pos hlt] at hV hvok
      subst hst3 hkm3
      have h:=hvok _ rfl
      exact ⟨hV,h.1,h.2.1,h.2.2.trans hsi,hkm⟩
     ·have hlt:t = sts.length:=by
       rw [ht]
       exact za4 fun x hx => by simp only [eqB,decide_eq_false_iff_not]; rintro rfl; exact hm hx
      rw [if_neg hm] at hst3 hkm3
      rw [if_neg (by omega),if_neg (by omega)] at hV hvok
      have hk2:=zih hinj hkm hnx hm
      subst hst3 hkm3
      have h:=hvok _ rfl
      exact ⟨hV,h.1,h.2.1,h.2.2.trans hsi,hk2⟩
    have htm:nx ∉ sts → t = sts.length:=fun hm => by
     rw [ht]
     exact za4 fun x hx => by simp only [eqB,decide_eq_false_iff_not]; rintro rfl; exact hm hx
    clear hV hvok ht
    apply zcj (P:=True) (s6:={ σ:=[(2,.own 0 2 0 0),(3,.osl 0 101),(6,.own 0 6 0 0),(9,.osl 0 38),(10,ii i),(61,ints ev),(62,ii ev.length),(63,ii j),(12,ii e),(15,ii t)],S:=[(2,.box [ints ev,ii 0,.osl 0 58,.osl 0 109]),(6,.box [auts l,ints ev,.i (.sl 1 (tbM bs).length (tbM bs))]),(101,ze4 sts2),(58,zaw mk'),(109,zbD eds),(38,.mp .str (.i .i64 km2))] :: O,n:=117 })
    ·intro J
     refine zai Tk Tryz.func32 rfl (fun c1 => ?_) (fun c1 => ?_)
     ·have c1:mhas km (.string (zdZ nx)) = false:=notT c1
      rw [hkh] at c1
      have c1:nx ∉ sts:=of_decide_eq_false c1
      rw [if_neg c1] at hst3 hkm3
      have htl:=htm c1
      refine zai Tk Tryz.func32 rfl (fun h => absurd h (by simp; omega)) (fun _ => ?_)
      refine zbf Tk Tryz.func32 hE3 (hkey _ nx hnx) rfl rfl rfl rfl rfl rfl ?_
      refine zag Tk Tryz.func32 (by exact ⟨by show (sts.length + 1) * 24 ≤ 140737488355328; omega,by show sts.length + 1 ≤ 9223372036854775807; omega⟩) ?_
      refine zax ?_
      refine zaC (J trivial) ⟨rfl,rfl,rfl,rfl,rfl,rfl,rfl,rfl,rfl,by rw [htl]; rfl,trivial⟩ rfl ⟨rfl,rfl,by rw [hst3]; exact congrArg some (zeD sts nx),rfl,rfl,by rw [hkm3]; rfl,trivial⟩ rfl rfl
     ·have c1:mhas km (.string (zdZ nx)) = true:=notF c1
      rw [hkh] at c1
      have c1:nx ∈ sts:=of_decide_eq_true c1
      rw [if_pos c1] at hst3 hkm3
      have hg:=hkg c1
      refine zax ?_
      refine zaC (J trivial) ⟨rfl,rfl,rfl,rfl,rfl,rfl,rfl,rfl,rfl,congrArg ii hg,trivial⟩ rfl ⟨rfl,rfl,by rw [hst3]; rfl,rfl,rfl,by rw [hkm3]; rfl,trivial⟩ rfl rfl
    intro _
    obtain ⟨hV,hg2,hi2,hs2,hk2⟩:=hU2
    clear hst3 hkm3 htm hkh hkg hst2 hgd hkm hil hsi gs
    refine zae Tk Tryz.func32 ?_
    refine g_go Tk Tryz.func32 ?_
    refine zag Tk Tryz.func32 (by exact ⟨by show (eds.length + 1) * 24 ≤ 140737488355328; omega,by show eds.length + 1 ≤ 9223372036854775807; omega⟩) ?_
    refine zac ?_
    exact ih2 (j + 1,⟨sts2,mk',eds ++ [((i:Int),e,(t:Int))]⟩,km2) _ _ ⟨h3,hg2,hk2,hi2,rfl,by simp only [List.length_append,List.length_singleton]; omega,hs2,hV⟩ (by simp only; omega) ⟨rfl,rfl,rfl,rfl,rfl,rfl,rfl,hj1,trivial⟩ rfl ⟨rfl,rfl,rfl,rfl,congrArg some (zc0 eds ((i:Int),e,(t:Int))),rfl,trivial⟩ rfl rfl
  ·have h3:ev.length ≤ j:=by simpa using g2
   rw [List.drop_eq_nil_of_le h3] at hV
   simp only [zau] at hV
   subst hV
   simp only at hno
   refine zac ?_
   exact ih (i + 1,⟨sts,mk',eds⟩,km) _ _ ⟨by simp only; omega,hgd,hkm,hml1,by simp only; omega,hno⟩ (by simp only; omega) ⟨rfl,rfl,rfl,rfl,congrArg ii (zaB (n:=4096) (by omega) (by decide)),trivial⟩ rfl ⟨rfl,rfl,rfl,rfl,rfl,rfl,trivial⟩ rfl rfl
 ·have h1:U.sts.length ≤ i:=by simpa using g1
  rw [zdJ h1] at hno
  rw [← hR] at hno
  simp only [Except.ok.injEq] at hno
  subst hno
  obtain ⟨sts,mk',eds⟩:=V
  refine zax ?_
  refine zhk hB rfl ?_
  refine zao (zam 101 rfl rfl) ?_
  refine zao (zam 58 rfl rfl) ?_
  refine zao (zam 109 rfl rfl) ?_
  refine zae Tk Tryz.func32 ?_
  refine g_go Tk Tryz.func32 ?_
  refine zal Tk (r:=.tup [autD ⟨ev,sts.length,mk',eds⟩,.i (zdo sts),ii 0]) rfl rfl rfl trivial rfl rfl ?_
  rfl
end Go.AI
