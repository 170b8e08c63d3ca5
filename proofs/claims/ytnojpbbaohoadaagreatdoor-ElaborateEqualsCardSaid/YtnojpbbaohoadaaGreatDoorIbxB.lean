/- The layer of abstract runs, part 2. -/
import Derived.Test.YtnojpbbaohoadaaGreatDoorIbxA
set_option linter.unusedSimpArgs false
set_option linter.unusedVariables false
set_option linter.all false
set_option maxHeartbeats 4000000
namespace Go.AI
def KK.ok:KK→Value→Bool
 |.str,.string _=>true
 |.int k,.int k' _=>k==k'
 |.pair k,.agg ⟨[.int k1 _,.int k2 _]⟩=>decide (k=k1)&&decide (k=k2)
 |_,_=>false
def MC.vals:MC→List (Value×Value)
 |.b es=>es.map fun p=>(p.1,.bool p.2)
 |.i k es=>es.map fun p=>(p.1,.int k p.2)
def OwnAt (K:Kn) (ρ:Nat→Nat→Loc) (sh:Nat→Nat→Option Sh) (w:World) (l:Loc):Ob→Prop
 |.mp kk m=>(∃es clock,w.heap[l.block]? = some (.map es clock)∧es.toList.map (fun e=>(e.key,e.val))=m.vals∧∀p∈m.vals,kk.ok p.1=true)∧∀o,K l.block o=none
 |.box cs=>∃c T,w.heap[l.block]? = some (.cells c T (0,0))∧RepDL K ρ sh c.toList cs∧∀o,K l.block o=none
 |.tb T cs=>∃c,w.heap[l.block]? = some (.cells c T (0,0))∧RepDL K ρ sh c.toList cs∧∀o,K l.block o=none
 |.arr ty es n xs wr=>(∀d∈xs,d.length=es)∧xs.length=n∧n≤l.cap∧l.cap≤maxLen∧((l.cap=0∧l.base=none)∨(l.base=some ⟨l.block,0,none⟩ ∧
   ∃c,w.heap[l.block]? = some (.cells c ty (0,0))∧c.size=l.cap*es∧RepL K (c.toList.take (n*es)) xs.flatten ∧
    (wr=true→∀o,K l.block o=none)∧(∀o,n*es≤o→K l.block o=none) ∧
    (wr=false→∀o,o<n*es→K l.block o=c[o]?)))
def zaD (l:Loc):Ob→Prop
 |.mp _ _=>True
 |.box _=>True
 |.tb _ _=>True
 |.arr _ _ _ _ _=>l.base≠none
structure Env where
 K0:Kn
 ρ0:Nat→Nat→Loc
 w0:World
 pr:Nat→Prop
 lt:∀b,pr b→b<w0.heap.size
def Env.of (K:Kn) (ρ:Nat→Nat→Loc) (w:World):Env:={ K0:=K,ρ0:=ρ,w0:=w,pr:=fun b=>b<w.heap.size,lt:=fun _ h=>h}
structure HInv (E:Env) (K:Kn) (ρ:Nat→Nat→Loc) (S:List Heap) (w:World):Prop where
 holds:∀b o x,K b o=some x→w.cell? ⟨b,o,none⟩=some x
 own:∀dep nm ob,zab S dep nm=some ob→OwnAt K (fun d n=>ρ (dep+d) n) (shape (S.drop dep)) w (ρ dep nm) ob
 inj:∀dep nm ob dep' nm' ob',zab S dep nm=some ob→zab S dep' nm'=some ob' → zaD (ρ dep nm) ob→zaD (ρ dep' nm') ob' →
  (ρ dep nm).block=(ρ dep' nm').block→dep=dep'∧nm=nm'
 size:E.w0.heap.size≤w.heap.size
 old:∀b,E.pr b→(∀dep nm ob,zab S (dep+1) nm=some ob→zaD (ρ (dep+1) nm) ob→(ρ (dep+1) nm).block≠b) →
  w.heap[b]? = E.w0.heap[b]?
 loc:∀nm ob,zab S 0 nm=some ob→zaD (ρ 0 nm) ob→¬E.pr (ρ 0 nm).block
 outer:∀dep,ρ (dep+1)=E.ρ0 dep
 Kle:E.K0.le K
 Knew:∀b o x,K b o=some x→E.K0 b o=some x∨¬E.pr b
 rest:w.tape=E.w0.tape∧w.os=E.w0.os∧w.output=E.w0.output
structure St where
 σ:List (Nat×D)
 S:List Heap
 n:Nat
def St.get (s:St) (t:Nat):D:=match look s.σ t with|some d=>d|none=>.dead
def St.set (s:St) (t:Nat) (d:D):St:={ s with σ:=(t,d)::s.σ}
structure Inv (E:Env) (K:Kn) (ρ:Nat→Nat→Loc) (s:St) (a:Act) (w:World):Prop where
 h:HInv E K ρ s.S w
 defers:a.defers=[]
 size:a.tmps.size=s.n
 slots:∀t d,look s.σ t=some d→RepD K ρ (shape s.S) (a.tmps.getD t undef) d
theorem Inv.get {E:Env} {K:Kn} {ρ:Nat→Nat→Loc} {s:St} {a:Act} {w:World} (h:Inv E K ρ s a w) (t:Nat) :
  RepD K ρ (shape s.S) (a.tmps.getD t undef) (s.get t):=by
 unfold St.get
 split
 ·exact h.slots _ _ (by assumption)
 ·exact .dead _
def addS (S:List Heap) (adds:Heap):List Heap:=match S with
 |[]=>[adds]
 |H::O=>(adds++H)::O
theorem zbY {α:Type} (l r:List (Nat×α)) (t:Nat):look (l++r) t=match look l t with|some x=>some x|none=>look r t:=by
 induction l with
 |nil=>simp[look]
 |cons p l ih=>
  obtain⟨k,x⟩:=p;rw[List.cons_append,zac,zac,ih]
  by_cases h:k=t<;>simp[h]
structure SubS (S S':List Heap):Prop where
 obj:∀dep nm ob,zab S dep nm=some ob→zab S' dep nm=some ob
 tail:∀dep nm,zab S (dep+1) nm=zab S' (dep+1) nm
theorem zjH {S S':List Heap} (h:∀dep nm ob,zab S dep nm=some ob→zab S' dep nm=some ob) {dep nm:Nat} {x:Sh} (e:shape S dep nm=some x):shape S' dep nm=some x:=by
 unfold shape at *
 cases ho:zab S dep nm with
 |none=>simp[ho] at e
 |some ob=>rw[h _ _ _ ho];simpa [ho] using e
theorem zpS (S:List Heap) (k dep nm:Nat):zab (S.drop k) dep nm=zab S (k+dep) nm:=by
 simp[zab,List.getElem?_drop]
theorem zbk (S:List Heap) (k dep nm:Nat):shape (S.drop k) dep nm=shape S (k+dep) nm:=by
 simp[shape,zpS]
theorem OwnAt.stays {K K':Kn} {ρ ρ':Nat→Nat→Loc} {sh sh':Nat→Nat→Option Sh} {w w':World} {l:Loc} {ob:Ob} (h:OwnAt K ρ sh w l ob)
  (hs:Stays K K' ρ ρ' sh sh') (hw:zaD l ob→w'.heap[l.block]? = w.heap[l.block]?) (hK:zaD l ob→∀o,K' l.block o=K l.block o):OwnAt K' ρ' sh' w' l ob:=by
 cases ob with
 |mp kk m=>
  obtain⟨⟨es,ck,h1,h2⟩,h3⟩:=h;exact⟨⟨es,ck,by rw[hw trivial];exact h1,h2⟩,fun o=>by rw[hK trivial];exact h3 o⟩
 |box cs=>
  obtain⟨c,T,h1,h2,h3⟩:=h;exact⟨c,T,by rw[hw trivial];exact h1,h2.stays hs,fun o=>by rw[hK trivial];exact h3 o⟩
 |tb T cs=>
  obtain⟨c,h1,h2,h3⟩:=h;exact⟨c,by rw[hw trivial];exact h1,h2.stays hs,fun o=>by rw[hK trivial];exact h3 o⟩
 |arr ty es n xs wr=>
  obtain⟨h1,h2,h2',h2'',h3⟩:=h;refine⟨h1,h2,h2',h2'',?_⟩
  by_cases hc:l.base=none
  ·rcases h3 with h3|⟨h4,_⟩
   ·exact .inl h3
   ·rw[hc] at h4;cases h4
  ·rcases h3 with ⟨_,h3⟩|⟨h4,c,h5,h6,h7,h8,h9,h10⟩
   ·exact absurd h3 hc
   ·refine .inr ⟨h4,c,by rw[hw hc];exact h5,h6,h7.mono hs.le,fun e o=>by rw[hK hc];exact h8 e o,fun o ho=>by rw[hK hc];exact h9 o ho,fun e o ho=>by rw[hK hc];exact h10 e o ho⟩
theorem OwnAt.lt {K:Kn} {ρ:Nat→Nat→Loc} {sh:Nat→Nat→Option Sh} {w:World} {l:Loc} {ob:Ob} (h:OwnAt K ρ sh w l ob) (hb:zaD l ob):l.block<w.heap.size:=by
 have hh:∃x,w.heap[l.block]? = some x:=by
  cases ob with
  |mp kk m=>obtain⟨⟨es,ck,h1,_⟩,_⟩:=h;exact⟨_,h1⟩
  |box cs=>obtain⟨c,T,h1,_⟩:=h;exact⟨_,h1⟩
  |tb T cs=>obtain⟨c,h1,_⟩:=h;exact⟨_,h1⟩
  |arr ty es n xs wr=>
   obtain⟨_,_,_,_,h3⟩:=h;rcases h3 with ⟨_,h3⟩|⟨_,c,h5,_⟩
   ·exact absurd h3 hb
   ·exact⟨_,h5⟩
 obtain⟨x,hx⟩:=hh;rcases Nat.lt_or_ge l.block w.heap.size with h|h
 ·exact h
 ·simp[Array.getElem?_eq_none h] at hx
structure Grow (K:Kn) (ρ:Nat→Nat→Loc) (S:List Heap) (w:World) (adds:Heap) (K':Kn) (ρ':Nat→Nat→Loc) (w':World):Prop where
 le:K.le K'
 new:∀b o x,K' b o=some x→K b o=some x∨w.heap.size≤b
 size:w.heap.size≤w'.heap.size
 old:∀b,b<w.heap.size→w'.heap[b]? = w.heap[b]?
 rest:w'.tape=w.tape∧w'.os=w.os∧w'.output=w.output
 loc:∀dep nm,(dep≠0∨look adds nm=none)→ρ' dep nm=ρ dep nm
 holds:∀b o x,K' b o=some x→w'.cell? ⟨b,o,none⟩=some x
 own:∀nm ob,look adds nm=some ob→OwnAt K' ρ' (shape (addS S adds)) w' (ρ' 0 nm) ob∧(zaD (ρ' 0 nm) ob→w.heap.size≤(ρ' 0 nm).block)
 inj:∀nm ob nm' ob',look adds nm=some ob→look adds nm'=some ob' → zaD (ρ' 0 nm) ob→zaD (ρ' 0 nm') ob' → (ρ' 0 nm).block=(ρ' 0 nm').block→nm=nm'
theorem zbz (H:Heap) (O:List Heap) (adds:Heap) (dep nm:Nat):zab (addS (H::O) adds) dep nm=if dep=0 then (match look adds nm with|some x=>some x|none=>look H nm) else zab (H::O) dep nm:=by
 cases dep with
 |zero=>
  simp only[addS,zab,List.getElem?_cons_zero,zbY,if_true]
  cases look adds nm<;>rfl
 |succ k=>simp[addS,zab]
theorem SubS.add {H:Heap} {O:List Heap} {adds:Heap} (hf:∀nm,look adds nm≠none→look H nm=none):SubS (H::O) (addS (H::O) adds) where
 obj:=by
  intro dep nm ob h;rw[zbz]
  by_cases hd:dep=0
  ·subst hd;simp only[if_true]
   cases ha:look adds nm with
   |none=>simpa [zab] using h
   |some x=>have:=hf nm (by simp[ha]);simp[zab,this] at h
  ·rw[if_neg hd];exact h
 tail:=by intro dep nm;rw[zbz,if_neg (by omega)]
theorem HInv.grow {E:Env} {K K':Kn} {ρ ρ':Nat→Nat→Loc} {S S':List Heap} {w w':World} {adds:Heap} {H':Heap} {O:List Heap} (hS:S'=H'::O)
  (h:HInv E K ρ S' w) (hsub:∀dep nm x,shape (addS S adds) dep nm=some x→shape (addS S' adds) dep nm=some x)
  (hf:∀nm,look adds nm≠none→look H' nm=none) (g:Grow K ρ S w adds K' ρ' w'):HInv E K' ρ' (addS S' adds) w'∧Stays K K' ρ ρ' (shape S') (shape (addS S' adds)):=by
 subst hS;have hadd:=SubS.add (O:=O) hf;have hst:Stays K K' ρ ρ' (shape (H'::O)) (shape (addS (H'::O) adds)):=by
  refine⟨g.le,fun dep nm x e=>zjH hadd.obj e,fun dep nm x e=>g.loc _ _ ?_⟩
  by_cases hd:dep=0
  ·subst hd;refine .inr ?_
   cases ha:look adds nm with
   |none=>rfl
   |some y=>
    have:=hf nm (by simp[ha]);simp[shape,zab,this] at e
  ·exact .inl hd
 have hKsame:∀b,b<w.heap.size→∀o,K' b o=K b o:=by
  intro b hb o
  cases hk:K' b o with
  |none=>
   cases hk2:K b o with
   |none=>rfl
   |some x=>rw[g.le _ _ _ hk2] at hk;exact absurd hk (by simp)
  |some x=>
   rcases g.new _ _ _ hk with h1|h1
   ·exact h1.symm
   ·omega
 have cases_obj:∀dep nm ob,zab (addS (H'::O) adds) dep nm=some ob→(dep=0∧look adds nm=some ob)∨(zab (H'::O) dep nm=some ob∧ρ' dep nm=ρ dep nm):=by
  intro dep nm ob ho;rw[zbz] at ho
  by_cases hd:dep=0
  ·subst hd;simp only[if_true] at ho
   cases ha:look adds nm with
   |none=>
    rw[ha] at ho;exact .inr ⟨by simpa [zab] using ho,g.loc _ _ (.inr ha)⟩
   |some y=>rw[ha] at ho;exact .inl ⟨rfl,ho⟩
  ·rw[if_neg hd] at ho;exact .inr ⟨ho,g.loc _ _ (.inl hd)⟩
 have own':∀dep nm ob,zab (H'::O) dep nm=some ob→ρ' dep nm=ρ dep nm→OwnAt K' (fun d n=>ρ' (dep+d) n) (shape ((addS (H'::O) adds).drop dep)) w' (ρ' dep nm) ob:=by
  intro dep nm ob ho he;have h0:=h.own _ _ _ ho;rw[he];refine h0.stays ⟨g.le,?_,?_⟩ ?_ ?_
  ·intro d n x e;rw[zbk] at *;exact hst.shp _ _ _ e
  ·intro d n x e;rw[zbk] at e;exact hst.loc _ _ _ e
  ·intro hb;exact g.old _ (h0.lt hb)
  ·intro hb o;exact hKsame _ (h0.lt hb) o
 refine⟨⟨g.holds,?_,?_,by have:=h.size;have:=g.size;omega,?_,?_,?_,Kn.le_trans h.Kle g.le,?_,?_⟩,hst⟩
 ·intro dep nm ob ho;rcases cases_obj _ _ _ ho with ⟨rfl,ha⟩|⟨ho',he⟩
  ·have h1:=(g.own nm ob ha).1;refine h1.stays ⟨K'.le_refl,?_,fun d n _ _=>by simp⟩ (fun _=>rfl) (fun _ _=>rfl);intro d n x e;rw[List.drop_zero];exact hsub _ _ _ e
  ·exact own' _ _ _ ho' he
 ·intro dep nm ob dep' nm' ob' h1 h2 b1 b2 he;rcases cases_obj _ _ _ h1 with ⟨rfl,ha⟩|⟨ho1,e1⟩<;>rcases cases_obj _ _ _ h2 with ⟨rfl,ha'⟩|⟨ho2,e2⟩
  ·exact⟨rfl,g.inj _ _ _ _ ha ha' b1 b2 he⟩
  ·rw[e2] at b2 he;have:=(h.own _ _ _ ho2).lt b2;have:=(g.own nm ob ha).2 b1;omega
  ·rw[e1] at b1 he;have:=(h.own _ _ _ ho1).lt b1;have:=(g.own nm' ob' ha').2 b2;omega
  ·rw[e1] at b1 he;rw[e2] at b2 he;exact h.inj _ _ _ _ _ _ ho1 ho2 b1 b2 he
 ·intro b hb hno;rw[g.old b (by have:=h.size;have:=E.lt b hb;omega)];refine h.old b hb fun dep nm ob ho hbk=>?_;have e1:ρ' (dep+1) nm=ρ (dep+1) nm:=g.loc _ _ (.inl (by omega));have:=hno dep nm ob (by rw[zbz,if_neg (by omega)];exact ho) (by rw[e1];exact hbk);rw[e1] at this;exact this
 ·intro nm ob ho hb;rcases cases_obj _ _ _ ho with ⟨_,ha⟩|⟨ho',e⟩
  ·have:=(g.own nm ob ha).2 hb;have:=h.size;intro hp;have:=E.lt _ hp;omega
  ·rw[e] at hb ⊢;exact h.loc _ _ ho' hb
 ·intro dep;funext nm;rw[g.loc _ _ (.inl (by omega)),h.outer]
 ·intro b o x hx;rcases g.new _ _ _ hx with h1|h1
  ·exact h.Knew _ _ _ h1
  ·have:=h.size;exact .inr fun hp=>by have:=E.lt _ hp;omega
 ·obtain⟨r1,r2,r3⟩:=h.rest;obtain⟨q1,q2,q3⟩:=g.rest;exact⟨q1.trans r1,q2.trans r2,q3.trans r3⟩
theorem HInv.restrict {E:Env} {K:Kn} {ρ:Nat→Nat→Loc} {S S':List Heap} {w:World} (h:HInv E K ρ S' w) (hs:SubS S S')
  (hsh:∀dep nm ob,zab S dep nm=some ob→OwnAt K (fun d n=>ρ (dep+d) n) (shape (S.drop dep)) w (ρ dep nm) ob):HInv E K ρ S w where
 holds:=h.holds
 own:=hsh
 inj:=fun _ _ _ _ _ _ a b=>h.inj _ _ _ _ _ _ (hs.obj _ _ _ a) (hs.obj _ _ _ b)
 size:=h.size
 old:=fun b hb hn=>h.old b hb fun dep nm ob ho=>hn dep nm ob (by rw[hs.tail];exact ho)
 loc:=fun _ _ a=>h.loc _ _ (hs.obj _ _ _ a)
 outer:=h.outer
 Kle:=h.Kle
 Knew:=h.Knew
 rest:=h.rest
end Go.AI
