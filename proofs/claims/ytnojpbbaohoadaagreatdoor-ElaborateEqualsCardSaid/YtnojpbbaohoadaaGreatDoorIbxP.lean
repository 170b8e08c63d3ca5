/- The layer of abstract runs, part 16. -/
import Derived.Test.YtnojpbbaohoadaaGreatDoorIbxO
set_option linter.unusedSimpArgs false
set_option linter.unusedVariables false
set_option linter.all false
set_option maxHeartbeats 4000000
namespace Go.AI
mutual
def D.down:D→D
 |.own 0 nm j off=>.own 0 nm j off
 |.own (dep+1) nm j off=>.own dep nm j off
 |.osl 0 nm=>.osl 0 nm
 |.osl (dep+1) nm=>.osl dep nm
 |.fn f a b=>.fn f (D.downs a) (D.downs b)
 |.agg cs=>.agg (D.downs cs)
 |.tup cs=>.tup (D.downs cs)
 |d=>d
def D.downs:List D→List D
 |[]=>[]
 |d::r=>d.down::D.downs r
end
def Ob.down:Ob→Ob
 |.box cs=>.box (D.downs cs)
 |.tb T cs=>.tb T (D.downs cs)
 |o=>o
def zcE:Heap→Heap
 |[]=>[]
 |(n,o)::r=>(n,o.down)::zcE r
theorem zh4:∀(H:Heap) (n:Nat),look (zcE H) n=(look H n).map Ob.down
 |[],n=>by simp[zcE,look]
 |(k,o)::r,n=>by simp only[zcE,zac,zh4 r n];split<;>simp
theorem Ob.down_sh (o:Ob):o.down.sh=o.sh:=by cases o<;>rfl
theorem zcP (l:Loc) (o:Ob):zaD l o.down↔zaD l o:=by cases o<;>rfl
theorem zcO {l:Loc} {o o':Ob} (h:o.sh=o'.sh):zaD l o↔zaD l o':=by
 cases o<;>cases o'<;>simp_all [Ob.sh,zaD]
section
variable {K:Kn} {ρ ρ':Nat→Nat→Loc} {sh sh':Nat→Nat→Option Sh}
structure Dn (ρ ρ':Nat→Nat→Loc) (sh sh':Nat→Nat→Option Sh):Prop where
 z:∀n x,sh 0 n=some x→sh' 0 n=some x∧ρ' 0 n=ρ 0 n
 s:∀d n x,sh (d+1) n=some x→sh' d n=some x∧ρ' d n=ρ (d+1) n
mutual
theorem RepD.down (h:Dn ρ ρ' sh sh'):∀{v:Value} {d:D},RepD K ρ sh v d→RepD K ρ' sh' v d.down
 |_,_,.dead x=>.dead x
 |_,_,.i r=>.i r
 |_,_,.agg r=>.agg (RepDL.down h r)
 |_,_,.tup r=>.tup (RepDL.down h r)
 |_,_,.box (dep:=dep) e=>by
  cases dep with
  |zero=>obtain⟨h1,h2⟩:=h.z _ _ e;rw[←h2];exact .box h1
  |succ dep=>obtain⟨h1,h2⟩:=h.s _ _ _ e;rw[←h2];exact .box h1
 |_,_,.arr (dep:=dep) e l=>by
  cases dep with
  |zero=>obtain⟨h1,h2⟩:=h.z _ _ e;rw[←h2];exact .arr h1 l
  |succ dep=>obtain⟨h1,h2⟩:=h.s _ _ _ e;rw[←h2];exact .arr h1 l
 |_,_,.osl (dep:=dep) e=>by
  cases dep with
  |zero=>obtain⟨h1,h2⟩:=h.z _ _ e;rw[←h2];exact .osl h1
  |succ dep=>obtain⟨h1,h2⟩:=h.s _ _ _ e;rw[←h2];exact .osl h1
 |_,_,.omp (dep:=dep) e=>by
  cases dep with
  |zero=>obtain⟨h1,h2⟩:=h.z _ _ e;rw[←h2];exact .omp h1
  |succ dep=>obtain⟨h1,h2⟩:=h.s _ _ _ e;rw[←h2];exact .omp h1
 |_,_,.psl e l=>by obtain⟨h1,h2⟩:=h.z _ _ e;rw[←h2];exact .psl h1 l
 |_,_,.xsl r e k l=>.xsl r e k l
 |_,_,.xnil=>.xnil
 |_,_,.bt=>.bt
 |_,_,.bf=>.bf
 |_,_,.fn r s=>.fn (RepDL.down h r) (RepDL.down h s)
theorem RepDL.down (h:Dn ρ ρ' sh sh'):∀{v:List Value} {d:List D},RepDL K ρ sh v d→RepDL K ρ' sh' v (D.downs d)
 |_,_,.nil=>.nil
 |_,_,.cons r rs=>.cons (RepD.down h r) (RepDL.down h rs)
end
theorem OwnAt.down {w:World} {l:Loc} {ob:Ob} (h:OwnAt K ρ sh w l ob) (hd:Dn ρ ρ' sh sh'):OwnAt K ρ' sh' w l ob.down:=by
 cases ob with
 |mp kk m=>exact h
 |box cs=>
  obtain⟨c,T,h1,h2,h3⟩:=h;exact⟨c,T,h1,h2.down hd,h3⟩
 |tb T cs=>
  obtain⟨c,h1,h2,h3⟩:=h;exact⟨c,h1,h2.down hd,h3⟩
 |arr ty es n xs wr=>exact h
end
theorem HInv.back {E:Env} {K K':Kn} {ρ ρ':Nat→Nat→Loc} {H H' Hr:Heap} {O O':List Heap} {w w':World} (h:HInv E K ρ (H::O) w) (h':HInv (.of K ρ w) K' ρ' (Hr::H'::O') w')
  (hsh:shape (H'::O')=shape (H::O)) (hf:∀nm,look Hr nm≠none→look H' nm=none) :
  ∃ρ'',HInv E K' ρ'' ((zcE Hr++H')::O') w'∧Stays K K' ρ ρ'' (shape (H::O)) (shape ((zcE Hr++H')::O'))∧Dn ρ' ρ'' (shape (Hr::H'::O')) (shape ((zcE Hr++H')::O')):=by
 let ρ'':Nat→Nat→Loc:=fun d n=>match d with
  |0=>match look Hr n with
   |some _=>ρ' 0 n
   |none=>ρ' 1 n
  |d+1=>ρ' (d+2) n
 have hout:∀d n,ρ' (d+1) n=ρ d n:=fun d n=>by rw[h'.outer];rfl
 have r0:∀n ob,look Hr n=some ob→ρ'' 0 n=ρ' 0 n:=by intro n ob e;simp only[ρ'',e]
 have r1:∀n,look Hr n=none→ρ'' 0 n=ρ 0 n:=by intro n e;simp only[ρ'',e,hout]
 have r2:∀d n,ρ'' (d+1) n=ρ (d+1) n:=by intro d n;simp only[ρ'',hout]
 have hfr:∀n ob,look H' n=some ob→look Hr n=none:=by
  intro n ob e
  cases hl:look Hr n with
  |none=>rfl
  |some o=>have:=hf n (by simp[hl]);rw[this] at e;cases e
 have hobj:∀d n,zab ((zcE Hr++H')::O') d n=match d with
   |0=>match look Hr n with
    |some o=>some o.down
    |none=>look H' n
   |d+1=>zab (H'::O') (d+1) n:=by
  intro d n
  cases d with
  |zero=>
   simp only[zab,List.getElem?_cons_zero,zbY,zh4]
   cases look Hr n<;>rfl
  |succ d=>simp[zab]
 have hcase:∀d n ob,zab ((zcE Hr++H')::O') d n=some ob →
   (d=0∧∃o,look Hr n=some o∧ob=o.down∧zab (Hr::H'::O') 0 n=some o∧ρ'' d n=ρ' 0 n) ∨
   (zab (H'::O') d n=some ob∧zab (Hr::H'::O') (d+1) n=some ob∧ρ'' d n=ρ d n∧ρ'' d n=ρ' (d+1) n∧(d=0→look Hr n=none)):=by
  intro d n ob e;rw[hobj] at e
  cases d with
  |zero=>
   simp only at e
   cases hl:look Hr n with
   |some o=>
    rw[hl] at e;simp only[Option.some.injEq] at e;exact .inl ⟨rfl,o,rfl,e.symm,by simpa [zab] using hl,r0 _ _ hl⟩
   |none=>
    rw[hl] at e;exact .inr ⟨by simpa [zab] using e,by simpa [zab] using e,r1 _ hl,by rw[r1 _ hl,hout],fun _=>rfl⟩
  |succ d=>exact .inr ⟨e,by simpa [zab] using e,r2 _ _,by rw[r2,hout],fun e=>by omega⟩
 have hold:∀d n ob,zab (H'::O') d n=some ob→∃o0,zab (H::O) d n=some o0∧ob.sh=o0.sh:=by
  intro d n ob e;have:=congrFun (congrFun hsh d) n;simp only[shape,e,Option.map_some] at this
  cases ho:zab (H::O) d n with
  |none=>simp[ho] at this
  |some o0=>simp only[ho,Option.map_some,Option.some.injEq] at this;exact⟨o0,rfl,this⟩
 have hold':∀d n o0,zab (H::O) d n=some o0→∃ob,zab (H'::O') d n=some ob∧ob.sh=o0.sh:=by
  intro d n ob e;have:=congrFun (congrFun hsh d) n;simp only[shape,e,Option.map_some] at this
  cases ho:zab (H'::O') d n with
  |none=>simp[ho] at this
  |some o0=>simp only[ho,Option.map_some,Option.some.injEq] at this;exact⟨o0,rfl,this⟩
 have hmer:∀d n x,shape (H'::O') d n=some x→shape ((zcE Hr++H')::O') d n=some x∧ρ'' d n=ρ d n:=by
  intro d n x e
  cases d with
  |zero=>
   cases hl:look H' n with
   |none=>simp[shape,zab,hl] at e
   |some ob=>
    have hr:=hfr _ _ hl;refine⟨?_,r1 _ hr⟩;simp only[shape,zab,List.getElem?_cons_zero,hl] at e;simp only[shape,hobj,hr,hl];exact e
  |succ d=>
   refine⟨?_,r2 _ _⟩;simp only[shape,hobj] at *;exact e
 have hdn:Dn ρ' ρ'' (shape (Hr::H'::O')) (shape ((zcE Hr++H')::O')):=by
  refine⟨fun n x e=>?_,fun d n x e=>?_⟩
  ·cases hl:look Hr n with
   |none=>simp[shape,zab,hl] at e
   |some ob=>
    refine⟨?_,r0 _ _ hl⟩;simp only[shape,zab,List.getElem?_cons_zero,hl,Option.map_some,Option.some.injEq] at e;simp[shape,hobj,hl,Ob.down_sh,e]
  ·have e':shape (H'::O') d n=some x:=by simpa [shape,zab] using e
   obtain⟨h1,h2⟩:=hmer _ _ _ e';exact⟨h1,by rw[h2,hout]⟩
 have hsz:=h.size;have hsz':w.heap.size≤w'.heap.size:=h'.size;refine⟨ρ'',⟨h'.holds,?_,?_,by omega,?_,?_,?_,Kn.le_trans h.Kle h'.Kle,?_,?_⟩,⟨h'.Kle,?_,?_⟩,hdn⟩
 ·intro d n ob e;rcases hcase _ _ _ e with ⟨rfl,o,hl,rfl,ho,hρ⟩|⟨e1,e2,e3,e4,e5⟩
  ·rw[hρ];have h0:=h'.own _ _ _ ho;refine h0.down ⟨fun n x e=>?_,fun d n x e=>?_⟩
   ·simp only[List.drop_zero,Nat.zero_add] at *;exact hdn.z _ _ e
   ·simp only[List.drop_zero,Nat.zero_add] at *;exact hdn.s _ _ _ e
  ·rw[e4];have h0:=h'.own _ _ _ e2;refine h0.stays ⟨K'.le_refl,fun d' n' x hx=>?_,fun d' n' x hx=>?_⟩ (fun _=>rfl) (fun _ _=>rfl)
   ·rw[zbk] at hx ⊢;have hx':shape (H'::O') (d+d') n'=some x:=by
     rw[show d+1+d'=(d+d')+1 by omega] at hx;simpa [shape,zab] using hx
    exact (hmer _ _ _ hx').1
   ·rw[zbk] at hx;have hx':shape (H'::O') (d+d') n'=some x:=by
     rw[show d+1+d'=(d+d')+1 by omega] at hx;simpa [shape,zab] using hx
    rw[(hmer _ _ _ hx').2,show d+1+d'=(d+d')+1 by omega,hout]
 ·intro d n ob d' n' ob' e e' b b' hbe;rcases hcase _ _ _ e with ⟨rfl,o,hl,rfl,ho,hρ⟩|⟨e1,e2,e3,e4,e5⟩<;>rcases hcase _ _ _ e' with ⟨rfl,o',hl',rfl,ho',hρ'⟩|⟨e1',e2',e3',e4',e5'⟩
  ·rw[hρ] at b hbe;rw[hρ'] at b' hbe;exact⟨rfl,(h'.inj _ _ _ _ _ _ ho ho' ((zcP _ _).1 b) ((zcP _ _).1 b') hbe).2⟩
  ·rw[hρ] at b hbe;rw[e4'] at b' hbe;have:=(h'.inj _ _ _ _ _ _ ho e2' ((zcP _ _).1 b) b' hbe).1;omega
  ·rw[e4] at b hbe;rw[hρ'] at b' hbe;have:=(h'.inj _ _ _ _ _ _ e2 ho' b ((zcP _ _).1 b') hbe).1;omega
  ·rw[e4] at b hbe;rw[e4'] at b' hbe;have:=h'.inj _ _ _ _ _ _ e2 e2' b b' hbe;exact⟨by omega,this.2⟩
 ·intro b hb hno;have h1:=h'.old b (by have:=E.lt b hb;have:=h.size;show b<w.heap.size;omega) (by
   intro d n ob e hbk;have e1:zab (H'::O') d n=some ob:=by simpa [zab] using e
   rw[hout] at hbk ⊢;obtain⟨o0,ho0,hs0⟩:=hold _ _ _ e1
   cases d with
   |zero=>
    have:=h.loc _ _ ho0 ((zcO hs0).1 hbk);exact fun e=>this (e ▸ hb)
   |succ d=>
    have:=hno d n ob (by rw[hobj];exact e1) (by rw[r2];exact hbk);rwa [r2] at this)
  rw[h1];refine h.old b hb fun d n ob e hbk=>?_;obtain⟨o1,ho1,hs1⟩:=hold' _ _ _ e;have:=hno d n o1 (by rw[hobj];exact ho1) (by rw[r2];exact (zcO hs1).2 hbk);rwa [r2] at this
 ·intro n ob e b;rcases hcase _ _ _ e with ⟨_,o,hl,rfl,ho,hρ⟩|⟨e1,e2,e3,e4,e5⟩
  ·rw[hρ] at b ⊢;have:=h'.loc _ _ ho ((zcP _ _).1 b);have:¬(ρ' 0 n).block<w.heap.size:=this;intro hp;have:=E.lt _ hp;have:=h.size;omega
  ·rw[e3] at b ⊢;obtain⟨o0,ho0,hs0⟩:=hold _ _ _ e1;exact h.loc _ _ ho0 ((zcO hs0).1 b)
 ·intro d;funext n;rw[r2,h.outer]
 ·intro b o x hx;rcases h'.Knew _ _ _ hx with h1|h1
  ·exact h.Knew _ _ _ h1
  ·have:¬b<w.heap.size:=h1;exact .inr fun hp=>by have:=E.lt _ hp;have:=h.size;omega
 ·obtain⟨a1,a2,a3⟩:=h'.rest;obtain⟨b1,b2,b3⟩:=h.rest;exact⟨a1.trans b1,a2.trans b2,a3.trans b3⟩
 ·intro d n x e;rw[←hsh] at e;exact (hmer _ _ _ e).1
 ·intro d n x e;rw[←hsh] at e;exact (hmer _ _ _ e).2
mutual
def D.imm (H:Heap):D→D
 |.osl 0 nm=>match look H nm with
  |some (.arr _ es n xs false)=>.i (.sl es n xs)
  |_=>.osl 0 nm
 |.xsl es n xs=>.i (.sl es n xs)
 |.bt=>.i (.v (.bool true))
 |.bf=>.i (.v (.bool false))
 |.fn f a b=>.fn f (D.imms H a) (D.imms H b)
 |.agg cs=>.agg (D.imms H cs)
 |.tup cs=>.tup (D.imms H cs)
 |d=>d
def D.imms (H:Heap):List D→List D
 |[]=>[]
 |d::r=>d.imm H::D.imms H r
end
def zhe:List Heap→Heap
 |[]=>[]
 |H::_=>H
theorem zdc {K:Kn} {ρ:Nat→Nat→Loc} {sh:Nat→Nat→Option Sh} {w:World} {l:Loc} {ty es n:Nat} {xs:List (List I)} (h:OwnAt K ρ sh w l (.arr ty es n xs false)):Rep K (.slice l.base n l.cap) (.sl es n xs):=by
 obtain⟨h1,h2,h3,h4,h5⟩:=h;rcases h5 with ⟨h5,h6⟩|⟨h5,c,h6,h7,h8,h9,h10,h11⟩
 ·have hn:n=0:=by omega
  subst hn;have hx:xs=[]:=List.eq_nil_of_length_eq_zero h2;subst hx;rw[h5,h6];exact .nil
 ·rw[h5];refine .sl h8 h1 (fun j x hx=>?_) h3 h2;rw[List.getElem?_take] at hx
  split at hx
  ·rw[Nat.zero_add,h11 rfl j (by assumption)];simpa using hx
  ·cases hx
section
variable {E:Env} {K:Kn} {ρ:Nat→Nat→Loc} {S:List Heap} {w:World}
mutual
theorem RepD.imm (hw:HInv E K ρ S w):∀{v:Value} {d:D},RepD K ρ (shape S) v d→RepD K ρ (shape S) v (d.imm (zhe S))
 |_,_,.dead x=>.dead x
 |_,_,.i r=>.i r
 |_,_,.agg r=>.agg (RepDL.imm hw r)
 |_,_,.tup r=>.tup (RepDL.imm hw r)
 |_,_,.box e=>.box e
 |_,_,.arr e l=>.arr e l
 |_,_,.osl (dep:=dep) (nm:=nm) e=>by
  cases dep with
  |succ d=>exact .osl e
  |zero=>
   simp only[D.imm]
   split
   ·rename_i ty es n xs hl;have ho:zab S 0 nm=some (.arr ty es n xs false):=by
     cases S with
     |nil=>simp[zhe,look] at hl
     |cons H O=>simpa [zab,zhe] using hl
    have hown:=hw.own _ _ _ ho;have e2:=e;simp only[shape,ho,Option.map_some,Ob.sh,Option.some.injEq,Sh.arr.injEq] at e2;obtain⟨rfl,rfl⟩:=e2;exact .i (zdc hown)
   ·exact .osl e
 |_,_,.omp (dep:=dep) (nm:=nm) e=>by
  cases dep with
  |succ d=>exact .omp e
  |zero=>
   simp only[D.imm]
   split
   ·rename_i ty es n xs hl;have ho:zab S 0 nm=some (.arr ty es n xs false):=by
     cases S with
     |nil=>simp[zhe,look] at hl
     |cons H O=>simpa [zab,zhe] using hl
    simp[shape,ho,Ob.sh] at e
   ·exact .omp e
 |_,_,.psl e l=>.psl e l
 |_,_,.xsl r e k l=>.i (.sl r e k (Nat.le_refl _) l)
 |_,_,.xnil=>.i .nil
 |_,_,.bt=>.i (.v rfl)
 |_,_,.bf=>.i (.v rfl)
 |_,_,.fn r s=>.fn (RepDL.imm hw r) (RepDL.imm hw s)
theorem RepDL.imm (hw:HInv E K ρ S w):∀{v:List Value} {d:List D},RepDL K ρ (shape S) v d→RepDL K ρ (shape S) v (D.imms (zhe S) d)
 |_,_,.nil=>.nil
 |_,_,.cons r rs=>.cons (RepD.imm hw r) (RepDL.imm hw rs)
end
end
theorem zkw {c:Cx} {s:St} {o:Oper} {Q:St→Prop} {f:FuncId} {args:List D} {res:D} {Hr H':Heap} {O':List Heap} {t:Nat}
  (hspec:zao c.P f (D.imms (zhe s.S) args) s.S res Hr (H'::O')) (ht:o.dst=some t) (hn:t<s.n) (hne:s.S≠[]) (hsh:shape (H'::O')=shape s.S) (hf:∀nm,look Hr nm≠none→look H' nm=none)
  (hq:Q {σ:=(t,res.down)::s.σ,S:=(zcE Hr++H')::O',n:=s.n}):Does c o s Q (.call f args):=by
 intro K ρ a w hi ⟨vs,hrun,hrep⟩ next Qe hnext
 cases hS:s.S with
 |nil=>exact absurd hS hne
 |cons H O=>
  have hh:=hi.h;have hrep':=RepDL.imm hh hrep;rw[hS] at hspec hsh hh hrep';have fin:∀v w',(∃K' ρ',HInv (.of K ρ w) K' ρ' (Hr::H'::O') w'∧RepD K' ρ' (shape (Hr::H'::O')) v res)→next (a.put o.dst v) w':=by
   intro v w' ⟨K',ρ',h1,h2⟩;obtain⟨ρ'',hI,hst,hdn⟩:=hh.back h1 hsh hf;refine hnext _ _ _ _ _ hst.le (fun d n x _ e=>⟨hst.shp _ _ _ (by rw[hS] at e;exact e),hst.loc _ _ _ (by rw[hS] at e;exact e)⟩) ?_ hq;rw[ht];refine zdu hi hn hI ?_ (h2.down hdn);rw[hS];exact hst
  rcases hspec c.E K ρ w vs hh hrep' with ⟨h1,h2⟩|⟨v,w',h1,h2⟩
  ·rw[h1] at hrun;simp only[Oper.wp,hrun,Oper.upon];refine h2.mono ?_;rintro e w' ⟨v,rfl,hR⟩;exact fin v w' hR
  ·rw[h1] at hrun;simp only[Oper.wp,hrun,Oper.upon];exact fin v w' h2
end Go.AI
