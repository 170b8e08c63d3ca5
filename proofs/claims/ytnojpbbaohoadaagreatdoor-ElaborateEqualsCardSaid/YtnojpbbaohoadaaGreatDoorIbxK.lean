/- The layer of abstract runs, part 11. -/
import Derived.Test.YtnojpbbaohoadaaGreatDoorIbxJ
set_option linter.unusedSimpArgs false
set_option linter.unusedVariables false
set_option linter.all false
set_option maxHeartbeats 4000000
namespace Go.AI
theorem beq_of_eq {a b:Nat} (h:a=b):Nat.beq a b=true:=by subst h;simp
theorem zdl {a b:Nat} (h:a≠b):Nat.beq a b=false:=by
 cases hb:Nat.beq a b
 ·rfl
 ·exact absurd (Nat.eq_of_beq_eq_true hb) h
theorem zb1 (m:Nat):∀(H:Heap) (n:Nat),look (zbq m H) n=if n=m then none else (look H n).map (Ob.kill m)
 |[],n=>by simp[zbq,look]
 |(t,o)::r,n=>by
  have ih:=zb1 m r n;simp only[zbq]
  by_cases ht:t=m
  ·rw[beq_of_eq ht,cond_true,ih,zac];subst ht
   by_cases hn:n=t
   ·simp[hn]
   ·simp[hn,Ne.symm hn]
  ·rw[zdl ht,cond_false,zac,zac,ih]
   by_cases hn:t=n
   ·subst hn;simp[ht]
   ·simp[hn]
theorem zcG (m:Nat):∀(σ:List (Nat×D)) (t:Nat),look (zdP m σ) t=(look σ t).map (D.kill m)
 |[],t=>by simp[zdP,look]
 |(k,d)::r,t=>by
  simp only[zdP,zac,zcG m r t]
  split<;>simp
section
variable {P:Program} {T:TT} {E:Env} {K:Kn} {ρ ρ':Nat→Nat→Loc} {S:List Heap} {w:World} {sh sh':Nat→Nat→Option Sh} {m:Nat}
def But (m:Nat) (ρ ρ':Nat→Nat→Loc) (sh sh':Nat→Nat→Option Sh):Prop:=∀dep n x,(dep≠0∨n≠m)→sh dep n=some x→sh' dep n=some x∧ρ' dep n=ρ dep n
mutual
theorem RepD.kill (h:But m ρ ρ' sh sh'):∀{v:Value} {d:D},RepD K ρ sh v d→RepD K ρ' sh' v (d.kill m)
 |_,_,.dead x=>.dead x
 |_,_,.i r=>.i r
 |_,_,.agg r=>.agg (RepDL.kill h r)
 |_,_,.tup r=>.tup (RepDL.kill h r)
 |_,_,.box (dep:=dep) (nm:=nm) e=>by
  cases dep with
  |zero=>
   simp only[D.kill]
   by_cases hn:nm=m
   ·rw[beq_of_eq hn];exact .dead _
   ·rw[zdl hn];obtain⟨h1,h2⟩:=h _ _ _ (.inr hn) e;rw[←h2];exact .box h1
  |succ dep=>
   obtain⟨h1,h2⟩:=h _ _ _ (.inl (by omega)) e;rw[←h2];exact .box h1
 |_,_,.arr (dep:=dep) (nm:=nm) e l=>by
  cases dep with
  |zero=>
   simp only[D.kill]
   by_cases hn:nm=m
   ·rw[beq_of_eq hn];exact .dead _
   ·rw[zdl hn];obtain⟨h1,h2⟩:=h _ _ _ (.inr hn) e;rw[←h2];exact .arr h1 l
  |succ dep=>
   obtain⟨h1,h2⟩:=h _ _ _ (.inl (by omega)) e;rw[←h2];exact .arr h1 l
 |_,_,.osl (dep:=dep) (nm:=nm) e=>by
  cases dep with
  |zero=>
   simp only[D.kill]
   by_cases hn:nm=m
   ·rw[beq_of_eq hn];exact .dead _
   ·rw[zdl hn];obtain⟨h1,h2⟩:=h _ _ _ (.inr hn) e;rw[←h2];exact .osl h1
  |succ dep=>
   obtain⟨h1,h2⟩:=h _ _ _ (.inl (by omega)) e;rw[←h2];exact .osl h1
 |_,_,.omp (dep:=dep) (nm:=nm) e=>by
  cases dep with
  |zero=>
   simp only[D.kill]
   by_cases hn:nm=m
   ·rw[beq_of_eq hn];exact .dead _
   ·rw[zdl hn];obtain⟨h1,h2⟩:=h _ _ _ (.inr hn) e;rw[←h2];exact .omp h1
  |succ dep=>
   obtain⟨h1,h2⟩:=h _ _ _ (.inl (by omega)) e;rw[←h2];exact .omp h1
 |_,_,.psl (nm:=nm) e l=>by
  simp only[D.kill]
  by_cases hn:nm=m
  ·rw[beq_of_eq hn];exact .dead _
  ·rw[zdl hn];obtain⟨h1,h2⟩:=h _ _ _ (.inr hn) e;rw[←h2];exact .psl h1 l
 |_,_,.xsl r e k l=>.xsl r e k l
 |_,_,.xnil=>.xnil
 |_,_,.bt=>.bt
 |_,_,.bf=>.bf
 |_,_,.fn r s=>.fn (RepDL.kill h r) (RepDL.kill h s)
theorem RepDL.kill (h:But m ρ ρ' sh sh'):∀{v:List Value} {d:List D},RepDL K ρ sh v d→RepDL K ρ' sh' v (D.kills m d)
 |_,_,.nil=>.nil
 |_,_,.cons r rs=>.cons (RepD.kill h r) (RepDL.kill h rs)
end
theorem Ob.kill_sh (m:Nat) (o:Ob):(o.kill m).sh=o.sh:=by cases o<;>rfl
theorem zhx (m:Nat) (l:Loc) (o:Ob):zaD l (o.kill m)↔zaD l o:=by cases o<;>rfl
theorem OwnAt.kill {w':World} {l:Loc} {ob:Ob} (h:OwnAt K ρ sh w l ob) (hb:But m ρ ρ' sh sh') (hw:zaD l ob→w'.heap[l.block]? = w.heap[l.block]?):OwnAt K ρ' sh' w' l (ob.kill m):=by
 cases ob with
 |mp kk m=>
  obtain⟨⟨es,ck,h1,h2⟩,h3⟩:=h;exact⟨⟨es,ck,by rw[hw trivial];exact h1,h2⟩,h3⟩
 |box cs=>
  obtain⟨c,T,h1,h2,h3⟩:=h;exact⟨c,T,by rw[hw trivial];exact h1,h2.kill hb,h3⟩
 |tb T cs=>
  obtain⟨c,h1,h2,h3⟩:=h;exact⟨c,by rw[hw trivial];exact h1,h2.kill hb,h3⟩
 |arr ty es n xs wr=>
  obtain⟨h1,h2,h2',h2'',h3⟩:=h;refine⟨h1,h2,h2',h2'',?_⟩;rcases h3 with h3|⟨h4,c,h5,h6⟩
  ·exact .inl h3
  ·exact .inr ⟨h4,c,by rw[hw (by show _≠none;rw[h4];simp)];exact h5,h6⟩
theorem HInv.renew {w':World} {H:Heap} {O:List Heap} {nm dst:Nat} {ob ob':Ob} {l':Loc} (h:HInv E K ρ (H::O) w) (ho:look H nm=some ob) (hd:look (zbq nm H) dst=none)
  (hap:Apnd K w w' (ρ 0 nm) l') (hbo:zaD (ρ 0 nm) ob↔(ρ 0 nm).base≠none) (hbo':zaD l' ob'↔l'.base≠none) (hKo:zaD (ρ 0 nm) ob→∀o,K (ρ 0 nm).block o=none)
  (hown:∀(ρ':Nat→Nat→Loc) (sh':Nat→Nat→Option Sh),OwnAt K ρ' sh' w' l' ob') :
  HInv E K (upd ρ dst l') (((dst,ob')::zbq nm H)::O) w'∧But nm ρ (upd ρ dst l') (shape (H::O)) (shape (((dst,ob')::zbq nm H)::O)):=by
 have hobj:∀d n,zab (((dst,ob')::zbq nm H)::O) d n=if d=0 then (if dst=n then some ob' else if n=nm then none else (look H n).map (Ob.kill nm)) else zab (H::O) d n:=by
  intro d n
  cases d with
  |zero=>simp only[zab,List.getElem?_cons_zero,zac,zb1,if_true]
  |succ d=>simp[zab]
 have hdst:dst=nm∨look H dst=none:=by
  rw[zb1] at hd
  by_cases hdn:dst=nm
  ·exact .inl hdn
  ·rw[if_neg hdn] at hd;exact .inr (by simpa using hd)
 have hbut:But nm ρ (upd ρ dst l') (shape (H::O)) (shape (((dst,ob')::zbq nm H)::O)):=by
  intro d n x hdn hx
  by_cases hd0:d=0
  ·subst hd0;have hn:n≠nm:=by rcases hdn with h|h<;>first|exact absurd rfl h|exact h
   have hne:dst≠n:=by
    intro e;subst e;rcases hdst with h|h
    ·exact hn h
    ·simp[shape,zab,h] at hx
   refine⟨?_,zaO _ _ _ (.inr fun e=>hne e.symm)⟩;unfold shape at *;rw[hobj];simp only[if_true,if_neg hne,if_neg hn];simp only[zab,List.getElem?_cons_zero] at hx
   cases hl:look H n with
   |none=>simp[hl] at hx
   |some o=>simpa [hl,Ob.kill_sh] using hx
  ·refine⟨?_,zaO _ _ _ (.inl hd0)⟩;unfold shape at *;rw[hobj,if_neg hd0];exact hx
 have hcase:∀d n o,zab (((dst,ob')::zbq nm H)::O) d n=some o →
   (d=0∧n=dst∧o=ob')∨∃o0,zab (H::O) d n=some o0∧¬(d=0∧n=nm)∧¬(d=0∧n=dst)∧((d=0∧o=o0.kill nm)∨(d≠0∧o=o0)):=by
  intro d n o he;rw[hobj] at he
  by_cases hd0:d=0
  ·subst hd0;rw[if_pos rfl] at he
   by_cases hn:dst=n
   ·rw[if_pos hn] at he;exact .inl ⟨rfl,hn.symm,by simpa using he.symm⟩
   ·rw[if_neg hn] at he
    by_cases hn2:n=nm
    ·rw[if_pos hn2] at he;cases he
    ·rw[if_neg hn2] at he
     cases hl:look H n with
     |none=>simp[hl] at he
     |some o0=>
      refine .inr ⟨o0,by simpa [zab] using hl,fun e=>hn2 e.2,fun e=>hn e.2.symm,.inl ⟨rfl,?_⟩⟩;simpa [hl] using he.symm
  ·rw[if_neg hd0] at he;exact .inr ⟨o,he,fun e=>hd0 e.1,fun e=>hd0 e.1,.inr ⟨hd0,rfl⟩⟩
 have hbk:∀{d:Nat} {o o0:Ob} {l:Loc},((d=0∧o=o0.kill nm)∨(d≠0∧o=o0))→(zaD l o↔zaD l o0):=by
  intro d o o0 l hh;rcases hh with ⟨_,rfl⟩|⟨_,rfl⟩
  ·exact zhx _ _ _
  ·exact Iff.rfl
 have hnmo:zab (H::O) 0 nm=some ob:=by simpa [zab] using ho
 have hold:∀{d n:Nat} {o0:Ob},zab (H::O) d n=some o0→¬(d=0∧n=nm)→zaD (ρ d n) o0→w'.heap[(ρ d n).block]? = w.heap[(ρ d n).block]?:=by
  intro d n o0 h1 h2 h3;refine hap.old _ ((h.own _ _ _ h1).lt h3) fun hbn hbe=>h2 ?_;exact h.inj _ _ _ _ _ _ h1 hnmo h3 (hbo.2 hbn) hbe
 refine⟨⟨?_,?_,?_,by have:=h.size;have:=hap.size;omega,?_,?_,?_,h.Kle,h.Knew,?_⟩,hbut⟩
 ·intro b o x hx;have h1:=h.holds _ _ _ hx;have hlt:b<w.heap.size:=by
   rcases Nat.lt_or_ge b w.heap.size with h'|h'
   ·exact h'
   ·rw[h.K_fresh h'] at hx;cases hx
  rw[World.cell?,hap.old b hlt fun hbn hbe=>by subst hbe;rw[hKo (hbo.2 hbn)] at hx;cases hx];exact h1
 ·intro d n o he;rcases hcase _ _ _ he with ⟨rfl,rfl,rfl⟩|⟨o0,h1,h2,h3,h4⟩
  ·rw[zaV];exact hown _ _
  ·have h0:=h.own _ _ _ h1;have e1:upd ρ dst l' d n=ρ d n:=zaO _ _ _ (by omega);rw[e1];rcases h4 with ⟨rfl,rfl⟩|⟨hd0,rfl⟩
   ·refine h0.kill ?_ (fun hb=>hold h1 h2 hb);intro d' n' x hx hx';rw[zbk] at hx' ⊢;simp only[Nat.zero_add] at hx' ⊢;exact hbut _ _ _ hx hx'
   ·refine h0.stays ⟨K.le_refl,?_,?_⟩ (fun hb=>hold h1 h2 hb) (fun _ _=>rfl)
    ·intro d' n' x hx;rw[zbk] at hx ⊢;exact (hbut _ _ _ (.inl (by omega)) hx).1
    ·intro d' n' x hx;exact zaO _ _ _ (.inl (by omega))
 ·intro d n o d' n' o' h1 h2 b1 b2 hbe;rcases hcase _ _ _ h1 with ⟨rfl,rfl,rfl⟩|⟨o0,h1',hn1,hd1,hk1⟩<;>rcases hcase _ _ _ h2 with ⟨rfl,rfl,rfl⟩|⟨o0',h2',hn2,hd2,hk2⟩
  ·exact⟨rfl,rfl⟩
  ·have e2:upd ρ n l' d' n'=ρ d' n':=zaO _ _ _ (by omega);rw[e2] at b2 hbe;rw[zaV] at b1 hbe;have b2':=(hbk hk2).1 b2;have hlt:=(h.own _ _ _ h2').lt b2';rcases hap.blk (hbo'.1 b1) with h'|⟨h',h''⟩
   ·omega
   ·rw[h''] at hbe;exact absurd (h.inj _ _ _ _ _ _ h2' hnmo b2' (hbo.2 h') hbe.symm) hn2
  ·have e1:upd ρ n' l' d n=ρ d n:=zaO _ _ _ (by omega);rw[e1] at b1 hbe;rw[zaV] at b2 hbe;have b1':=(hbk hk1).1 b1;have hlt:=(h.own _ _ _ h1').lt b1';rcases hap.blk (hbo'.1 b2) with h'|⟨h',h''⟩
   ·omega
   ·rw[h''] at hbe;exact absurd (h.inj _ _ _ _ _ _ h1' hnmo b1' (hbo.2 h') hbe) hn1
  ·have e1:upd ρ dst l' d n=ρ d n:=zaO _ _ _ (by omega);have e2:upd ρ dst l' d' n'=ρ d' n':=zaO _ _ _ (by omega);rw[e1] at b1 hbe;rw[e2] at b2 hbe;exact h.inj _ _ _ _ _ _ h1' h2' ((hbk hk1).1 b1) ((hbk hk2).1 b2) hbe
 ·intro b hb hno;have hsz:=h.size;rw[hap.old b (by have:=E.lt b hb;omega) fun hbn hbe=>h.loc _ _ hnmo (hbo.2 hbn) (hbe ▸ hb)];refine h.old b hb fun d n o h1 hbk'=>?_;have e:upd ρ dst l' (d+1) n=ρ (d+1) n:=zaO _ _ _ (.inl (by omega));have:=hno d n o (by rw[hobj,if_neg (by omega)];exact h1) (by rw[e];exact hbk');rwa [e] at this
 ·intro n o h1 hbk';rcases hcase _ _ _ h1 with ⟨_,rfl,rfl⟩|⟨o0,h1',hn1,hd1,hk1⟩
  ·rw[zaV] at hbk' ⊢;have hsz:=h.size;rcases hap.blk (hbo'.1 hbk') with h'|⟨h',h''⟩
   ·intro hp;have:=E.lt _ hp;omega
   ·rw[h''];exact h.loc _ _ hnmo (hbo.2 h')
  ·have e1:upd ρ dst l' 0 n=ρ 0 n:=zaO _ _ _ (by omega);rw[e1] at hbk' ⊢;exact h.loc _ _ h1' ((hbk hk1).1 hbk')
 ·intro d;funext n;rw[zaO _ _ _ (.inl (by omega)),h.outer]
 ·obtain⟨a1,a2,a3⟩:=hap.rest;obtain⟨b1,b2,b3⟩:=h.rest;exact⟨a1.trans b1,a2.trans b2,a3.trans b3⟩
end
end Go.AI
