/- The layer of abstract runs, part 17. -/
import Derived.Test.YtnojpbbaohoadaaGreatDoorIbxP
set_option linter.unusedSimpArgs false
set_option linter.unusedVariables false
set_option linter.all false
set_option maxHeartbeats 4000000
namespace Go.AI
open Classical
def memH (Hr:Heap) (nm:Nat):Bool:=(look Hr nm).isSome
def D.ret1 (H Hr:Heap):D→D
 |.osl 0 nm=>bif memH Hr nm then .osl 0 nm else (match look H nm with
  |some (.arr _ es n xs _)=>.i (.sl es n xs)
  |_=>.dead)
 |.own 0 nm j off=>bif memH Hr nm then .own 0 nm j off else (match look H nm with
  |some (.arr _ es n xs _)=>.i (.ptr es xs j off)
  |_=>.dead)
 |.xsl es n xs=>.i (.sl es n xs)
 |.bt=>.i (.v (.bool true))
 |.bf=>.i (.v (.bool false))
 |.fn _ _ _=>.dead
 |.psl _ _=>.dead
 |.agg _=>.dead
 |.tup _=>.dead
 |d=>d
def D.ret2 (H Hr:Heap):D→D
 |.own 0 nm j off=>bif memH Hr nm then .own 0 nm j off else (match look H nm with
  |some (.arr _ es n xs _)=>.i (.ptr es xs j off)
  |some (.box cs)=>(match D.toIs (cs.map (D.ret1 H Hr)) with
   |some l=>.i (.ptr l.length [l] j off)
   |none=>.dead)
  |_=>.dead)
 |d=>d.ret1 H Hr
def D.ret (H Hr:Heap):D→D
 |.agg cs=>.agg (cs.map (D.ret2 H Hr))
 |.tup cs=>.tup (cs.map fun
  |.agg cs=>.agg (cs.map (D.ret2 H Hr))
  |d=>d.ret2 H Hr)
 |d=>d.ret2 H Hr
def Ob.ret (H Hr:Heap):Ob→Ob
 |.box cs=>.box (cs.map (D.ret2 H Hr))
 |.tb T cs=>.tb T (cs.map (D.ret2 H Hr))
 |o=>o
section
variable {E:Env} {K:Kn} {ρ:Nat→Nat→Loc} {H Hr:Heap} {O:List Heap} {w:World}
def Mine (E:Env) (ρ:Nat→Nat→Loc) (Hr:Heap) (O:List Heap) (b:Nat):Prop:=
 ¬E.pr b∧(∀d nm ob,zab O d nm=some ob→zaD (ρ (d+1) nm) ob→(ρ (d+1) nm).block≠b)∧∀nm ob,look Hr nm=some ob→zaD (ρ 0 nm) ob→(ρ 0 nm).block≠b
noncomputable def frK (E:Env) (K:Kn) (ρ:Nat→Nat→Loc) (Hr:Heap) (O:List Heap) (w:World):Kn:=fun b o=>if Mine E ρ Hr O b then w.cell? ⟨b,o,none⟩ else K b o
theorem zwk (h:HInv E K ρ (H::O) w):K.le (frK E K ρ Hr O w):=by
 intro b o x hx;unfold frK
 split
 ·exact h.holds _ _ _ hx
 ·exact hx
def zjp (H Hr:Heap):Prop:=∀nm ob,look Hr nm=some ob→∃o0,look H nm=some o0∧ob=o0.ret H Hr
theorem Ob.ret_sh (H Hr:Heap) (o:Ob):(o.ret H Hr).sh=o.sh:=by cases o<;>rfl
theorem ziT (h:HInv E K ρ (H::O) w) {nm:Nat} {ob:Ob} (ho:look H nm=some ob) (hb:zaD (ρ 0 nm) ob) (hn:look Hr nm=none) (ht:zjp H Hr):Mine E ρ Hr O (ρ 0 nm).block:=by
 have ho':zab (H::O) 0 nm=some ob:=by simpa [zab] using ho
 refine⟨h.loc _ _ ho' hb,fun d n o e b he=>?_,fun n o e b he=>?_⟩
 ·have e':zab (H::O) (d+1) n=some o:=by simpa [zab] using e
  have:=(h.inj _ _ _ _ _ _ e' ho' b hb he).1;omega
 ·obtain⟨o0,h0,rfl⟩:=ht _ _ e;have e':zab (H::O) 0 n=some o0:=by simpa [zab] using h0
  have:=(h.inj _ _ _ _ _ _ e' ho' ((zcO (Ob.ret_sh H Hr o0)).1 b) hb he).2;subst this;rw[hn] at e;cases e
theorem zne {nm:Nat} {x:Sh} (ht:zjp H Hr) (hm:memH Hr nm=true) (e:shape (H::O) 0 nm=some x):shape (Hr::O) 0 nm=some x:=by
 unfold memH at hm
 cases hl:look Hr nm with
 |none=>rw[hl] at hm;cases hm
 |some ob=>
  obtain⟨o0,h0,rfl⟩:=ht _ _ hl;simp only[shape,zab,List.getElem?_cons_zero,h0,Option.map_some,Option.some.injEq] at e;simp[shape,zab,hl,Ob.ret_sh,e]
theorem zgG {d nm:Nat} {x:Sh} (e:shape (H::O) (d+1) nm=some x):shape (Hr::O) (d+1) nm=some x:=by simpa [shape,zab] using e
theorem znj (h:HInv E K ρ (H::O) w) (ht:zjp H Hr) {v:Value} {d:D} (hr:RepD K ρ (shape (H::O)) v d):RepD (frK E K ρ Hr O w) ρ (shape (Hr::O)) v (d.ret1 H Hr):=by
 have hle:=zwk (Hr:=Hr) h
 cases hr with
 |dead=>exact .dead _
 |i r=>exact .i (r.mono hle)
 |agg r=>exact .dead _
 |tup r=>exact .dead _
 |fn r s=>exact .dead _
 |psl _ _=>exact .dead _
 |bt=>exact .i (.v rfl)
 |bf=>exact .i (.v rfl)
 |xnil=>exact .i .nil
 |xsl r e k l=>exact .i (.sl (r.mono hle) e (fun j c hc=>hle _ _ _ (k j c hc)) (Nat.le_refl _) l)
 |box e=>
  rename_i dep nm off
  cases dep with
  |succ d=>exact .box (zgG e)
  |zero=>
   simp only[D.ret1]
   cases hm:memH Hr nm with
   |true=>exact .box (zne ht hm e)
   |false=>
    simp only[cond_false]
    cases hl:look H nm with
    |none=>exact .dead _
    |some ob=>
     cases ob with
     |mp=>exact .dead _
     |box=>exact .dead _
     |tb=>exact .dead _
     |arr=>simp[shape,zab,hl,Ob.sh] at e
 |arr e l=>
  rename_i dep nm i off es len
  cases dep with
  |succ d=>exact .arr (zgG e) l
  |zero=>
   simp only[D.ret1]
   cases hm:memH Hr nm with
   |true=>exact .arr (zne ht hm e) l
   |false=>
    simp only[cond_false]
    cases hl:look H nm with
    |none=>exact .dead _
    |some ob=>
     cases ob with
     |mp=>exact .dead _
     |box=>exact .dead _
     |tb=>exact .dead _
     |arr ty es' n xs wr=>
      simp only[shape,zab,List.getElem?_cons_zero,hl,Option.map_some,Ob.sh,Option.some.injEq,Sh.arr.injEq] at e;obtain⟨rfl,rfl⟩:=e;have ho':zab (H::O) 0 nm=some (.arr ty es' n xs wr):=by simpa [zab] using hl
      obtain⟨h1,h2,h3,h4,h5⟩:=h.own _ _ _ ho';rcases h5 with ⟨h5,_⟩|⟨h5,c,h6,h7,h8,_⟩
      ·omega
      ·have hn:look Hr nm=none:=by unfold memH at hm;cases hh:look Hr nm with|none=>rfl|some _=>rw[hh] at hm;cases hm
       have hmine:=ziT h hl (show zaD (ρ 0 nm) (.arr ty es' n xs wr) by show _≠none;rw[h5];simp) hn ht;have:=Rep.ptr (K:=frK E K ρ Hr O w) (b:=(ρ 0 nm).block) (o:=0) (i:=i) (off:=off) (h8.mono hle) h1 (fun j x hx=>by
        rw[List.getElem?_take] at hx
        split at hx
        ·unfold frK;rw[if_pos hmine,Nat.zero_add,cell_of_heap h6];simpa using hx
        ·cases hx)
       rw[Nat.zero_add] at this;exact .i this
 |omp e=>
  rename_i dep nm
  cases dep with
  |succ d=>exact .omp (zgG e)
  |zero=>
   simp only[D.ret1]
   cases hm:memH Hr nm with
   |true=>exact .omp (zne ht hm e)
   |false=>
    simp only[cond_false]
    cases hl:look H nm with
    |none=>exact .dead _
    |some ob=>
     cases ob with
     |mp=>exact .dead _
     |box=>exact .dead _
     |tb=>exact .dead _
     |arr ty es' n xs wr=>simp[shape,zab,hl,Ob.sh] at e
 |osl e=>
  rename_i dep nm es len
  cases dep with
  |succ d=>exact .osl (zgG e)
  |zero=>
   simp only[D.ret1]
   cases hm:memH Hr nm with
   |true=>exact .osl (zne ht hm e)
   |false=>
    simp only[cond_false]
    cases hl:look H nm with
    |none=>exact .dead _
    |some ob=>
     cases ob with
     |mp=>exact .dead _
     |box=>exact .dead _
     |tb=>exact .dead _
     |arr ty es' n xs wr=>
      simp only[shape,zab,List.getElem?_cons_zero,hl,Option.map_some,Ob.sh,Option.some.injEq,Sh.arr.injEq] at e;obtain⟨rfl,rfl⟩:=e;have ho':zab (H::O) 0 nm=some (.arr ty es' n xs wr):=by simpa [zab] using hl
      obtain⟨h1,h2,h3,h4,h5⟩:=h.own _ _ _ ho';rcases h5 with ⟨h5,h6⟩|⟨h5,c,h6,h7,h8,_⟩
      ·have hn:n=0:=by omega
       subst hn;have hx:xs=[]:=List.eq_nil_of_length_eq_zero h2;subst hx;rw[h5,h6];exact .i .nil
      ·have hn:look Hr nm=none:=by unfold memH at hm;cases hh:look Hr nm with|none=>rfl|some _=>rw[hh] at hm;cases hm
       have hmine:=ziT h hl (show zaD (ρ 0 nm) (.arr ty es' n xs wr) by show _≠none;rw[h5];simp) hn ht;rw[h5];refine .i (.sl (h8.mono hle) h1 (fun j x hx=>?_) h3 h2);rw[List.getElem?_take] at hx
       split at hx
       ·unfold frK;rw[if_pos hmine,Nat.zero_add,cell_of_heap h6];simpa using hx
       ·cases hx
theorem znv (h:HInv E K ρ (H::O) w) (ht:zjp H Hr):∀{vs:List Value} {ds:List D},RepDL K ρ (shape (H::O)) vs ds→RepDL (frK E K ρ Hr O w) ρ (shape (Hr::O)) vs (ds.map (D.ret1 H Hr))
 |_,_,.nil=>.nil
 |_,_,.cons r rs=>.cons (znj h ht r) (znv h ht rs)
theorem ziJ (h:HInv E K ρ (H::O) w) (ht:zjp H Hr) {v:Value} {d:D} (hr:RepD K ρ (shape (H::O)) v d):RepD (frK E K ρ Hr O w) ρ (shape (Hr::O)) v (d.ret2 H Hr):=by
 have h1:=znj h ht hr;unfold D.ret2
 split
 ·rename_i nm i off
  cases hm:memH Hr nm with
  |true=>simp only[D.ret1,hm] at h1;exact h1
  |false=>
   simp only[cond_false]
   split
   ·rename_i ty es n xs wr hl;simp only[D.ret1,hm,hl] at h1;exact h1
   ·rename_i cs hl
    split
    ·rename_i l hl2;have ho':zab (H::O) 0 nm=some (.box cs):=by simpa [zab] using hl
     obtain⟨c,T,h6,h7,h8⟩:=h.own _ _ _ ho';have hn:look Hr nm=none:=by unfold memH at hm;cases hh:look Hr nm with|none=>rfl|some _=>rw[hh] at hm;cases hm
     have hmine:=ziT h hl trivial hn ht;have e1:(fun d n=>ρ (0+d) n)=ρ:=by funext d n;rw[Nat.zero_add]
     have h7':RepDL K ρ (shape (H::O)) c.toList cs:=by rw[e1,List.drop_zero] at h7;exact h7
     have hrl:=zd2 (znv h ht h7') hl2;have hv:v=.pointer (some ⟨(ρ 0 nm).block,off,none⟩):=zg7 hr (by simp[shape,zab,hl,Ob.sh]);have hi:i=0:=by
      cases hr with
      |box=>rfl
      |arr e=>simp[shape,zab,hl,Ob.sh] at e
     subst hv;subst hi;have:=Rep.ptr (K:=frK E K ρ Hr O w) (b:=(ρ 0 nm).block) (o:=0) (i:=0) (off:=off) (es:=l.length) (xs:=[l]) (cs:=c.toList) (by simpa using hrl) (by simp) (fun j x hx=>by
      unfold frK;rw[if_pos hmine,Nat.zero_add,cell_of_heap h6];simpa using hx)
     simp only[Nat.zero_mul,Nat.zero_add] at this;exact .i this
    ·exact .dead _
   ·exact .dead _
 ·exact h1
theorem ze3 (h:HInv E K ρ (H::O) w) (ht:zjp H Hr):∀{vs:List Value} {ds:List D},RepDL K ρ (shape (H::O)) vs ds→RepDL (frK E K ρ Hr O w) ρ (shape (Hr::O)) vs (ds.map (D.ret2 H Hr))
 |_,_,.nil=>.nil
 |_,_,.cons r rs=>.cons (ziJ h ht r) (ze3 h ht rs)
theorem zxb (h:HInv E K ρ (H::O) w) (ht:zjp H Hr) {v:Value} {d:D} (hr:RepD K ρ (shape (H::O)) v d):RepD (frK E K ρ Hr O w) ρ (shape (Hr::O)) v (d.ret H Hr):=by
 have h2:=ziJ h ht hr;unfold D.ret
 split
 ·cases hr with
  |agg r=>exact .agg (ze3 h ht r)
 ·cases hr with
  |tup r=>
   refine .tup ?_;clear h2
   induction r using RepDL.rec (motive_1:=fun _ _ _=>True) with
   |nil=>exact .nil
   |cons r rs _ ih=>
    refine .cons ?_ ih
    dsimp only
    split
    ·cases r with
     |agg r=>exact .agg (ze3 h ht r)
    ·exact ziJ h ht r
   |_=>trivial
 ·exact h2
theorem HInv.leave (h:HInv E K ρ (H::O) w) (ht:zjp H Hr):HInv E (frK E K ρ Hr O w) ρ (Hr::O) w:=by
 have hle:=zwk (Hr:=Hr) h;have hsame:∀b,¬Mine E ρ Hr O b→∀o,frK E K ρ Hr O w b o=K b o:=fun b hb o=>by unfold frK;rw[if_neg hb]
 have hobj:∀d n ob,zab (Hr::O) d n=some ob→∃o0,zab (H::O) d n=some o0∧ob.sh=o0.sh∧((d=0∧ob=o0.ret H Hr)∨(d≠0∧ob=o0)):=by
  intro d n ob e
  cases d with
  |zero=>
   obtain⟨o0,h0,rfl⟩:=ht n ob (by simpa [zab] using e);exact⟨o0,by simpa [zab] using h0,Ob.ret_sh _ _ _,.inl ⟨rfl,rfl⟩⟩
  |succ d=>exact⟨ob,by simpa [zab] using e,rfl,.inr ⟨by omega,rfl⟩⟩
 have hnm:∀d n ob,zab (Hr::O) d n=some ob→zaD (ρ d n) ob→¬Mine E ρ Hr O (ρ d n).block:=by
  intro d n ob e b hm
  cases d with
  |zero=>exact hm.2.2 n ob (by simpa [zab] using e) b rfl
  |succ d=>exact hm.2.1 d n ob (by simpa [zab] using e) b rfl
 refine⟨?_,?_,?_,h.size,?_,?_,h.outer,Kn.le_trans h.Kle hle,?_,h.rest⟩
 ·intro b o x hx;unfold frK at hx
  split at hx
  ·exact hx
  ·exact h.holds _ _ _ hx
 ·intro d n ob e;obtain⟨o0,h0,hs,hc⟩:=hobj _ _ _ e;have hown:=h.own _ _ _ h0;rcases hc with ⟨rfl,rfl⟩|⟨hd,rfl⟩
  ·have e1:(fun d n=>ρ (0+d) n)=ρ:=by funext d n;rw[Nat.zero_add]
   rw[e1,List.drop_zero] at hown ⊢
   cases o0 with
   |mp kk m=>
    obtain⟨⟨es,ck,h1,h2⟩,h3⟩:=hown;exact⟨⟨es,ck,h1,h2⟩,fun o=>by rw[hsame _ (hnm _ _ _ e trivial)];exact h3 o⟩
   |box cs=>
    obtain⟨c,T,h1,h2,h3⟩:=hown;exact⟨c,T,h1,ze3 h ht h2,fun o=>by rw[hsame _ (hnm _ _ _ e trivial)];exact h3 o⟩
   |tb T cs=>
    obtain⟨c,h1,h2,h3⟩:=hown;exact⟨c,h1,ze3 h ht h2,fun o=>by rw[hsame _ (hnm _ _ _ e trivial)];exact h3 o⟩
   |arr ty es m xs wr=>
    have hown':OwnAt K ρ (shape (Hr::O)) w (ρ 0 n) (.arr ty es m xs wr):=hown;exact hown'.stays ⟨hle,fun _ _ _ hx=>hx,fun _ _ _ _=>rfl⟩ (fun _=>rfl) (fun hb o=>hsame _ (hnm _ _ _ e hb) o)
  ·refine hown.stays ⟨hle,fun d' n' x hx=>?_,fun _ _ _ _=>rfl⟩ (fun _=>rfl) (fun hb o=>hsame _ (hnm _ _ _ e hb) o);rw[zbk] at hx ⊢;obtain⟨k,rfl⟩:∃k,d=k+1:=⟨d-1,by omega⟩;rw[show k+1+d'=(k+d')+1 by omega] at hx ⊢;exact zgG hx
 ·intro d n ob d' n' ob' e e' b b' hbe;obtain⟨o0,h0,hs,_⟩:=hobj _ _ _ e;obtain⟨o1,h1,hs1,_⟩:=hobj _ _ _ e';exact h.inj _ _ _ _ _ _ h0 h1 ((zcO hs).1 b) ((zcO hs1).1 b') hbe
 ·intro b hb hno;exact h.old b hb fun d n ob e=>hno d n ob (by simpa [zab] using e)
 ·intro n ob e b;obtain⟨o0,h0,hs,_⟩:=hobj _ _ _ e;exact h.loc _ _ h0 ((zcO hs).1 b)
 ·intro b o x hx;unfold frK at hx
  split at hx
  ·rename_i hm;exact .inr hm.1
  ·exact h.Knew _ _ _ hx
end
end Go.AI
