/- The layer of abstract runs, part 12. -/
import Derived.Test.YtnojpbbaohoadaaGreatDoorElkK
set_option linter.unusedSimpArgs false
set_option linter.unusedVariables false
set_option linter.all false
set_option maxHeartbeats 4000000
namespace Go.AI
section
variable {P:Program} {T:TT} {E:Env} {K:Kn} {ρ:Nat→Nat→Loc} {S:List Heap} {w:World} {s:St}
theorem zdn {a:Act} {dst:Nat} {v:Value} (h:dst<a.tmps.size) (t:Nat):(a.put (some dst) v).tmps.getD t undef=if dst=t then v else a.tmps.getD t undef:=by
 simp only[Act.put,Array.getD_eq_getD_getElem?,Array.getElem?_setIfInBounds]
 split
 ·rename_i e;subst e;simp[h]
 ·rfl
theorem zdw {a:Act} {w':World} {K':Kn} {ρ':Nat→Nat→Loc} {S':List Heap} (h:Inv E K ρ s a w) {dst:Nat} (hd:dst<s.n) {v:Value} {d:D} (hh:HInv E K' ρ' S' w')
  (hst:Stays K K' ρ ρ' (shape s.S) (shape S')) (hr:RepD K' ρ' (shape S') v d):Inv E K' ρ' {σ:=(dst,d)::s.σ,S:=S',n:=s.n} (a.put (some dst) v) w':=by
 refine⟨hh,h.defers,by simp[Act.put];exact h.size,fun t d' e=>?_⟩;rw[zdn (by rw[h.size];exact hd)];simp only[zac] at e
 split at e
 ·rename_i e';simp only[Option.some.injEq] at e;subst e;rw[if_pos e'];exact hr
 ·rename_i e';rw[if_neg e'];exact (h.slots _ _ e).stays hst
theorem Stays.refl (K:Kn) (ρ:Nat→Nat→Loc) (sh:Nat→Nat→Option Sh):Stays K K ρ ρ sh sh:=⟨K.le_refl,fun _ _ _ h=>h,fun _ _ _ _=>rfl⟩
theorem zv2 (hw:HInv E K ρ s.S w) {vx:Value} {x:D} (hx:RepD K ρ (shape s.S) vx x) {z:Nat} {k:Nat→List (List I)→Ask} {G:Ask→Prop} (hbad:G .bad)
  (hobj:∀dep nm k',(∀ob,zab s.S dep nm=some ob→G (k' ob))→G (zcx s dep nm k')) (h:∀m ys,Now K w vx z m ys→G (k m ys)):G (zxg s x z k):=by
 unfold zxg
 split
 ·rename_i es n xs
  cases hb:Nat.beq es z with
  |false=>exact hbad
  |true=>
   obtain rfl:=Nat.eq_of_beq_eq_true hb
   cases hx with
   |i r=>
    cases r with
    |@nil _ ao=>
     cases ao with
     |none=>exact h _ _ ⟨rfl,by simp,none,0,rfl,.inl ⟨rfl,rfl,rfl⟩⟩
     |some ad=>exact h _ _ ⟨rfl,by simp,some ad,0,rfl,.inr ⟨ad,[],rfl,.nil,by simp⟩⟩
    |sl r e k c l=>exact h _ _ ⟨l,e,_,_,rfl,.inr ⟨_,_,rfl,r,fun j c hc=>by rw[Addr.add_lit];exact hw.holds _ _ _ (k j c hc)⟩⟩
 ·rename_i es n xs
  cases hb:Nat.beq es z with
  |false=>exact hbad
  |true=>
   obtain rfl:=Nat.eq_of_beq_eq_true hb
   cases hx with
   |@xnil _ ao=>
    cases ao with
    |none=>exact h _ _ ⟨rfl,by simp,none,0,rfl,.inl ⟨rfl,rfl,rfl⟩⟩
    |some ad=>exact h _ _ ⟨rfl,by simp,some ad,0,rfl,.inr ⟨ad,[],rfl,.nil,by simp⟩⟩
   |xsl r e k l=>exact h _ _ ⟨l,e,_,_,rfl,.inr ⟨_,_,rfl,r,fun j c hc=>by rw[Addr.add_lit];exact hw.holds _ _ _ (k j c hc)⟩⟩
 ·obtain rfl:=zaT hx;exact h _ _ ⟨rfl,by simp,none,0,rfl,.inl ⟨rfl,rfl,rfl⟩⟩
 ·rename_i dep nm;refine hobj _ _ _ fun ob ho=>?_
  cases ob with
  |mp=>exact hbad
  |box=>exact hbad
  |tb=>exact hbad
  |arr ty es n xs wr=>
   dsimp only
   cases hb:Nat.beq es z with
   |false=>exact hbad
   |true=>
    obtain rfl:=Nat.eq_of_beq_eq_true hb;have hown:=zet hw ho
    cases hx with
    |omp e'=>rw[zcD dep nm ho] at e';cases e'
    |osl e'=>
     rw[zcD dep nm ho] at e';simp only[Ob.sh,Option.some.injEq,Sh.arr.injEq] at e';obtain⟨rfl,rfl⟩:=e';obtain⟨h1,h2,h3,h4,h5⟩:=hown;refine h _ _ ⟨h2,h1,_,_,rfl,?_⟩;rcases h5 with ⟨h5,h6⟩|⟨h5,c,h6,h7,h8,_⟩
     ·exact .inl ⟨by omega,h6,h5⟩
     ·refine .inr ⟨_,_,h5,h8,fun j x hx=>?_⟩;rw[Addr.add_lit];rw[List.getElem?_take] at hx
      split at hx
      ·rw[cell_of_heap h6];simpa using hx
      ·cases hx
 ·exact hbad
theorem objM {a:Act} {o:Oper} {g:Option Nat} (dep nm:Nat) (k:Ob→Ask) (hk:∀ob,zab s.S dep nm=some ob→SndM P E K ρ s.S a w o g (k ob)):SndM P E K ρ s.S a w o g (zcx s dep nm k):=by
 unfold zcx
 cases dep with
 |zero=>
  dsimp only
  cases ho':zab s.S 0 nm with
  |none=>trivial
  |some ob=>exact hk ob ho'
 |succ d=>exact hk
theorem zcO {sh:Nat→Nat→Option Sh} {v:Value} {dep nm es len:Nat} (h:RepD K ρ sh v (.osl dep nm)) (e:sh dep nm=some (.arr es len)):v=.slice (ρ dep nm).base len (ρ dep nm).cap:=by
 cases h with
 |omp e'=>rw[e] at e';cases e'
 |osl e'=>rw[e] at e';simp only[Option.some.injEq,Sh.arr.injEq] at e';obtain⟨rfl,rfl⟩:=e';rfl
def zvk (x:D):Option Nat:=match x with
 |.osl 0 nm=>some nm
 |_=>none
theorem zhE (hT:TOk P T) {a:Act} (h:Inv E K ρ s a w) {o:Oper} {t dst:Nat} {x y:Operand} (ho:o.op=.call {callee:=.builtin .append,args:=#[x,y],argTypes:=#[t,t]}) (hd:o.dst=some dst) {dx dy:D}
  (hp:RepD K ρ (shape s.S) (a.eval x) dx) (hv:RepD K ρ (shape s.S) (a.eval y) dy):SndM P E K ρ s.S a w o (zvk dx) (zfk T s dst t dx dy):=by
 unfold zfk
 split
 ·rename_i sz by_ e z cm hi;have hu:P.underlying t=some (.slice e):=(hT _ _ hi).kind
  cases he:look T e with
  |none=>trivial
  |some i=>
   have hok:=hT _ _ he
   dsimp only
   refine zv2 (G:=SndM P E K ρ s.S a w o (zvk dx)) h.h hv trivial (fun dep nm k' hk=>objM dep nm k' hk) fun m ys hnow=>?_
   split
   ·rename_i nm
    split
    ·rename_i ty es n xs hob
     cases hb:Nat.beq ty e&&Nat.beq es i.size with
     |false=>trivial
     |true=>
      simp only[Bool.and_eq_true] at hb;obtain rfl:=Nat.eq_of_beq_eq_true hb.1;obtain rfl:=Nat.eq_of_beq_eq_true hb.2;intro hneed;obtain⟨hn1,hn2⟩:=hneed
      split
      ·rename_i H O hS
       split
       ·rename_i hl
        cases hlt:Nat.ble s.n dst with
        |true=>trivial
        |false=>
         have hdn:dst<s.n:=by
          rcases Nat.lt_or_ge dst s.n with h'|h'
          ·exact h'
          ·rw[Nat.ble_eq_true_of_le h'] at hlt;cases hlt
         have hh:=h.h;rw[hS] at hh hob;have hown:=hh.own _ _ _ hob;have hnm:look H nm=some (.arr ty i.size n xs true):=by simpa [zab] using hob
         have hva:a.eval x=.slice (ρ 0 nm).base n (ρ 0 nm).cap:=zcO (es:=i.size) hp (by rw[hS];simp[shape,hob,Ob.sh]);obtain⟨l',w',hrun,hown',hap⟩:=ztq hu hok hown hnow hn1 hn2 o.type (fun o=>hh.K_fresh (Nat.le_refl _));have hKo:zaA (ρ 0 nm) (.arr ty i.size n xs true)→∀o,K (ρ 0 nm).block o=none:=by
          intro hbk;obtain⟨_,_,_,_,h5⟩:=hown;rcases h5 with ⟨_,h6⟩|⟨_,c,_,_,_,h9,_⟩
          ·exact absurd h6 hbk
          ·exact h9 rfl
         obtain⟨hI,hbut⟩:=hh.renew (dst:=dst) hnm hl hap Iff.rfl (ob':=.arr ty i.size (n+m) (xs++ys) true) Iff.rfl hKo hown';refine⟨.value (.slice l'.base (n+m) l'.cap),w',K,upd ρ dst l',?_,K.le_refl,fun d n' x h1 e=>hbut d n' x (h1.imp id fun h e'=>h (by rw[e'];rfl)) (by rw[hS] at e;exact e),.inr ⟨_,rfl,?_⟩⟩
         ·simp only[execOp,ho,resolve,invoke,builtin,Sem.run_bind,Sem.run_pure,Result.andThen_ok,List.map_toArray,List.map_cons,List.map_nil,hva];rw[hrun];rfl
         ·rw[hd];refine⟨hI,h.defers,by simp[Act.put];exact h.size,fun t' d' e'=>?_⟩;rw[zdn (by rw[h.size];exact hdn)];simp only[zac] at e'
          split at e'
          ·rename_i e2;simp only[Option.some.injEq] at e';subst e';rw[if_pos e2];have hsh:shape (((dst,Ob.arr ty i.size (n+m) (xs++ys) true)::zbp nm H)::O) 0 dst=some (.arr i.size (n+m)):=by simp[shape,zab,zac,Ob.sh]
           have:=RepD.osl (K:=K) (ρ:=upd ρ dst l') hsh;rwa [zaX] at this
          ·rename_i e2;rw[if_neg e2];rw[zcH] at e'
           cases hls:look s.σ t' with
           |none=>simp[hls] at e'
           |some d0=>
            simp only[hls,Option.map_some,Option.some.injEq] at e';subst e';have hr:=h.slots _ _ hls;rw[hS] at hr;exact hr.kill hbut
       ·trivial
      ·trivial
    ·trivial
   ·intro _;trivial
   ·cases hb:Nat.beq _ i.size with
    |false=>trivial
    |true=>intro _;trivial
   ·trivial
 ·trivial
theorem zhF (hT:TOk P T) (hw:HInv E K ρ s.S w) {t dst rty:Nat} {vx vy:Value} {dx dy:D} (hx:RepD K ρ (shape s.S) vx dx) (hy:RepD K ρ (shape s.S) vy dy) :
  SndV P dst K ρ s.S w (Builtin.append_ #[t,t] rty #[vx,vy]) (zfk T s dst t dx dy):=by
 unfold zfk
 split
 ·rename_i sz by_ e z cm hi;have hu:P.underlying t=some (.slice e):=(hT _ _ hi).kind
  cases he:look T e with
  |none=>trivial
  |some i=>
   have hok:=hT _ _ he
   dsimp only
   refine zv2 (G:=SndV P dst K ρ s.S w (Builtin.append_ #[t,t] rty #[vx,vy])) hw hy trivial (fun dep nm k' hk=>hobj rfl hk) fun m ys hnow=>?_;have hsh:∀n zs,shape (addS s.S [(dst,.arr e i.size n zs true)]) 0 dst=some (.arr i.size n):=by
    intro n zs
    cases s.S with
    |nil=>simp[shape,addS,zab,zac,Ob.sh]
    |cons H O=>simp[shape,zbx,zac,Ob.sh]
   split
   ·split
    ·cases hb:Nat.beq _ e&&Nat.beq _ i.size with
     |false=>trivial
     |true=>
      intro _
      split
      ·split
       ·cases Nat.ble s.n dst<;>trivial
       ·trivial
      ·trivial
    ·trivial
   ·obtain rfl:=zaT hx;intro hneed;obtain⟨hn1,hn2⟩:=hneed;intro hf;have hf:=hf dst (by simp[zac]);have hown0:OwnAt K ρ (shape s.S) w ⟨0,0,none⟩ (.arr e i.size 0 [] true):=⟨by simp,rfl,Nat.le_refl _,by simp,.inl ⟨rfl,rfl⟩⟩;obtain⟨l',w',hrun,hown',hap⟩:=ztq hu hok hown0 hnow (by simpa using hn1) (by simpa using hn2) rty (fun o=>hw.K_fresh (Nat.le_refl _));simp only[Nat.zero_add,List.nil_append] at hrun hown';refine⟨_,K,upd ρ dst l',w',hrun,?_,?_⟩
    ·refine⟨K.le_refl,fun _ _ _ h=>.inl h,hap.size,fun b hb=>hap.old b hb fun h=>absurd rfl h,hap.rest,?_,?_,?_,?_⟩
     ·intro dep nm h;refine zaS _ _ _ ?_;rcases h with h|h
      ·exact .inl h
      ·rw[zac] at h
       split at h
       ·cases h
       ·rename_i hn;exact .inr fun e=>hn e.symm
     ·intro b o x hx;have h1:=hw.holds _ _ _ hx;have hlt:b<w.heap.size:=by
       rcases Nat.lt_or_ge b w.heap.size with h'|h'
       ·exact h'
       ·rw[hw.K_fresh h'] at hx;cases hx
      rw[World.cell?,hap.old b hlt fun h=>absurd rfl h];exact h1
     ·intro nm ob h;rw[zac] at h
      split at h
      ·rename_i hn;subst hn;simp only[Option.some.injEq] at h;subst h;rw[zaX];refine⟨hown' _ _,fun hb=>?_⟩;rcases hap.blk hb with h'|⟨h',_⟩
       ·exact h'
       ·exact absurd rfl h'
      ·simp[look] at h
     ·intro nm ob1 nm' ob2 h1 h2 _ _ _;rw[zac] at h1 h2
      split at h1
      ·split at h2
       ·omega
       ·simp[look] at h2
      ·simp[look] at h1
    ·have:=RepD.osl (K:=K) (ρ:=upd ρ dst l') (hsh m ys);rwa [zaX] at this
   ·rename_i es n xs
    cases hb:Nat.beq es i.size with
    |false=>trivial
    |true=>
     obtain rfl:=Nat.eq_of_beq_eq_true hb;intro hneed;obtain⟨hn1,hn2,hn3⟩:=hneed;intro hf;have hf:=hf dst (by simp[zac]);obtain⟨inf,hi1,hi2,hi3,z,hi4,hi5,-⟩:=hok.info;have hzs:z.cells.size=i.size:=by rw[←Array.length_toList,hi5,hok.len]
     obtain⟨hym,hyel,p,cap,rfl,hyat⟩:=hnow;rcases hyat with ⟨h0,_,_⟩|⟨ad,news,rfl,hry,hadd⟩
     ·omega
     ·have hly:news.length=m*i.size:=by rw[hry.length,zbC ys hyel,hym]
      have hmain:∀olds,RepL K olds xs.flatten→(∀d∈xs,d.length=i.size)→xs.length=n→(∀c,(Builtin.append_ #[t,t] rty #[vx,.slice (some ad) m cap]).run P w=.ok (.slice (some ⟨w.heap.size,0,none⟩) (n+m) c)
        (w.drew.alloc (.cells (olds.toArray++news.toArray++Builtin.zeroCells z.cells (c-(n+m))) e))→n+m≤c→c≤maxLen →
        ∃v K' ρ' w',(Builtin.append_ #[t,t] rty #[vx,.slice (some ad) m cap]).run P w=.ok v w'∧Grow K ρ s.S w [(dst,.arr e i.size (n+m) (xs++ys) true)] K' ρ' w'∧RepD K' ρ' (shape (addS s.S [(dst,.arr e i.size (n+m) (xs++ys) true)])) v (.osl 0 dst)):=by
       intro olds hro hel hln c hrun hc1 hc2;have hlo:olds.length=n*i.size:=by rw[hro.length,zbC xs hel,hln]
       obtain⟨lc,g,r⟩:=ziO (dst:=dst) (ty:=e) (cap:=c) (n:=n+m) (es:=i.size) (xs:=xs++ys) (cs:=olds.toArray++news.toArray++Builtin.zeroCells z.cells (c-(n+m))) hw hf (.inr rfl)
        (by intro d hd;rcases List.mem_append.1 hd with h|h<;>first|exact hel d h|exact hyel d h) (by simp[hln,hym]) hc1 hc2
        (by simp only[Array.size_append,List.size_toArray,size_zeroCells,hzs,hlo,hly,←Nat.add_mul];congr 1;omega)
        (by
         simp only[Array.toList_append,List.flatten_append];have:(n+m)*i.size=(olds++news).length:=by rw[List.length_append,hlo,hly,Nat.add_mul]
         rw[this,List.take_left];exact hro.append hry)
       exact⟨_,_,_,_,hrun,g,r⟩
      have hgm:∀old,grownCap w (n+m) old e≤maxLen:=fun old=>grownCap_le_maxLen w (n+m) old e (by simp only[maxLen];omega);have hgg:∀old,n+m≤grownCap w (n+m) old e:=fun old=>grownCap_ge w (n+m) old e
      cases hx with
      |@xnil _ ao=>
       cases ao with
       |some ao=>
        have hr:=run_append_grow (P:=P) w t rty e inf z hu hi1 hi4 ao 0 0 [] (by simp) (by simp) ad m cap news (by rw[hi2];exact hly) hadd (by omega) (by omega) (by rw[hi3];exact growslice_fits (by omega) hn1);exact hmain [] .nil (by simp) rfl _ hr (hgg 0) (hgm 0)
       |none=>
       have hr:=run_append_nil (P:=P) w t rty e inf z hu hi1 hi4 ad m cap news (by rw[hi2];exact hly) hadd (by omega) (by omega) (by rw[hi3];simp only[Nat.zero_add] at hn1;omega);refine hmain [] .nil (by simp) rfl (grownCap w (0+m) 0 e) ?_ (hgg 0) (hgm 0);simpa using hr
      |xsl r e' k l=>
       rename_i b' o' cs;have hr:=run_append_grow (P:=P) w t rty e inf z hu hi1 hi4 ⟨b',o',none⟩ n n cs (by rw[hi2,r.length,zbC xs e',l]) (by
        intro j u hju;rw[Addr.add_lit];exact hw.holds _ _ _ (k j u hju)) ad m cap news (by rw[hi2];exact hly) hadd (by omega) (by omega) (by rw[hi3];exact growslice_fits (by omega) hn1)
       exact hmain cs r e' l _ hr (hgg n) (hgm n)
   ·trivial
 ·trivial
end
end Go.AI
