/- The layer of abstract runs, part 9. -/
import Derived.Test.YtnojpbbaohoadaaGreatDoorIbxH
set_option linter.unusedSimpArgs false
set_option linter.unusedVariables false
set_option linter.all false
set_option maxHeartbeats 4000000
namespace Go.AI
theorem zeC:∀{S:List Heap} {dep nm:Nat} {ob:Ob},(zab S dep nm).isSome=true→∀d n,zab (setAt S dep nm ob) d n=if d=dep∧n=nm then some ob else zab S d n
 |[],dep,nm,ob,h,d,n=>by simp[zab] at h
 |H::O,0,nm,ob,h,d,n=>by
  cases d with
  |zero=>
   simp only[setAt,zab,List.getElem?_cons_zero,zac,true_and]
   by_cases hn:nm=n
   ·subst hn;simp
   ·rw[if_neg hn,if_neg (fun e=>hn e.symm)]
  |succ d=>simp[setAt,zab]
 |H::O,dep+1,nm,ob,h,d,n=>by
  cases d with
  |zero=>simp[setAt,zab]
  |succ d=>
   have h':(zab O dep nm).isSome=true:=by simpa [zab] using h
   have:=zeC (ob:=ob) h' d n;simpa [setAt,zab] using this
section
variable {P:Program} {T:TT} {E:Env} {K:Kn} {ρ:Nat→Nat→Loc} {S:List Heap} {w:World}
theorem zbK {dep nm:Nat} {ob ob':Ob} (h:zab S dep nm=some ob) (hs:ob'.sh=ob.sh):shape (setAt S dep nm ob')=shape S:=by
 funext d n;unfold shape;rw[zeC (by simp[h])]
 split
 ·rename_i he;obtain⟨rfl,rfl⟩:=he;simp[h,hs]
 ·rfl
theorem HInv.put {w':World} (h:HInv E K ρ S w) {dep nm:Nat} {ob ob':Ob} (ho:zab S dep nm=some ob) (hs:ob'.sh=ob.sh) (hb:zaD (ρ dep nm) ob) (hb':zaD (ρ dep nm) ob')
  (hsize:w'.heap.size=w.heap.size) (hold:∀b,b≠(ρ dep nm).block→w'.heap[b]? = w.heap[b]?) (hrest:w'.tape=w.tape∧w'.os=w.os∧w'.output=w.output)
  (hholds:∀o x,K (ρ dep nm).block o=some x→w'.cell? ⟨(ρ dep nm).block,o,none⟩=some x)
  (hown:OwnAt K (fun d n=>ρ (dep+d) n) (fun d n=>shape S (dep+d) n) w' (ρ dep nm) ob'):HInv E K ρ (setAt S dep nm ob') w':=by
 have hsh:=zbK ho hs;have hobj:=zeC (S:=S) (dep:=dep) (nm:=nm) (ob:=ob') (by simp[ho]);have hcase:∀d n o,zab (setAt S dep nm ob') d n=some o→(d=dep∧n=nm∧o=ob')∨(zab S d n=some o∧¬(d=dep∧n=nm)):=by
  intro d n o he;rw[hobj] at he
  split at he
  ·rename_i hh;exact .inl ⟨hh.1,hh.2,by simpa using he.symm⟩
  ·rename_i hh;exact .inr ⟨he,hh⟩
 refine⟨?_,?_,?_,by rw[hsize];exact h.size,?_,?_,h.outer,h.Kle,h.Knew,?_⟩
 ·intro b o x hx
  by_cases hbb:b=(ρ dep nm).block
  ·subst hbb;exact hholds _ _ hx
  ·rw[World.cell?,hold b hbb];exact h.holds _ _ _ hx
 ·intro d n o he;have e2:shape ((setAt S dep nm ob').drop d)=fun d' n=>shape S (d+d') n:=by
   funext d' n';rw[zbk,hsh]
  rw[e2];rcases hcase d n o he with ⟨rfl,rfl,rfl⟩|⟨he',hne⟩
  ·exact hown
  ·have h0:=h.own _ _ _ he';have e1:shape (S.drop d)=fun d' n=>shape S (d+d') n:=by
    funext d' n';rw[zbk]
   rw[e1] at h0;refine h0.stays ⟨K.le_refl,fun _ _ _ e=>e,fun _ _ _ _=>rfl⟩ (fun hbk=>?_) (fun _ _=>rfl);refine hold _ fun hbe=>hne ?_;exact h.inj _ _ _ _ _ _ he' ho hbk hb hbe
 ·intro d n o d' n' o' h1 h2 b1 b2 hbe;rcases hcase _ _ _ h1 with ⟨rfl,rfl,rfl⟩|⟨h1',_⟩<;>rcases hcase _ _ _ h2 with ⟨rfl,rfl,rfl⟩|⟨h2',_⟩
  ·exact⟨rfl,rfl⟩
  ·exact h.inj _ _ _ _ _ _ ho h2' hb b2 hbe
  ·exact h.inj _ _ _ _ _ _ h1' ho b1 hb hbe
  ·exact h.inj _ _ _ _ _ _ h1' h2' b1 b2 hbe
 ·intro b hblt hno;have hne:b≠(ρ dep nm).block:=by
   intro hbe
   cases dep with
   |zero=>
    have:=h.loc _ _ ho hb;exact this (hbe ▸ hblt)
   |succ dep=>
    have:=hno dep nm ob' (by rw[hobj];simp) hb';exact this hbe.symm
  rw[hold b hne];refine h.old b hblt fun d n o ho' hbk=>?_
  by_cases hh:d+1=dep∧n=nm
  ·obtain⟨rfl,rfl⟩:=hh;exact fun e=>hne e.symm
  ·exact hno d n o (by rw[hobj,if_neg hh];exact ho') hbk
 ·intro n o ho' hbk;rcases hcase _ _ _ ho' with ⟨h1,h2,h3⟩|⟨h',_⟩
  ·subst h1;subst h2;exact h.loc _ _ ho hb
  ·exact h.loc _ _ h' hbk
 ·obtain⟨a1,a2,a3⟩:=hrest;obtain⟨b1,b2,b3⟩:=h.rest;exact⟨a1.trans b1,a2.trans b2,a3.trans b3⟩
def zt9 (g:Option Nat) (ρ ρ':Nat→Nat→Loc) (sh sh':Nat→Nat→Option Sh):Prop:=∀dep nm x,(dep≠0∨g≠some nm)→sh dep nm=some x→sh' dep nm=some x∧ρ' dep nm=ρ dep nm
def SndM (P:Program) (E:Env) (K:Kn) (ρ:Nat→Nat→Loc) (S:List Heap) (a:Act) (w:World) (o:Oper) (g:Option Nat):Ask→Prop
 |.mod s'=>∃r w' K' ρ',(execOp a.eval o).run P w=.ok r w'∧K.le K'∧zt9 g ρ ρ' (shape S) (shape s'.S)∧((r=.skip∧Inv E K' ρ' s' (a.put o.dst undef) w')∨∃v,r=.value v∧Inv E K' ρ' s' (a.put o.dst v) w')
 |.need p k=>p→SndM P E K ρ S a w o g k
 |.elem xs i k=>∀d,xs[i]? = some d→SndM P E K ρ S a w o g (k d)
 |.obj dep nm k=>∀ob,zab S dep nm=some ob→SndM P E K ρ S a w o g (k ob)
 |.alt x y=>SndM P E K ρ S a w o g x∧SndM P E K ρ S a w o g y
 |_=>True
theorem zpv {sh:Nat→Nat→Option Sh} {cs:List Value} {ds:List D} {vs:List Value} {l:List D} (off:Nat) (h:RepDL K ρ sh cs ds) (h':RepDL K ρ sh vs l) :
  RepDL K ρ sh (cs.take off++vs++cs.drop (off+vs.length)) (zfR ds off l):=by
 have:=h'.length;unfold zfR;rw[←this];exact ((h.take off).append h').append (h.drop _)
theorem zgC {cs:List Value} {ds:List I} {vs:List Value} {l:List I} (off:Nat) (h:RepL K cs ds) (h':RepL K vs l) :
  RepL K (cs.take off++vs++cs.drop (off+vs.length)) (zbR ds off l):=by
 have:=h'.length;unfold zbR;rw[←this];exact ((h.take off).append h').append (h.drop _)
theorem zi5:∀{es:Nat} (xs:List (List I)) (i:Nat) {d l:List I} {off:Nat},(∀d∈xs,d.length=es)→xs[i]? = some d→off+l.length≤es →
  (xs.set i (zbR d off l)).flatten=zbR xs.flatten (i*es+off) l
 |es,[],i,d,l,off,_,h,_=>by simp at h
 |es,x::xs,0,d,l,off,hl,h,hle=>by
  have hx:x.length=es:=hl x (by simp);simp at h;subst h;simp only[List.set_cons_zero,List.flatten_cons,zbR,Nat.zero_mul,Nat.zero_add];rw[List.take_append_of_le_length (by omega),List.drop_append_of_le_length (by omega)];simp
 |es,x::xs,i+1,d,l,off,hl,h,hle=>by
  have hx:x.length=es:=hl x (by simp);simp at h;have ih:=zi5 xs i (fun d hd=>hl d (by simp[hd])) h hle;simp only[List.set_cons_succ,List.flatten_cons,ih];unfold zbR;have e:(i+1)*es+off=x.length+(i*es+off):=by rw[Nat.add_mul,hx];omega
  rw[e,Nat.add_assoc x.length,List.take_length_add_append,List.drop_length_add_append];simp
theorem zg7 {sh:Nat→Nat→Option Sh} {v:Value} {dep nm i off:Nat} (h:RepD K ρ sh v (.own dep nm i off)) (e:sh dep nm=some .box):v=.pointer (some ⟨(ρ dep nm).block,off,none⟩):=by
 cases h with
 |box=>rfl
 |arr e'=>rw[e] at e';cases e'
theorem zsh {sh:Nat→Nat→Option Sh} {v:Value} {dep nm i off es len:Nat} (h:RepD K ρ sh v (.own dep nm i off)) (e:sh dep nm=some (.arr es len)) :
  i<len∧v=.pointer (some ⟨(ρ dep nm).block,i*es+off,none⟩):=by
 cases h with
 |box e'=>rw[e] at e';cases e'
 |arr e' l=>rw[e] at e';simp only[Option.some.injEq,Sh.arr.injEq] at e';obtain⟨rfl,rfl⟩:=e';exact⟨l,rfl⟩
theorem zez (w:World) (g:Nat) (cs:Array Value):(w.setRow g cs).tape=w.tape∧(w.setRow g cs).os=w.os∧(w.setRow g cs).output=w.output:=⟨rfl,rfl,rfl⟩
theorem zgH {t:Nat} {i:TI} (hi:TIok P t i) {b o:Nat} {v:Value} {cur:Array Value} {ty:TypeId} (hg:w.heap[b]? = some (.cells cur ty (0,0))) (hsz:v.cells.size=i.size)
  (hfit:o+i.size≤cur.size) (h1:∀x∈v.cells.toList,x.oneCell'=true) :
  (Instr.storeAt t (.pointer (some ⟨b,o,none⟩)) v).run P w=.ok () (w.setRow b (cur.toList.take o++v.cells.toList++cur.toList.drop (o+v.cells.toList.length)).toArray):=by
 have hst:=run_storeCells_at P b o ty v.cells.toList 0 cur w hg (by simp;omega) h1;simp only[Nat.add_zero] at hst;simp[Instr.storeAt,Instr.sureAddr,storeVar,run_sizeOf hi,hsz,hst]
theorem zyW {s:St} {a:Act} (h:Inv E K ρ s a w) {S':List Heap} {w':World} (h':HInv E K ρ S' w') (hsh:shape S'=shape s.S):Inv E K ρ {s with S:=S' } a w':=
 ⟨h',h.defers,h.size,fun t d e=>by show RepD K ρ (shape S') _ d;rw[hsh];exact h.slots t d e⟩
theorem zk0 {sh:Nat→Nat→Option Sh}:∀{vs:List Value} {l:List I},RepL K vs l→RepDL K ρ sh vs (l.map .i):=RepDL.ofL
theorem zrn (hT:TOk P T) {s:St} {a:Act} (h:Inv E K ρ s a w) {o:Oper} {t:Nat} {x y:Operand} (ho:o.op=.store t x y) (hd:o.dst=none) {p v:D}
  (hp:RepD K ρ (shape s.S) (a.eval x) p) (hv:RepD K ρ (shape s.S) (a.eval y) v):SndM P E K ρ s.S a w o none (zc9 T s t p v):=by
 unfold zc9
 cases hi:look T t with
 |none=>trivial
 |some i=>
  have hok:=hT _ _ hi
  dsimp only
  cases hb:!(Nat.beq v.cells.length i.size&&D.ones v.cells) with
  |true=>trivial
  |false=>
   simp only[Bool.not_eq_false',Bool.and_eq_true] at hb;have hvl:=Nat.eq_of_beq_eq_true hb.1;have hcells:=hv.cells hb.2;have hones:=hcells.one hb.2;have hvs:(a.eval y).cells.size=i.size:=by have:=hcells.length;simpa [hvl] using this
   simp only[cond_false];have hfin:∀{b off:Nat} {cur:Array Value} {ty:TypeId} {S':List Heap},a.eval x=.pointer (some ⟨b,off,none⟩)→w.heap[b]? = some (.cells cur ty (0,0))→off+i.size≤cur.size→shape S'=shape s.S →
     HInv E K ρ S' (w.setRow b (cur.toList.take off++(a.eval y).cells.toList++cur.toList.drop (off+(a.eval y).cells.toList.length)).toArray)→SndM P E K ρ s.S a w o none (.mod {s with S:=S' }):=by
    intro b off cur ty S' hx hg hfit hsh hh;have hrun:=zgH (w:=w) hok hg hvs hfit hones;generalize w.setRow b (cur.toList.take off++(a.eval y).cells.toList++cur.toList.drop (off+(a.eval y).cells.toList.length)).toArray=w1 at hh hrun;have hI:=zyW h hh hsh;have hput:a.put o.dst undef=a:=by rw[hd];rfl
    rw[←hput] at hI;refine⟨.skip,_,K,ρ,?_,K.le_refl,fun d n x _ e=>⟨by rw[hsh];exact e,rfl⟩,.inl ⟨rfl,hI⟩⟩;simp only[execOp,ho,hx,hrun,Sem.run_bind,Result.andThen_ok,Sem.run_pure]
   split
   ·rename_i dep nm xi off;have hobjm:∀{k:Ob→Ask},(∀ob,zab s.S dep nm=some ob→SndM P E K ρ s.S a w o none (k ob))→SndM P E K ρ s.S a w o none (zcv s dep nm k):=by
     intro k hk;unfold zcv
     cases dep with
     |zero=>
      dsimp only
      cases ho':zab s.S 0 nm with
      |none=>trivial
      |some ob=>exact hk ob ho'
     |succ d=>exact hk
    refine hobjm fun ob hob=>?_;have hown:=zep h.h hob;have hsh0:=zcC dep nm hob
    cases ob with
    |mp=>trivial
    |tb=>trivial
    |box cs=>
     obtain⟨cur,ty,hg,hr,hKn⟩:=hown;have hcl:cs.length=cur.size:=by have:=hr.length;simpa using this.symm
     have haddr:=zg7 hp hsh0
     dsimp only
     cases hfitb:Nat.ble (off+i.size) cs.length with
     |false=>trivial
     |true=>
      have hfit:off+i.size≤cs.length:=Nat.le_of_ble_eq_true hfitb;simp only[cond_true];have hput:∀l:List D,RepDL K (fun d n=>ρ (dep+d) n) (fun d n=>shape s.S (dep+d) n) (a.eval y).cells.toList l →
        HInv E K ρ (setAt s.S dep nm (.box (zfR cs off l))) (w.setRow (ρ dep nm).block (cur.toList.take off++(a.eval y).cells.toList++cur.toList.drop (off+(a.eval y).cells.toList.length)).toArray):=by
       intro l hl;refine h.h.put hob rfl trivial trivial (by simp) (fun b hb=>setRow_other _ _ _ _ hb) (zez _ _ _) (fun o' x' hx'=>by rw[hKn] at hx';cases hx') ⟨_,ty,setRow_heap _ _ _ _ _ _ hg,?_,hKn⟩;exact zpv off hr hl
      cases dep with
      |zero=>
       dsimp only
       rw[zbN];refine hfin haddr hg (by omega) (zbK hob rfl) (hput _ ?_);simpa using hcells
      |succ dep=>
       dsimp only
       cases htl:D.toIs v.cells with
       |none=>trivial
       |some l=>
        dsimp only
        rw[zbN];exact hfin haddr hg (by omega) (zbK hob rfl) (hput _ (zk0 (zd2 hcells htl)))
    |arr ty es n xs wr=>
     cases wr with
     |false=>trivial
     |true=>
      dsimp only
      cases htl:D.toIs v.cells with
      |none=>trivial
      |some l=>
       dsimp only
       have hlr:=zd2 hcells htl;have hll:l.length=i.size:=by have:=hlr.length;simpa [hvs] using this.symm
       have hidx:=zsh hp hsh0;obtain⟨hin,haddr⟩:=hidx;obtain⟨hel,hn,hcap,hmx,hrest⟩:=hown;rcases hrest with ⟨h0,_⟩|⟨hbase,cur,hg,hcs,hr,hKn,_,_⟩
       ·omega
       ·have hbk:zaD (ρ dep nm) (.arr ty es n xs true):=by show _≠none;rw[hbase];simp
        obtain⟨d,hd'⟩:∃d,xs[xi]? = some d:=⟨xs[xi],by rw[List.getElem?_eq_getElem]⟩;have hdl:d.length=es:=hel d (List.mem_of_getElem? hd');have hput:∀off',off'=off→off'+i.size≤es→SndM P E K ρ s.S a w o none (.mod {s with S:=setAt s.S dep nm (.arr ty es n (xs.set xi (zbR d off' l)) true)}):=by
         intro off' he hle;subst he;have hmul:(xi+1)*es≤n*es:=Nat.mul_le_mul_right _ hin;have hmul2:n*es≤(ρ dep nm).cap*es:=Nat.mul_le_mul_right _ hcap;rw[Nat.add_mul] at hmul;have hvl':(a.eval y).cells.toList.length=i.size:=by simpa using hvs
         refine hfin haddr hg (by omega) (zbK hob rfl) ?_;refine h.h.put hob rfl hbk hbk (by simp) (fun b hb=>setRow_other _ _ _ _ hb) (zez _ _ _) (fun o' x' hx'=>by rw[hKn rfl] at hx';cases hx') ?_;refine⟨?_,by simpa using hn,hcap,hmx,.inr ⟨hbase,_,setRow_heap _ _ _ _ _ _ hg,?_,?_,hKn,fun o _=>hKn rfl o,fun e=>by cases e⟩⟩
         ·intro d2 hd2;rcases List.mem_or_eq_of_mem_set hd2 with h2|h2
          ·exact hel d2 h2
          ·subst h2;simp[zbR];omega
         ·simp;omega
         ·rw[zi5 xs xi hel hd' (by omega)];have:=zgC (xi*es+off') hr hlr;refine cast ?_ this;congr 1;rw[hvl']
          apply List.ext_getElem?
          intro k;simp only[List.getElem?_append,List.getElem?_take,List.getElem?_drop,List.length_append,List.length_take,List.length_drop,hvl',Array.length_toList,List.size_toArray];have e1:min (xi*es+off') cur.size=xi*es+off':=by omega
          have e2:min (n*es) cur.size=n*es:=by omega
          have e3:min (xi*es+off') (n*es)=xi*es+off':=by omega
          simp only[e1,e2,e3]
          by_cases hk1:k<xi*es+off'
          ·simp[hk1,show k<xi*es+off'+i.size by omega,show k<n*es by omega]
          ·by_cases hk2:k<xi*es+off'+i.size
           ·simp[hk1,hk2,show k<n*es by omega]
           ·by_cases hk3:k<n*es
            ·simp[hk1,hk2,hk3,show xi*es+off'+i.size+(k-(xi*es+off'+i.size))=k by omega]
            ·simp[hk1,hk2,hk3,show ¬(xi*es+off'+i.size+(k-(xi*es+off'+i.size))<n*es) by omega]
        cases hw0:Nat.beq off 0&&Nat.beq i.size es with
        |true=>
         simp only[Bool.and_eq_true] at hw0;have h0:=Nat.eq_of_beq_eq_true hw0.1;have h1:=Nat.eq_of_beq_eq_true hw0.2;have:=hput 0 h0.symm (by omega);have e:zbR d 0 l=l:=by simp[zbR];omega
         rw[e] at this;exact this
        |false=>
         intro d2 hd2;rw[hd'] at hd2;simp only[Option.some.injEq] at hd2;subst hd2
         dsimp only
         by_cases hfb:Nat.ble (off+i.size) d.length=true
         ·rw[hfb];have:=Nat.le_of_ble_eq_true hfb;exact hput off rfl (by omega)
         ·rw[Bool.not_eq_true] at hfb;rw[hfb]
          trivial
   ·trivial
end
end Go.AI
