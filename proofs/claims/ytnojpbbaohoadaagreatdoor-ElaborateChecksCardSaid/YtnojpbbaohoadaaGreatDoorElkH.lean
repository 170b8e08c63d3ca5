/- The layer of abstract runs, part 8. -/
import Derived.Test.YtnojpbbaohoadaaGreatDoorElkG
set_option linter.unusedSimpArgs false
set_option linter.unusedVariables false
set_option linter.all false
set_option maxHeartbeats 4000000
namespace Go.AI
section
variable {P:Program} {T:TT} {E:Env} {K:Kn} {ρ:Nat→Nat→Loc} {S:List Heap} {w:World} {dst:Nat}
theorem zrx (hT:TOk P T) {t:Nat} {vs:Array (Nat×Value)} {ds:List (Nat×D)} (hp:RepParts K ρ (shape S) vs.toList ds) :
  SndV P dst K ρ S w (Instr.build t vs) (zlG T t ds):=by
 unfold zlG
 cases hi:look T t with
 |none=>trivial
 |some i=>
  have hok:=hT _ _ hi;have hkind:=hok.kind;obtain⟨inf,h1,h2,h3,z,h4,h5,-⟩:=hok.info;have hzr:RepDL K ρ (shape S) z.cells.toList (i.zero.map fun v=>.i (.v v)):=by rw[h5];exact ziL hok.one
  dsimp only
  split
  ·rename_i fs hk;rw[hk] at hkind;obtain⟨fields,hu,hpl,_⟩:=hkind
   split
   ·rename_i cs hcs;refine zdp ?_;obtain⟨cs',e1,e2,e3⟩:=zi7 hp hzr hcs;refine⟨.agg cs',?_,by simpa using RepD.agg e2⟩;have hpl':(fun (x:Nat)=>(fs.map fun f=>(f.1,f.2.1)).toArray[x]?)=(fun (j:Nat)=>(fs[j]?).map fun (p:Nat×Nat×Bool)=>(p.1,p.2.1)):=by
     funext j;simp
    simp only[Instr.build,zeroValue,typeInfo,h1,h4,run_underlying hu,Sem.run_bind,Sem.run_pure,run_program,Result.andThen_ok,hpl];rw[hpl',e1];rfl
   ·trivial
  ·rename_i n e hk;rw[hk] at hkind;unfold zjJ
   cases he:look T e with
   |none=>trivial
   |some ie=>
    dsimp only
    split
    ·rename_i cs hcs;refine zdp ?_;obtain⟨cs',e1,e2,e3⟩:=zi7 hp hzr hcs;refine⟨.agg cs',?_,by simpa using RepD.agg e2⟩;simp only[Instr.build,zeroValue,typeInfo,h1,h4,run_underlying hkind,Sem.run_bind,Sem.run_pure,run_program,Result.andThen_ok,run_sizeOf (hT _ _ he)];rw[e1];rfl
    ·trivial
  ·trivial
theorem zuI {α β:Type} (f:α→β) (n:Nat) (l:List α):repl n (l.map f)=(repl n l).map f:=by
 induction n with
 |zero=>rfl
 |succ n ih=>simp[repl,ih]
theorem zuJ {α:Type} (n:Nat) (l:List α):(repl n l).length=n*l.length:=by
 induction n with
 |zero=>simp[repl]
 |succ n ih=>simp[repl,ih,Nat.add_mul];omega
theorem zuH {α:Type} {n:Nat} {l:List α} {x:α} (h:x∈repl n l):x∈l:=by
 induction n with
 |zero=>simp[repl] at h
 |succ n ih=>
  rcases List.mem_append.1 h with h|h
  ·exact h
  ·exact ih h
theorem zns {α:Type} (l:List α) (hl:0<l.length):∀(n k:Nat),k<n*l.length→(repl n l)[k]? = l[k%l.length]?
 |0,k,h=>by omega
 |n+1,k,h=>by
  simp only[repl]
  by_cases hk:k<l.length
  ·rw[List.getElem?_append_left hk,Nat.mod_eq_of_lt hk]
  ·rw[List.getElem?_append_right (by omega),zns l hl n (k-l.length) (by rw[Nat.add_mul] at h;omega)];congr 1
   conv=>rhs;rw[show k=(k-l.length)+l.length by omega,Nat.add_mod_right]
theorem range_zero (z:Array Value) (n:Nat) (hz:0<z.size):((Array.range (n*z.size)).map (fun x=>z[x%z.size]!)).toList=repl n z.toList:=by
 apply List.ext_getElem?
 intro k
 by_cases hk:k<n*z.size
 ·rw[zns z.toList (by simpa using hz) n k (by simpa using hk)];have hm:=Nat.mod_lt k hz;simp[hk,hm]
 ·rw[List.getElem?_eq_none (by simp;omega),List.getElem?_eq_none (by rw[zuJ];simp;omega)]
theorem zfK (z:Nat):∀(n:Nat) (l:List I),l.length=n*z→(chunk z n l).flatten=l
 |0,l,h=>by simp at h;subst h;rfl
 |n+1,l,h=>by
  rw[Nat.add_mul] at h;simp only[chunk,List.flatten_cons,zfK z n (l.drop z) (by simp;omega)];exact List.take_append_drop z l
theorem zht (z:Nat):∀(n:Nat) (l:List I),(chunk z n l).length=n
 |0,l=>rfl
 |n+1,l=>by simp[chunk,zht z n]
theorem zjg (z:Nat):∀(n:Nat) (l:List I),l.length=n*z→∀d∈chunk z n l,d.length=z
 |0,l,_,d,h=>by simp[chunk] at h
 |n+1,l,hl,d,h=>by
  rw[Nat.add_mul] at hl;simp only[chunk,List.mem_cons] at h;rcases h with rfl|h
  ·simp;omega
  ·exact zjg z n (l.drop z) (by simp;omega) d h
theorem zw7 {sh:Nat→Nat→Option Sh} {v:Value} {d:D} {x:I} (h:RepD K ρ sh v d) (e:d.toI=some x):Rep K v x:=by
 cases h<;>simp only[D.toI,Option.some.injEq,reduceCtorEq] at e
 case i r=>subst e;exact r
 case xsl a b c l=>subst e;exact .sl a b c (Nat.le_refl _) l
 case xnil=>subst e;exact .nil
 case bt=>subst e;exact .v rfl
 case bf=>subst e;exact .v rfl
 case fn f fs cs d' e' h1 h2=>
  cases f with
  |func k=>
   cases d' with
   |nil=>cases e' with
    |nil=>
     cases h1
     cases h2
     simp only[D.toI,Option.some.injEq] at e;subst e;exact .v rfl
    |cons=>simp[D.toI] at e
   |cons=>simp[D.toI] at e
  |_=>simp[D.toI] at e
theorem zd6 {sh:Nat→Nat→Option Sh}:∀{vs:List Value} {ds:List D} {xs:List I},RepDL K ρ sh vs ds→D.toIs ds=some xs→RepL K vs xs
 |_,_,_,.nil,e=>by simp only[D.toIs,Option.some.injEq] at e;subst e;exact .nil
 |_,_,_,.cons (d:=d) (ds:=ds) r rs,e=>by
  simp only[D.toIs] at e
  cases h1:d.toI with
  |none=>simp[h1] at e
  |some x=>
   cases h2:D.toIs ds with
   |none=>simp[h1,h2] at e
   |some ys=>
    simp only[h1,h2,Option.some.injEq] at e;subst e;exact .cons (zw7 r h1) (zd6 rs h2)
theorem ziO (hw:HInv E K ρ S w) (hf:zab S 0 dst=none) {w':World} (hw':w'=w∨w'=w.drew) {cs:Array Value} {es n cap:Nat} {xs:List (List I)} {ty:TypeId} (hel:∀d∈xs,d.length=es) (hn:xs.length=n)
  (hcap:n≤cap) (hm:cap≤maxLen) (hsz:cs.size=cap*es) (hr:RepL K (cs.toList.take (n*es)) xs.flatten) :
  ∃l,Grow K ρ S w [(dst,.arr ty es n xs true)] K (upd ρ dst l) (w'.alloc (.cells cs ty)) ∧
   RepD K (upd ρ dst l) (shape (addS S [(dst,.arr ty es n xs true)])) (.slice (some ⟨w.heap.size,0,none⟩) n cap) (.osl 0 dst):=by
 have hheap:w'.heap=w.heap:=by rcases hw' with rfl|rfl<;>rfl
 refine⟨⟨w.heap.size,cap,some ⟨w.heap.size,0,none⟩⟩,zfG hw hf hw' (fun _=>rfl) ⟨hel,hn,hcap,hm,?_⟩,?_⟩
 ·refine .inr ⟨rfl,cs,?_,hsz,hr,fun _ o=>hw.K_fresh (Nat.le_refl _),fun o _=>hw.K_fresh (Nat.le_refl _),fun h=>by cases h⟩;have:=heap_alloc_new w' (.cells cs ty);rwa [hheap] at this
 ·have hsh:shape (addS S [(dst,.arr ty es n xs true)]) 0 dst=some (.arr es n):=by
   cases S with
   |nil=>simp[shape,addS,zab,zac,Ob.sh]
   |cons H O=>simp[shape,zbx,zac,Ob.sh]
  have:=RepD.osl (K:=K) (ρ:=upd ρ dst ⟨w.heap.size,cap,some ⟨w.heap.size,0,none⟩⟩) hsh;rwa [zaX] at this
theorem zkm (hw:HInv E K ρ S w) {cs:Array Value} {es n:Nat} {xs:List (List I)} {ty:TypeId} (hel:∀d∈xs,d.length=es) (hn:xs.length=n) (hr:RepL K cs.toList xs.flatten) :
  ∃K',Grow K ρ S w [] K' ρ (w.alloc (.cells cs ty))∧Rep K' (.slice (some ⟨w.heap.size,0,none⟩) n n) (.sl es n xs):=by
 let K':Kn:=fun b o=>if b=w.heap.size then cs[o]? else K b o
 have hle:K.le K':=by
  intro b o x hx;have hb:b≠w.heap.size:=fun e=>by subst e;rw[hw.K_fresh (Nat.le_refl _)] at hx;cases hx
  simp only[K',if_neg hb];exact hx
 have hold:∀b,b<w.heap.size→(w.alloc (.cells cs ty)).heap[b]? = w.heap[b]?:=fun b hb=>heap_alloc_old w (.cells cs ty) b hb;have hnew:(w.alloc (.cells cs ty)).heap[w.heap.size]? = some (.cells cs ty):=heap_alloc_new w (.cells cs ty);refine⟨K',⟨hle,fun b o x hx=>?_,by simp[World.size_alloc],hold,⟨rfl,rfl,rfl⟩,fun _ _ _=>rfl,fun b o x hx=>?_,fun _ _ h=>by simp[look] at h,fun _ _ _ _ h=>by simp[look] at h⟩,?_⟩
 ·by_cases hb:b=w.heap.size
  ·exact .inr (by omega)
  ·simp only[K',if_neg hb] at hx;exact .inl hx
 ·by_cases hb:b=w.heap.size
  ·subst hb;simp only[K',if_true] at hx;rw[cell_of_heap hnew];exact hx
  ·simp only[K',if_neg hb] at hx;have h1:=hw.holds _ _ _ hx;have hlt:b<w.heap.size:=by
    rcases Nat.lt_or_ge b w.heap.size with h|h
    ·exact h
    ·rw[hw.K_fresh h] at hx;cases hx
   rw[World.cell?,hold b hlt];exact h1
 ·refine .sl (hr.mono hle) hel (fun j c hc=>?_) (Nat.le_refl _) hn;simp only[K',Nat.zero_add,if_true];simpa using hc
theorem zsD (hw:HInv E K ρ S w) {w':World} (hw':w'=w∨w'=w.drew) (o:Obj):Grow K ρ S w [] K ρ (w'.alloc o):=by
 have hheap:w'.heap=w.heap:=by rcases hw' with rfl|rfl<;>rfl
 have hold:∀b,b<w.heap.size→(w'.alloc o).heap[b]? = w.heap[b]?:=by
  intro b hb;have:=heap_alloc_old w' o b (by rw[hheap];exact hb);rw[this,hheap]
 refine⟨K.le_refl,fun _ _ _ h=>.inl h,by simp[World.size_alloc,hheap],hold,?_,fun _ _ _=>rfl,?_,fun _ _ h=>by simp[look] at h,fun _ _ _ _ h=>by simp[look] at h⟩
 ·rcases hw' with rfl|rfl<;>exact⟨rfl,rfl,rfl⟩
 ·intro b o' x hx;have h1:=hw.holds _ _ _ hx;have hb:b<w.heap.size:=by
   rcases Nat.lt_or_ge b w.heap.size with h|h
   ·exact h
   ·rw[hw.K_fresh h] at hx;cases hx
  rw[World.cell?,hold b hb];exact h1
theorem zhD (hT:TOk P T) (hw:HInv E K ρ S w) {t len:Nat} {vs:Array (Nat×Value)} {ds:List (Nat×D)} (hp:RepParts K ρ (shape S) vs.toList ds) :
  SndV P dst K ρ S w (Instr.buildSlice t len vs) (zc3 T dst t len ds):=by
 unfold zc3
 split
 ·rename_i sz by_ e z cm hi;have hu:P.underlying t=some (.slice e):=(hT _ _ hi).kind
  cases he:look T e with
  |none=>trivial
  |some i=>
   have hok:=hT _ _ he
   dsimp only
   cases len with
   |zero=>
    cases hp':vs.toList with
    |nil=>
     rw[hp'] at hp
     cases hp
     dsimp only
     intro hf;have hf:=hf dst (by simp[zac]);obtain⟨lc,g,r⟩:=ziO (dst:=dst) (cs:=#[]) (ty:=e) (n:=0) (cap:=0) (xs:=[]) (es:=i.size) hw hf (.inl rfl) (by simp) rfl (Nat.le_refl _) (by simp) (by simp) (by simpa using RepL.nil);refine⟨_,_,_,_,?_,g,r⟩;simp[Instr.buildSlice,run_underlying hu,run_sizeOf hok,hp',Instr.fill,newRow,Array.range_zero']
    |cons p ps=>
     rw[hp'] at hp
     cases hp
     trivial
   |succ len=>
    dsimp only
    split
    ·rename_i cs hcs
     split
     ·rename_i l hl
      cases hb:Nat.ble ((len+1)*i.size) 16777216 with
      |false=>trivial
      |true=>
       have hle:(len+1)*i.size≤16777216:=Nat.le_of_ble_eq_true hb;simp only[cond_true];obtain⟨inf,h1,h2,h3,z,h4,h5,-⟩:=hok.info;have hzs:z.cells.size=i.size:=by rw[←Array.length_toList,h5,hok.len]
       have hpos:0<z.cells.size:=by have:=hok.pos;omega
       have hrz:=range_zero z.cells (len+1) hpos;rw[hzs] at hrz;have hzr:RepDL K ρ (shape S) ((Array.range ((len+1)*i.size)).map (fun x=>z.cells[x%i.size]!)).toList (repl (len+1) (i.zero.map fun v=>.i (.v v))):=by
        rw[hrz,zuI,h5];exact ziL fun x hx=>hok.one x (zuH hx)
       obtain⟨cs',e1,e2,e3⟩:=zi7 hp hzr hcs;have hr:=zd6 e2 hl;have hszc:cs'.size=(len+1)*i.size:=by rw[e3];simp
       have hll:l.length=(len+1)*i.size:=by have:=hr.length;simpa [hszc] using this.symm
       have hlen16:len+1≤16777216:=Nat.le_trans (Nat.le_mul_of_pos_right _ (by have:=hok.pos;omega)) hle;have hne:¬((len+1)*i.size=0):=by
        have:=hok.pos;have:=Nat.mul_pos (show 0<len+1 by omega) (Nat.pos_of_ne_zero this);omega
       have hgt:¬((len+1)*i.size>2 ^ 24):=by omega
       have hrun:(Instr.buildSlice t (len+1) vs).run P w=.ok (.slice (some ⟨w.heap.size,0,none⟩) (len+1) (len+1)) (w.alloc (.cells cs' e)):=by
        simp only[Instr.buildSlice,run_underlying hu,Sem.run_bind,Result.andThen_ok,run_sizeOf hok,hne,hgt,if_false,Sem.run_pure,zeroValue,typeInfo,h1,h4,run_program,hzs,e1,newRow,run_newObj];rfl
       have hflat:RepL K cs'.toList (chunk i.size (len+1) l).flatten:=by rw[zfK _ _ _ hll];exact hr
       refine⟨fun hf=>?_,fun _=>?_⟩
       case refine_2=>
        obtain⟨K',g,r⟩:=zkm (cs:=cs') (ty:=e) hw (zjg i.size (len+1) l hll) (zht _ _ _) hflat;exact⟨_,K',ρ,_,hrun,g,.i r⟩
       have hf:=hf dst (by simp[zac]);obtain⟨lc,g,r⟩:=ziO (dst:=dst) (cs:=cs') (ty:=e) (cap:=len+1) hw hf (.inl rfl) (zjg i.size (len+1) l hll) (zht _ _ _) (Nat.le_refl _) (by simp only[maxLen];omega) hszc (by
        rw[zfK _ _ _ hll,←hszc,←Array.length_toList,List.take_length];exact hr)
       exact⟨_,_,_,_,hrun,g,r⟩
     ·trivial
    ·trivial
  done
 ·trivial
end
end Go.AI
