/- The layer of abstract runs, part 7. -/
import Derived.Test.YtnojpbbaohoadaaGreatDoorElkF
set_option linter.unusedSimpArgs false
set_option linter.unusedVariables false
set_option linter.all false
set_option maxHeartbeats 4000000
namespace Go.AI
def upd (ρ:Nat→Nat→Loc) (nm:Nat) (l:Loc):Nat→Nat→Loc:=fun d n=>if d=0∧n=nm then l else ρ d n
theorem zaX (ρ:Nat→Nat→Loc) (nm:Nat) (l:Loc):upd ρ nm l 0 nm=l:=by simp[upd]
theorem zaS (ρ:Nat→Nat→Loc) (nm:Nat) (l:Loc) {d n:Nat} (h:d≠0∨n≠nm):upd ρ nm l d n=ρ d n:=by
 unfold upd;rw[if_neg];rintro ⟨h1,h2⟩;rcases h with h|h
 ·exact h h1
 ·exact h h2
section
variable {P:Program} {T:TT} {E:Env} {K:Kn} {ρ:Nat→Nat→Loc} {S:List Heap} {w:World} {dst:Nat}
theorem HInv.K_fresh (hw:HInv E K ρ S w) {b o:Nat} (hb:w.heap.size≤b):K b o=none:=by
 cases h:K b o with
 |none=>rfl
 |some x=>
  have:=hw.holds _ _ _ h;simp[World.cell?,Array.getElem?_eq_none hb] at this
theorem zjF (hf:zab S 0 dst=none) (ob:Ob) (l:Loc):Stays K K ρ (upd ρ dst l) (shape S) (shape (addS S [(dst,ob)])):=by
 have hne:∀dep nm x,shape S dep nm=some x→dep≠0∨nm≠dst:=by
  intro dep nm x e
  by_cases hd:dep=0
  ·subst hd;refine .inr fun hn=>?_;subst hn;simp[shape,hf] at e
  ·exact .inl hd
 refine⟨K.le_refl,fun dep nm x e=>?_,fun dep nm x e=>zaS _ _ _ (hne _ _ _ e)⟩
 cases S with
 |nil=>simp[shape,zab] at e
 |cons H O=>
  have h1:=zbx H O [(dst,ob)] dep nm;unfold shape at *;rw[h1]
  split
  ·rename_i hd;subst hd;have:look [(dst,ob)] nm=none:=by
    rw[zac,if_neg]
    ·rfl
    ·have:=hne _ _ _ e;omega
   rw[this];simpa [zab] using e
  ·exact e
theorem zfG (hw:HInv E K ρ S w) (hf:zab S 0 dst=none) {ob:Ob} {l:Loc} {cells:Array Value} {ty:TypeId} {w':World} (hw':w'=w∨w'=w.drew) (hl:zaA l ob→l.block=w.heap.size)
  (hown:OwnAt K (upd ρ dst l) (shape (addS S [(dst,ob)])) (w'.alloc (.cells cells ty)) l ob):Grow K ρ S w [(dst,ob)] K (upd ρ dst l) (w'.alloc (.cells cells ty)):=by
 have hheap:w'.heap=w.heap:=by rcases hw' with rfl|rfl<;>rfl
 have hold:∀b,b<w.heap.size→(w'.alloc (.cells cells ty)).heap[b]? = w.heap[b]?:=by
  intro b hb;have:=heap_alloc_old w' (.cells cells ty) b (by rw[hheap];exact hb);rw[this,hheap]
 refine⟨K.le_refl,fun _ _ _ h=>.inl h,by simp[World.size_alloc,hheap],hold,?_,?_,?_,?_,?_⟩
 ·rcases hw' with rfl|rfl<;>exact⟨rfl,rfl,rfl⟩
 ·intro dep nm h;refine zaS _ _ _ ?_;rcases h with h|h
  ·exact .inl h
  ·rw[zac] at h
   split at h
   ·cases h
   ·rename_i hn;exact .inr fun e=>hn e.symm
 ·intro b o x hx;have h1:=hw.holds _ _ _ hx;have hb:b<w.heap.size:=by
   rcases Nat.lt_or_ge b w.heap.size with h|h
   ·exact h
   ·rw[hw.K_fresh h] at hx;cases hx
  rw[World.cell?,hold b hb];exact h1
 ·intro nm ob' h;rw[zac] at h
  split at h
  ·rename_i hn;subst hn;simp only[Option.some.injEq] at h;subst h;rw[zaX];exact⟨hown,fun hb=>by rw[hl hb];exact Nat.le_refl _⟩
  ·simp[look] at h
 ·intro nm ob1 nm' ob2 h1 h2 _ _ _;rw[zac] at h1 h2
  split at h1
  ·split at h2
   ·omega
   ·simp[look] at h2
  ·simp[look] at h1
theorem zr1 (hw:HInv E K ρ S w) (hf:zab S 0 dst=none) {cs:List Value} {ds:List D} (hr:RepDL K ρ (shape S) cs ds) (ty:TypeId) :
  ∃l,Grow K ρ S w [(dst,.box ds)] K (upd ρ dst l) (w.alloc (.cells cs.toArray ty))∧RepD K (upd ρ dst l) (shape (addS S [(dst,.box ds)])) (.pointer (some ⟨w.heap.size,0,none⟩)) (.own 0 dst 0 0):=by
 have hst:=zjF (K:=K) (ρ:=ρ) hf (.box ds) ⟨w.heap.size,0,none⟩;refine⟨⟨w.heap.size,0,none⟩,zfG hw hf (.inl rfl) (fun _=>rfl) ⟨cs.toArray,ty,heap_alloc_new w _,by simpa using hr.stays hst,fun o=>hw.K_fresh (Nat.le_refl _)⟩,?_⟩;have hsh:shape (addS S [(dst,.box ds)]) 0 dst=some .box:=by
  cases S with
  |nil=>simp[shape,addS,zab,zac,Ob.sh]
  |cons H O=>simp[shape,zbx,zac,Ob.sh]
 have:=RepD.box (K:=K) (ρ:=upd ρ dst ⟨w.heap.size,0,none⟩) (off:=0) hsh;rwa [zaX] at this
theorem ziL {l:List Value} (h:∀x∈l,x.oneCell'=true):RepDL K ρ (shape S) l (l.map fun v=>.i (.v v)):=by
 induction l with
 |nil=>exact .nil
 |cons x l ih=>exact .cons (.i (.v (h x (by simp)))) (ih fun y hy=>h y (by simp[hy]))
theorem zry (hT:TOk P T) (hw:HInv E K ρ S w) {t:Nat}:SndV P dst K ρ S w (Instr.alloc t true (.tuple #[])) (zeroOf T t fun cs=>.new [(dst,.box cs)] (.own 0 dst 0 0)):=by
 unfold zeroOf
 cases hi:look T t with
 |none=>trivial
 |some i=>
  have hok:=hT _ _ hi;simp only[zbL];intro hf;have hf:=hf dst (by simp[zac]);obtain⟨inf,h1,h2,h3,z,h4,h5,-⟩:=hok.info;obtain⟨l,g,r⟩:=zr1 (dst:=dst) hw hf (ziL hok.one) t;refine⟨_,_,_,_,?_,g,r⟩;have hz:z.cells=i.zero.toArray:=by rw[←h5]
  simp[Instr.alloc,zeroValue,typeInfo,h1,h4,newVar,newRow,hz]
theorem zwQ (hT:TOk P T) (hw:HInv E K ρ S w) {t:Nat} {vx:Value} {x:D} (hx:RepD K ρ (shape S) vx x) :
  SndV P dst K ρ S w (Instr.box t vx) (cellsOf T t x fun cs=>.new [(dst,.box cs)] (.own 0 dst 0 0)):=by
 unfold cellsOf
 cases hi:look T t with
 |none=>trivial
 |some i=>
  dsimp only
  cases hb:Nat.beq x.cells.length i.size&&D.ones x.cells with
  |false=>trivial
  |true=>
   simp only[Bool.and_eq_true] at hb;simp only[zbL,cond_true];intro hf;have hf:=hf dst (by simp[zac]);obtain⟨l,g,r⟩:=zr1 (dst:=dst) hw hf (hx.cells hb.2) t;refine⟨_,_,_,_,?_,g,r⟩;simp[Instr.box,newVar,newRow]
theorem znS (off:Nat):∀(vs:List Value) (j:Nat) (cs:Array Value),off+j+vs.length≤cs.size →
  ((vs.zipIdx j).foldl (fun (c:Array Value) p=>c.setIfInBounds (off+p.2) p.1) cs).toList=cs.toList.take (off+j)++vs++cs.toList.drop (off+j+vs.length)
 |[],j,cs,h=>by simp
 |v::vs,j,cs,h=>by
  simp only[List.length_cons] at h;rw[List.zipIdx_cons,List.foldl_cons,znS off vs (j+1) _ (by simp;omega)];have hlt:off+j<cs.size:=by omega
  simp only[Array.setIfInBounds,hlt,dite_true,Array.toList_set]
  apply List.ext_getElem?
  intro k;simp only[List.getElem?_append,List.getElem?_take,List.getElem?_drop,List.length_append,List.length_take,List.length_set,Array.length_toList,List.length_cons,List.getElem?_set]
  by_cases h1:k<off+j
  ·have:k<off+(j+1):=by omega
   have e1:min (off+j) cs.size=off+j:=by omega
   have e2:min (off+(j+1)) cs.size=off+(j+1):=by omega
   simp[h1,this,e1,e2,show ¬(off+j=k) by omega,show k<off+(j+1)+vs.length by omega,show k<off+j+(vs.length+1) by omega]
  ·by_cases h2:k=off+j
   ·subst h2;have e1:min (off+j) cs.size=off+j:=by omega
    have e2:min (off+(j+1)) cs.size=off+(j+1):=by omega
    simp[e1,e2,hlt,show off+j<off+(j+1)+vs.length by omega,show off+j<off+(j+1) by omega]
   ·have e1:min (off+j) cs.size=off+j:=by omega
    have e2:min (off+(j+1)) cs.size=off+(j+1):=by omega
    obtain⟨m,rfl⟩:∃m,k=off+j+1+m:=⟨k-(off+j+1),by omega⟩;simp only[e1,e2,show ¬(off+j+1+m<off+(j+1)) by omega,show ¬(off+j+1+m<off+j) by omega,if_false]
    by_cases h3:m<vs.length
    ·simp[show off+j+1+m<off+(j+1)+vs.length by omega,show off+j+1+m<off+j+(vs.length+1) by omega,show off+j+1+m-(off+(j+1))=m by omega,show off+j+1+m-(off+j)=m+1 by omega]
    ·simp[show ¬(off+j+1+m<off+(j+1)+vs.length) by omega,show ¬(off+j+1+m<off+j+(vs.length+1)) by omega,show ¬(off+j=off+(j+1)+vs.length+(off+j+1+m-(off+(j+1)+vs.length))) by omega,show off+(j+1)+vs.length+(off+j+1+m-(off+(j+1)+vs.length))=off+j+(vs.length+1)+(off+j+1+m-(off+j+(vs.length+1))) by omega];intro h;omega
inductive RepParts (K:Kn) (ρ:Nat→Nat→Loc) (sh:Nat→Nat→Option Sh):List (Nat×Value)→List (Nat×D)→Prop
 |nil:RepParts K ρ sh [] []
 |cons {i:Nat} {v:Value} {d:D} {vs:List (Nat×Value)} {ds:List (Nat×D)}:RepD K ρ sh v d→RepParts K ρ sh vs ds→RepParts K ρ sh ((i,v)::vs) ((i,d)::ds)
theorem zi7 {sh:Nat→Nat→Option Sh} {place:Nat→Option (Nat×Nat)}:∀{vs:List (Nat×Value)} {ds:List (Nat×D)} {cs:Array Value} {dc dc':List D},RepParts K ρ sh vs ds→RepDL K ρ sh cs.toList dc →
  zlB place dc ds=some dc' → ∃cs',Instr.fill place cs vs=some cs'∧RepDL K ρ sh cs'.toList dc'∧cs'.size=cs.size
 |_,_,cs,dc,dc',.nil,h,e=>by
  simp only[zlB,Option.some.injEq] at e;subst e;exact⟨cs,rfl,h,rfl⟩
 |_,_,cs,dc,dc',.cons (i:=i) (v:=v) (d:=d) r rs,h,e=>by
  simp only[zlB] at e
  cases hp:place i with
  |none=>simp[hp] at e
  |some p=>
   obtain⟨o,z⟩:=p;simp only[hp] at e
   cases hb:Nat.beq d.cells.length z&&Nat.ble (o+z) dc.length&&D.ones d.cells with
   |false=>simp[hb] at e
   |true=>
    simp only[hb,cond_true] at e;simp only[Bool.and_eq_true] at hb;obtain⟨⟨h1,h2⟩,h3⟩:=hb;have h1:=Nat.eq_of_beq_eq_true h1;have h2:o+z≤dc.length:=Nat.le_of_ble_eq_true h2;have hc:=r.cells h3;have hcl:v.cells.size=z:=by have:=hc.length;simpa [h1] using this
    have hsz:cs.size=dc.length:=by have:=h.length;simpa using this
    have hfold:=znS o v.cells.toList 0 cs (by simp[hcl];omega);have hz:(v.cells.zipIdx.foldl (fun cs (p:Value×Nat)=>cs.setIfInBounds (o+p.2) p.1) cs)=(v.cells.toList.zipIdx.foldl (fun cs (p:Value×Nat)=>cs.setIfInBounds (o+p.2) p.1) cs):=by
     rw[←Array.foldl_toList];simp
    have hrep:RepDL K ρ sh (v.cells.zipIdx.foldl (fun cs (p:Value×Nat)=>cs.setIfInBounds (o+p.2) p.1) cs).toList (dc.take o++d.cells++dc.drop (o+z)):=by
     rw[hz,hfold];simp only[Nat.add_zero,Array.length_toList,hcl];exact ((h.take o).append hc).append (h.drop (o+z))
    obtain⟨cs',e1,e2,e3⟩:=zi7 rs hrep e;refine⟨cs',?_,e2,?_⟩
    ·simp only[Instr.fill,hp,hcl];rw[if_neg (by simp;omega)];exact e1
    ·rw[e3];have:=congrArg List.length hfold;rw[hz,←Array.length_toList,this];simp[hcl];omega
end
end Go.AI
