/- The layer of abstract runs, part 33. -/
import Derived.Test.YtnojpbbaohoadaaGreatDoorIbxZF
import Derived.Test.YtnojpbbaohoadaaGreatDoorRows
import Derived.KernelRfl
import Derived.JoinedOf
import Derived.SevenTiedAt
set_option linter.unusedSimpArgs false
set_option linter.unusedVariables false
set_option linter.all false
set_option maxHeartbeats 4000000
namespace Go.AI
structure RowU (E0 E:Env) (O:List Heap) (ty es b n cap:Nat) (xs:List (List I)):Prop where
 base:Base E0 E O
 hn:xs.length=n
 hd:∀d∈xs,d.length=es
 hp:E.pr b
 hp0:¬E0.pr b
 ho:∀dep nm ob,zab O dep nm=some ob→zaD (E0.ρ0 dep nm) ob→(E0.ρ0 dep nm).block≠b
 hc:∃c,E.w0.heap[b]? = some (.cells c ty (0,0))∧c.size=cap*es∧RepL E.K0 (c.toList.take (n*es)) xs.flatten
 hcap:n≤cap
 hm:cap≤maxLen
 hk:∀o,E.K0 b o=none
section
variable {P:Program} {E0 E:Env} {K:Kn} {ρ:Nat→Nat→Loc} {s:St} {a:Act} {w:World} {H:Heap} {O:List Heap} {ty es b n cap:Nat} {xs:List (List I)}
theorem zy1 {nm t:Nat} (hi:Inv E K ρ s a w) (hS:s.S=H::O) (ho:look H nm=some (.arr ty es n xs true)) (ht:look s.σ t=some (.osl 0 nm)) (hn:0<n) (hb:Base E0 E O) :
  ∃E' b cap,RowU E0 E' O ty es b n cap xs∧Inv E' K ρ {σ:=(t,.i (.v (.slice (some ⟨b,0,none⟩) n cap)))::zdP nm s.σ,S:=zbq nm H::O,n:=s.n} a w:=by
 have hh:=hi.h;rw[hS] at hh;have ho':zab (H::O) 0 nm=some (.arr ty es n xs true):=by simpa [zab] using ho
 have e0:(fun d n=>ρ (0+d) n)=ρ:=by funext d n;rw[Nat.zero_add]
 have hown:=hh.own 0 nm _ ho';rw[e0,List.drop_zero] at hown;obtain⟨h1,h2,h3,h4,h5⟩:=hown;rcases h5 with ⟨c0,c1⟩|⟨c1,cl,h6,h7,h8,h9,h10,h11⟩
 ·omega
 have hbk:(ρ 0 nm).base≠none:=by rw[c1];simp
 have hD:=hh.dropNm nm;have hlt:∀b,b=(ρ 0 nm).block→b<w.heap.size:=by
  rintro b rfl;exact (hh.own 0 nm _ ho').lt hbk
 have hfree:∀nm' ob b,b=(ρ 0 nm).block→zab (zbq nm H::O) 0 nm'=some ob→zaD (ρ 0 nm') ob→(ρ 0 nm').block≠b:=by
  rintro nm' ob b rfl e hbk' hbe;obtain⟨o0,a1,a2,a3,_⟩:=zck e;exact a2 (hh.inj _ _ _ _ _ _ a1 ho' ((a3 _).1 hbk') hbk hbe)
 have hI:=hD.rebase hlt hfree;have hB:=zlN hD hb hlt;refine⟨_,(ρ 0 nm).block,(ρ 0 nm).cap,⟨hB,h2,h1,.inr rfl,fun hp=>hh.loc nm _ ho' hbk (hb.pr _ hp),fun dep nm' ob e hbk' hbe=>?_,⟨cl,h6,h7,h8⟩,h3,h4,h9 rfl⟩,hI,hi.defers,hi.size,fun t' d e=>?_⟩
 ·have e2:ρ (dep+1)=E0.ρ0 dep:=by rw[hh.outer,hb.ρ]
  have:=hh.inj (dep+1) nm' ob 0 nm _ (by simpa [zab] using e) ho' (by rw[e2];exact hbk') hbk (by rw[e2];exact hbe);omega
 ·have hsl:∀t' d0,look s.σ t'=some d0→RepD K ρ (shape (zbq nm H::O)) (a.tmps.getD t' undef) (d0.kill nm):=by
   intro t' d0 e0;have h1:=hi.slots t' d0 e0;rw[hS] at h1;exact RepD.kill (zjj (ρ:=ρ) (H:=H) (O:=O) nm) h1
  simp only[zac] at e
  split at e
  ·rename_i e2;subst e2;simp only[Option.some.injEq] at e;subst e;have h1:=hi.slots t _ ht;rw[hS] at h1;have:=zc8 (es:=es) (len:=n) h1 (by simp[shape,zab,ho,Ob.sh]);rw[this,c1];exact .i (.v rfl)
  ·rw[zcG] at e
   cases hl:look s.σ t' with
   |none=>simp[hl] at e
   |some d0=>
    simp only[hl,Option.map_some,Option.some.injEq] at e;subst e;exact hsl _ _ hl
theorem zng (hh:HInv E K ρ (H::O) w) (hR:RowU E0 E O ty es b n cap xs):(∀o,K b o=none)∧(∀dep nm ob,zab (H::O) dep nm=some ob→zaD (ρ dep nm) ob→(ρ dep nm).block≠b)∧w.heap[b]? = E.w0.heap[b]?:=by
 refine⟨fun o=>?_,fun dep nm ob e hbk=>?_,hh.old b hR.hp (hh.outerNe hR.base hR.ho)⟩
 ·cases hk:K b o with
  |none=>rfl
  |some x=>
   rcases hh.Knew b o x hk with h1|h1
   ·rw[hR.hk] at h1;cases h1
   ·exact absurd hR.hp h1
 ·cases dep with
  |zero=>intro e2;exact hh.loc nm ob e hbk (by rw[e2];exact hR.hp)
  |succ dep=>exact hh.outerNe hR.base hR.ho dep nm ob (by simpa [zab] using e) hbk
theorem zwK (hi:Inv E K ρ s a w) (hS:s.S=H::O) (hR:RowU E0 E O ty es b n cap xs) {t:Nat} {ti:TI} (hok:TIok P t ti) {j off:Nat} {d l:List I} (hd:xs[j]? = some d) (hoff:off+ti.size≤es) {v:Value} (hv:RepL K v.cells.toList l) (hl:l.length=ti.size) :
  ∃w' E',(Instr.storeAt t (.pointer (some ⟨b,j*es+off,none⟩)) v).run P w=.ok () w'∧Inv E' K ρ s a w'∧RowU E0 E' O ty es b n cap (xs.set j (zbR d off l)):=by
 have hh:=hi.h;rw[hS] at hh;obtain⟨hKb,hbO,hwb⟩:=zng hh hR;obtain⟨c,hc,hcs,hr⟩:=hR.hc;have hg:w.heap[b]? = some (.cells c ty (0,0)):=hwb.trans hc;have hjl:=(List.getElem?_eq_some_iff.1 hd).1;rw[hR.hn] at hjl;have hmul:(j+1)*es≤n*es:=Nat.mul_le_mul_right _ hjl;have hmul2:n*es≤cap*es:=Nat.mul_le_mul_right _ hR.hcap;rw[Nat.add_mul,Nat.one_mul] at hmul;have hvl:v.cells.toList.length=ti.size:=by rw[hv.length,hl]
 have hvs:v.cells.size=ti.size:=by simpa using hvl
 have hrun:=zgH (P:=P) (w:=w) (o:=j*es+off) hok hg hvs (by omega) hv.one;have hheap:=setRow_heap w b c (c.toList.take (j*es+off)++v.cells.toList++c.toList.drop (j*es+off+v.cells.toList.length)).toArray ty (0,0) hg;have hne:∀b',b' ≠ b→(w.setRow b (c.toList.take (j*es+off)++v.cells.toList++c.toList.drop (j*es+off+v.cells.toList.length)).toArray).heap[b']? = w.heap[b']?:=fun b' h=>setRow_other _ _ _ _ h;have hsz:(w.setRow b (c.toList.take (j*es+off)++v.cells.toList++c.toList.drop (j*es+off+v.cells.toList.length)).toArray).heap.size=w.heap.size:=by simp
 have hrest:=zez w b (c.toList.take (j*es+off)++v.cells.toList++c.toList.drop (j*es+off+v.cells.toList.length)).toArray;generalize hw':w.setRow b (c.toList.take (j*es+off)++v.cells.toList++c.toList.drop (j*es+off+v.cells.toList.length)).toArray=w' at hrun hheap hne hsz hrest;have hbb0:∀b',E0.pr b' → b' ≠ b:=fun b' hp e=>hR.hp0 (e ▸ hp)
 let E':Env:={ K0:=K,ρ0:=E.ρ0,w0:=w',pr:=E.pr,lt:=fun b' hp=>by rw[hsz];exact Nat.lt_of_lt_of_le (E.lt b' hp) hh.size}
 have hI:HInv E' K ρ (H::O) w':=by
  refine⟨fun b' o x e=>?_,fun dep nm ob e=>?_,hh.inj,Nat.le_refl _,fun _ _ _=>rfl,hh.loc,hh.outer,Kn.le_refl _,fun _ _ _ e=>.inl e,⟨rfl,rfl,rfl⟩⟩
  ·have hb':b' ≠ b:=by rintro rfl;rw[hKb] at e;cases e
   rw[World.cell?,hne b' hb'];exact hh.holds _ _ _ e
  ·exact (hh.own dep nm ob e).stays ⟨Kn.le_refl _,fun _ _ _ e=>e,fun _ _ _ _=>rfl⟩ (fun hbk=>hne _ (hbO dep nm ob e (by simpa using hbk))) (fun _ _=>rfl)
 refine⟨w',E',hrun,⟨by rw[hS];exact hI,hi.defers,hi.size,hi.slots⟩,⟨Kn.le_trans hR.base.K hh.Kle,hR.base.ρ,fun b' hp=>hR.base.pr b' hp,fun b' o x e=>?_,?_,fun b' hp ho=>?_,?_⟩,by simp[hR.hn],fun d2 hd2=>?_,hR.hp,hR.hp0,hR.ho,⟨_,hheap,?_,?_⟩,hR.hcap,hR.hm,hKb⟩
 ·rcases hh.Knew b' o x e with h1|h1
  ·exact hR.base.new b' o x h1
  ·exact .inr fun hp=>h1 (hR.base.pr b' hp)
 ·show E0.w0.heap.size≤w'.heap.size;rw[hsz];exact Nat.le_trans hR.base.size hh.size
 ·show w'.heap[b']? = _;rw[hne b' (hbb0 b' hp),hh.old b' (hR.base.pr b' hp) (hh.outerNe hR.base ho)];exact hR.base.old b' hp ho
 ·show w'.tape=_∧w'.os=_∧w'.output=_;exact⟨hrest.1.trans (hh.rest.1.trans hR.base.rest.1),hrest.2.1.trans (hh.rest.2.1.trans hR.base.rest.2.1),hrest.2.2.trans (hh.rest.2.2.trans hR.base.rest.2.2)⟩
 ·rcases List.mem_or_eq_of_mem_set hd2 with h2|h2
  ·exact hR.hd d2 h2
  ·subst h2;have:=hR.hd d (List.mem_of_getElem? hd);simp only[zbR,List.length_append,List.length_take,List.length_drop];omega
 ·simp only[List.size_toArray,List.length_append,List.length_take,List.length_drop,Array.length_toList,hvl];omega
 ·rw[zi5 xs j hR.hd hd (by omega)];have:=zgC (j*es+off) (RepL.mono hh.Kle hr) hv;refine cast ?_ this;show RepL K _ _=RepL K _ _;congr 1;rw[hvl]
  apply List.ext_getElem?
  intro k;simp only[List.getElem?_append,List.getElem?_take,List.getElem?_drop,List.length_append,List.length_take,List.length_drop,hvl,Array.length_toList,List.size_toArray];have e1:min (j*es+off) c.size=j*es+off:=by omega
  have e2:min (n*es) c.size=n*es:=by omega
  have e3:min (j*es+off) (n*es)=j*es+off:=by omega
  simp only[e1,e2,e3]
  by_cases hk1:k<j*es+off
  ·simp[hk1,show k<j*es+off+ti.size by omega,show k<n*es by omega]
  ·by_cases hk2:k<j*es+off+ti.size
   ·simp[hk1,hk2,show k<n*es by omega]
   ·by_cases hk3:k<n*es
    ·simp[hk1,hk2,hk3,show j*es+off+ti.size+(k-(j*es+off+ti.size))=k by omega]
    ·simp[hk1,hk2,hk3,show ¬(j*es+off+ti.size+(k-(j*es+off+ti.size))<n*es) by omega]
theorem zxC (hi:Inv E K ρ s a w) (hS:s.S=H::O) (hR:RowU E0 E O ty es b n cap xs):∃E' K',Inv E' K' ρ s a w∧Base E0 E' O∧Rep E'.K0 (.slice (some ⟨b,0,none⟩) n cap) (.sl es n xs):=by
 have hh:=hi.h;rw[hS] at hh;obtain⟨hKb,hbO,hwb⟩:=zng hh hR;obtain⟨c,hc,hcs,hr⟩:=hR.hc;have hg:w.heap[b]? = some (.cells c ty (0,0)):=hwb.trans hc;have hcell:=cell_of_heap hg;have hle:K.le (frz K w b (n*es)):=by
  intro b' o x e;unfold frz
  split
  ·exact hh.holds _ _ _ e
  ·exact e
 have hKne:∀b',b' ≠ b→∀o,frz K w b (n*es) b' o=K b' o:=fun b' h o=>by
  unfold frz;rw[if_neg (fun h'=>h h'.1)]
 let E':Env:={ K0:=frz K w b (n*es),ρ0:=E.ρ0,w0:=w,pr:=E.pr,lt:=fun b' hp=>Nat.lt_of_lt_of_le (E.lt b' hp) hh.size}
 have hI:HInv E' (frz K w b (n*es)) ρ (H::O) w:=by
  refine⟨fun b' o x e=>?_,fun dep nm ob e=>?_,hh.inj,Nat.le_refl _,fun _ _ _=>rfl,hh.loc,hh.outer,Kn.le_refl _,fun _ _ _ e=>.inl e,⟨rfl,rfl,rfl⟩⟩
  ·unfold frz at e
   split at e
   ·exact e
   ·exact hh.holds _ _ _ e
  ·exact (hh.own dep nm ob e).stays ⟨hle,fun _ _ _ e=>e,fun _ _ _ _=>rfl⟩ (fun _=>rfl) (fun hbk o=>hKne _ (hbO dep nm ob e (by simpa using hbk)) o)
 refine⟨E',_,⟨by rw[hS];exact hI,hi.defers,hi.size,fun t d e=>(hi.slots t d e).stays ⟨hle,fun _ _ _ e=>e,fun _ _ _ _=>rfl⟩⟩,⟨Kn.le_trans hR.base.K (Kn.le_trans hh.Kle hle),hR.base.ρ,fun b' hp=>hR.base.pr b' hp,fun b' o x e=>?_,Nat.le_trans hR.base.size hh.size,fun b' hp ho=>?_,?_⟩,?_⟩
 ·by_cases hbe:b'=b
  ·subst hbe;exact .inr hR.hp0
  ·have e:frz K w b (n*es) b' o=some x:=e;rw[hKne b' hbe] at e;rcases hh.Knew b' o x e with h1|h1
   ·exact hR.base.new b' o x h1
   ·exact .inr fun hp=>h1 (hR.base.pr b' hp)
 ·show w.heap[b']? = _;rw[hh.old b' (hR.base.pr b' hp) (hh.outerNe hR.base ho)];exact hR.base.old b' hp ho
 ·show w.tape=_∧w.os=_∧w.output=_;exact⟨hh.rest.1.trans hR.base.rest.1,hh.rest.2.1.trans hR.base.rest.2.1,hh.rest.2.2.trans hR.base.rest.2.2⟩
 ·refine .sl (RepL.mono (Kn.le_trans hh.Kle hle) hr) hR.hd (fun j c' hc'=>?_) hR.hcap hR.hn;rw[List.getElem?_take] at hc'
  split at hc'
  ·rename_i hj;show frz K w b (n*es) b (0+j)=_;unfold frz;rw[Nat.zero_add,if_pos ⟨rfl,hj⟩,hcell];simpa using hc'
  ·cases hc'
end
section
variable {c:Cx} {s:St} {k:List Item} {ops:Array Oper} {rest:List Nat} {o:Oper} {E0:Env} {H:Heap} {O:List Heap} {ty es b n cap:Nat} {xs:List (List I)}
theorem zsw {i nm:Nat} (t:Nat) (hb:Base E0 c.E O) (hS:s.S=H::O) (ho:look H nm=some (.arr ty es n xs true)) (ht:look s.σ t=some (.osl 0 nm)) (hn:0<n)
  (h:∀E' b cap,RowU E0 E' O ty es b n cap xs→GM {c with E:=E' } (.pause ops i rest o {σ:=(t,.i (.v (.slice (some ⟨b,0,none⟩) n cap)))::zdP nm s.σ,S:=zbq nm H::O,n:=s.n} k)):GM c (.pause ops i rest o s k):=by
 refine⟨fun K ρ a w hi=>?_⟩;obtain⟨E',b,cap,hR',hi'⟩:=zy1 hi hS ho ht hn hb;exact (h E' b cap hR').h K ρ a w hi'
theorem zpG {todo:List Item} (hR:RowU E0 c.E O ty es b n cap xs) (hS:s.S=H::O) (h:∀E',Base E0 E' O→Rep E'.K0 (.slice (some ⟨b,0,none⟩) n cap) (.sl es n xs)→Rch {c with E:=E' } todo s):Rch c todo s:=by
 intro K ρ a w fr cs hi h1 h2;obtain⟨E',K',hi',hB,hr⟩:=zxC hi hS hR;exact h E' hB hr K' ρ a w fr cs hi' h1 h2
theorem g_rg {i:Nat} (h:RG c ops (i::rest) s k):GM c (.pause ops i rest o s k):=⟨h⟩
theorem zyB (hT:TOk c.P c.T) (hfn:c.P.funcs[c.f]? = some c.fn) (h:GM c (run c.T c.stop 1000 (.inRegion ops rest::k) s)):RG c ops rest s k:=za5 hT hfn 1000 (.inRegion ops rest::k) s h.h
theorem zyA {i t:Nat} {v':Value} (ho:ops[i]? = some o) (hg:o.guard=none) (hd:o.dst=some t) (hv:v'.oneCell'=true) (hn:Nat.ble (t+1) s.n=true) (hrun:∀K ρ a w,Inv c.E K ρ s a w→(execOp a.eval o).run c.P w=.ok (.value v') w)
  (h:RG c ops rest (setM s t (.i (.v v'))) k):RG c ops (i::rest) s k:=by
 intro K ρ a w hi;simp only[wpOps,ho,zb4 hi (show zaN ops s o=some true by unfold zaN;rw[hg]),if_true];refine .inl ?_;simp only[Oper.wp,hrun K ρ a w hi,Oper.upon];rw[zdH] at h;refine h K ρ _ w ?_;rw[hd];exact zdu hi (Nat.le_of_ble_eq_true hn) hi.h (Stays.refl _ _ _) (.i (.v hv))
theorem zkZ (hT:TOk c.P c.T) {i t t1 f off o1 z:Nat} {ag:Bool} {x:Operand} {ti1:TI} {fs:List (Nat×Nat×Bool)} (ho:ops[i]? = some o) (hg:o.guard=none) (hd:o.dst=some t) (hop:o.op=.fieldAddr t1 x f) (h1:look c.T t1=some ti1) (hk1:ti1.k=.struct fs) (hf:fs[f]? = some (o1,z,ag))
  (hx:evD s x=.i (.v (.pointer (some ⟨b,off,none⟩)))) (hn:Nat.ble (t+1) s.n=true)
  (h:RG c ops rest (setM s t (.i (.v (.pointer (some ⟨b,off+o1,none⟩))))) k):RG c ops (i::rest) s k:=by
 refine zyA ho hg hd rfl hn (fun K ρ a w hi=>?_) h;have hok:=(hT _ _ h1).kind;rw[hk1] at hok;obtain⟨fields,hu,hs,hf'⟩:=hok;obtain⟨fl,inf,g1,g2,g3,g4,g5,g6⟩:=hf' _ _ hf;simp only at g2 g4 g5;have h0:inf.size≠0:=by rw[g4];exact g5
 have hr:=hi.ev x;rw[hx] at hr;have:(Instr.fieldAt t1 (.pointer (some ⟨b,off,none⟩)) f).run c.P w=.ok (.pointer (some ⟨b,off+fl.offset,none⟩)) w:=by
  simp[Instr.fieldAt,run_underlying hu,g1,Instr.sureAddr,zeo (t:=t1) (w:=w) g3 h0]
 rw[g2] at this;simp[execOp,hop,zaP hr,this,Sem.run_bind,Sem.run_pure]
theorem ze0 (hT:TOk c.P c.T) {i t j off:Nat} {x y:Operand} {ti:TI} {d:List I} {v:D} {l:List I} (hR:RowU E0 c.E O ty es b n cap xs) (ho:ops[i]? = some o) (hg:o.guard=none) (hd:o.dst=none) (hop:o.op=.store t x y) (h1:look c.T t=some ti)
  (hx:evD s x=.i (.v (.pointer (some ⟨b,j*es+off,none⟩)))) (hy:evD s y=v) (hv:D.ones v.cells=true) (hvl:D.toIs v.cells=some l) (hl:l.length=ti.size) (he:xs[j]? = some d) (hoff:off+ti.size≤es) (hS:s.S=H::O)
  (h:∀E',RowU E0 E' O ty es b n cap (xs.set j (zbR d off l))→RG {c with E:=E' } ops rest s k):RG c ops (i::rest) s k:=by
 intro K ρ a w hi;simp only[wpOps,ho,zb4 hi (show zaN ops s o=some true by unfold zaN;rw[hg]),if_true];refine .inl ?_;have hr:=hi.ev x;rw[hx] at hr;have hr2:=hi.ev y;rw[hy] at hr2;have hl1:=zd2 (hr2.cells hv) hvl;obtain⟨w',E',hrun,hi',hR'⟩:=zwK (P:=c.P) hi hS hR (hT _ _ h1) he hoff hl1 hl;have hexec:(execOp a.eval o).run c.P w=.ok .skip w':=by
  simp only[execOp,hop,zaP hr,hrun,Sem.run_bind,Result.andThen_ok,Sem.run_pure]
 simp only[Oper.wp,hexec,Oper.upon];have hput:a.put o.dst undef=a:=by rw[hd];rfl
 rw[hput];exact h E' hR' K ρ _ _ hi'
theorem zgd (nm:Nat) {tya esa na:Nat} {ca ys:List (List I)} {wr:Bool} (hS:s.S=H::O) (ho:look H nm=some (.arr tya esa na ca wr)) (hl:ys.length=ca.length) (he:∀d∈ys,d.length=esa) (hco:∀K vs,c.E.K0.le K→RepL K vs ca.flatten→RepL K vs ys.flatten) :
  Wk c s {σ:=s.σ,S:=((nm,.arr tya esa na ys wr)::H)::O,n:=s.n}:=by
 intro K ρ a w hi;have hh:=hi.h;rw[hS] at hh;have hsh:shape (((nm,Ob.arr tya esa na ys wr)::H)::O)=shape (H::O):=za6 ho rfl;refine⟨K,ρ,hh.reob ho rfl (fun h=>h) fun h=>?_,hi.defers,hi.size,fun t d e=>?_⟩
 ·obtain⟨h1,h2,h3,h4,h5⟩:=h;refine⟨he,by rw[hl];exact h2,h3,h4,?_⟩;rcases h5 with h5|⟨h5,c',h6,h7,h8,h9⟩
  ·exact .inl h5
  ·exact .inr ⟨h5,c',h6,h7,hco _ _ hh.Kle h8,h9⟩
 ·show RepD K ρ (shape (((nm,Ob.arr tya esa na ys wr)::H)::O)) _ _;rw[hsh,←hS];exact hi.slots t d e
end
end Go.AI
namespace Go.AI
open Go.Proofs
theorem RowOf.form {E0 E:Env} {O:List Heap} {ty es:Nat} {v:Value} {xs:List (List I)} (h:RowOf E0 E O ty es v xs) (hx:0<xs.length):∃b cap,v=.slice (some ⟨b,0,none⟩) xs.length cap:=by
 cases h with
 |nil=>simp at hx
 |row hn=>exact⟨_,_,by rw[hn]⟩
theorem zrB (E:Env) (O:List Heap) (ty es:Nat):RowsO E E O ty es [] []:=⟨.refl _ _,rfl,fun j v xs h1 _=>by simp at h1,fun i j v v' b _ h1 _ _=>by simp at h1⟩
section
variable {E:Env} {K:Kn} {ρ:Nat→Nat→Loc} {s:St} {a:Act} {w:World} {H:Heap} {O:List Heap} {ty es n:Nat} {xs:List (List I)}
theorem zki {nm t:Nat} {wr:Bool} (hi:Inv E K ρ s a w) (hS:s.S=H::O) (ho:look H nm=some (.arr ty es n xs wr)) (ht:look s.σ t=some (.osl 0 nm)) :
  ∃E1 E2 K' v,Base E E1 O∧RowsO E1 E2 O ty es [v] [xs]∧Rep E1.K0 v (.sl es n xs)∧Inv E2 K' ρ {σ:=(t,.i (.v v))::zdP nm s.σ,S:=zbq nm H::O,n:=s.n} a w∧E1.K0.le K' ∧
   (∀tx i off,look s.σ tx=some (.own 0 nm i off)→Rep E1.K0 (a.tmps.getD tx undef) (.ptr es xs i off)):=by
 have hh:=hi.h;rw[hS] at hh;obtain⟨K1,hle,hF⟩:=hh.freeze ho;have hsh:shape (((nm,Ob.arr ty es n xs false)::H)::O)=shape (H::O):=za6 ho rfl;have e0:(fun d n=>ρ (0+d) n)=ρ:=by funext d n;rw[Nat.zero_add]
 have hown:=hF.own 0 nm (.arr ty es n xs false) (by simp[zab,zac]);have hF1:=hF.rebase (q:=fun _=>False) (fun _ h=>h.elim) (fun _ _ _ h=>h.elim);have hB:=zlN hF (Base.refl E O) (q:=fun _=>False) (fun _ h=>h.elim);have hs1:∀t d,look s.σ t=some d→RepD K1 ρ (shape (((nm,Ob.arr ty es n xs false)::H)::O)) (a.tmps.getD t undef) d:=fun t' d e=>by
  have h1:=hi.slots _ _ e;rw[hS] at h1;rw[hsh];exact h1.stays ⟨hle,fun _ _ _ e=>e,fun _ _ _ _=>rfl⟩
 have hi1:Inv (reE E K1 w (fun _=>False) (fun _ h=>h.elim) hF.size) K1 ρ {σ:=s.σ,S:=((nm,.arr ty es n xs false)::H)::O,n:=s.n} a w:=⟨hF1,hi.defers,hi.size,hs1⟩;have ho1:look ((nm,Ob.arr ty es n xs false)::H) nm=some (.arr ty es n xs false):=by simp[zac]
 obtain⟨E2,K2,v,hR,hi2⟩:=zvh hi1 rfl ho1 ht (zrB _ O ty es);have ek:zbq nm ((nm,.arr ty es n xs false)::H)=zbq nm H:=by simp[zbq]
 rw[ek] at hi2;have hv1:=zc8 (es:=es) (len:=n) (hs1 _ _ ht) (by simp[shape,zab,zac,Ob.sh]);have hv2:=zaP (hi2.slots t (.i (.v v)) (by simp[zac]));refine⟨_,E2,K2,v,hB,hR,?_,hi2,Kn.le_trans hR.base.K hi2.h.Kle,fun tx i off htx=>?_⟩
 ·rw[←hv2,hv1];exact zdc hown
 ·obtain⟨hil,hv⟩:=zsh (es:=es) (len:=n) (hs1 _ _ htx) (by simp[shape,zab,zac,Ob.sh]);rw[hv];obtain⟨g1,g2,g3,g4,g5⟩:=hown;rcases g5 with ⟨g5,_⟩|⟨g5,cl,g6,g7,g8,g9,g10,g11⟩
  ·omega
  ·have:Rep K1 (.pointer (some ⟨(ρ 0 nm).block,0+i*es+off,none⟩)) (.ptr es xs i off):=by
    refine .ptr g8 g1 fun j c' hc'=>?_;rw[List.getElem?_take] at hc'
    split at hc'
    ·rename_i hj;rw[Nat.zero_add,g11 rfl j hj];simpa using hc'
    ·cases hc'
   show Rep K1 _ _;simpa using this
end
section
variable {c:Cx} {s:St} {k:List Item} {ops:Array Oper} {rest:List Nat} {o:Oper} {H:Heap} {O:List Heap} {ty es n:Nat} {xs:List (List I)}
theorem zvj {i nm:Nat} {wr:Bool} (t:Nat) (hS:s.S=H::O) (ho:look H nm=some (.arr ty es n xs wr)) (ht:look s.σ t=some (.osl 0 nm))
  (h:∀E1 E2 v,Base c.E E1 O→RowsO E1 E2 O ty es [v] [xs]→Rep E1.K0 v (.sl es n xs)→GM {c with E:=E2} (.pause ops i rest o {σ:=(t,.i (.v v))::zdP nm s.σ,S:=zbq nm H::O,n:=s.n} k)):GM c (.pause ops i rest o s k):=by
 refine⟨fun K ρ a w hi=>?_⟩;obtain⟨E1,E2,K',v,hB,hR',hv,hi',_,_⟩:=zki hi hS ho ht;exact (h E1 E2 v hB hR' hv).h K' ρ a w hi'
theorem zrF {todo:List Item} {nm i off:Nat} {wr:Bool} (t tx:Nat) (hS:s.S=H::O) (ho:look H nm=some (.arr ty es n xs wr)) (ht:look s.σ t=some (.osl 0 nm)) (htx:look s.σ tx=some (.own 0 nm i off)) (hne:Nat.beq tx t=false)
  (h:∀E1 E2 v,Base c.E E1 O→RowsO E1 E2 O ty es [v] [xs]→Rep E1.K0 v (.sl es n xs)→Rch {c with E:=E2} todo {σ:=(tx,.i (.ptr es xs i off))::(t,.i (.v v))::zdP nm s.σ,S:=zbq nm H::O,n:=s.n}):Rch c todo s:=by
 intro K ρ a w b cs hi h1 h2;obtain⟨E1,E2,K',v,hB,hR',hv,hi',hle,hp⟩:=zki hi hS ho ht;refine h E1 E2 v hB hR' hv K' ρ a w b cs ⟨hi'.h,hi'.defers,hi'.size,fun t' d e=>?_⟩ h1 h2;have e':look ((tx,D.i (.ptr es xs i off))::(t,.i (.v v))::zdP nm s.σ) t'=some d:=e;rw[zac] at e'
 split at e'
 ·rename_i e2;subst e2;simp only[Option.some.injEq] at e';subst e';exact .i ((hp _ _ _ htx).mono hle)
 ·exact hi'.slots t' d e'
variable {n':Nat} {F:SH→List Pl→Prop}
theorem zkU {o:Oper} {x:SH} {t j:Nat} {ca:List (List I)} {d0:List I} {gk:List I→Ask} {v:Value} {d:I} (hT:TOk c.P c.T) (hw:zaN ops (St.of O n' (zaI ops o x)) o=some true) (ht:o.dst=some t) (hn:Nat.ble (t+1) n'=true) (hro:roB o=true)
  (hx:exec c.T (St.of O n' (zaI ops o x)) o=.elem ca j gk) (he:ca[j]? = some d0) (hg:gk d0=.val (.i (.v v))) (hv:Rep c.E.K0 v d):zc3 c ops O n' o (zaI ops o x) (.one t (.i d)):=by
 refine .inr ⟨hw,fun E hE K ρ a w hi next Qe hnx=>?_⟩;have hs:Stp {c with E:=E} o (St.of O n' (zaI ops o x)) (fun s'=>s'.S=(zaI ops o x).2::O∧s'.n=n'∧look s'.σ t=some (.i (.v v))):=by
  refine zbJ (c:={ c with E:=E}) hT ?_;show Does {c with E:=E} o _ _ (exec c.T _ o);rw[hx];refine⟨d0,he,?_⟩;rw[hg];show Does _ _ _ _ (.val _);simp only[Does,ht];exact⟨Nat.le_of_ble_eq_true hn,rfl,rfl,by simp[St.set,zac]⟩
 refine hs K ρ a w hi next Qe fun val w' s' K' ρ' hle hk hi' hq=>?_
 obtain⟨h1,h2,h3⟩:=hq;have hh:=hi'.h;rw[h1] at hh hk;have hgo:zby (St.of O n' (zaI ops o x)) o=none:=zhg hro;refine hnx val w' [(t,.i d)] K' ρ' hle (fun d' n' x' e1 e2=>hk d' n' x' (by rw[hgo];exact e1) e2) ⟨hh,hi'.defers,by rw[hi'.size,h2],fun t' d' e=>?_⟩ fun t' d' e=>.inr e;obtain⟨rfl,rfl⟩:=zaU e;have h4:=hi'.slots t _ h3;rw[zaP h4];exact .i (hv.mono (Kn.le_trans hE.kn hi'.h.Kle))
theorem zy8 {o:Oper} {rest:List Oper} {x:SH} {acc:List Pl} {l:List Oper} {t j i N:Nat} {ca:List (List I)} {d0:List I} {gk:List I→Ask} {v:Value} {d:I} (hT:TOk c.P c.T) (hl:l=o::rest) (hN:acc.length=N) (hw:zaN ops (St.of O n' (zaI ops o x)) o=some true) (ht:o.dst=some t) (hn:Nat.ble (t+1) n'=true) (hro:roB o=true)
  (hx:exec c.T (St.of O n' (zaI ops o x)) o=.elem ca j gk) (he:ca[j]? = some d0) (hg:gk d0=.val (.i (.v v))) (hv:Rep c.E.K0 v d)
  (h:GE c ops O n' F (runS c.T ops O n' i rest (setX x t (.i d)) (acc++[.one t (.i d)]))):GE c ops O n' (SegF c ops O n' F N l) (.done x acc):=by
 subst hl;refine⟨⟨hN,zdR (zkU hT hw ht hn hro hx he hg hv) ?_⟩⟩;exact zbb hT rest i _ _ h.h
end
theorem zlk {c:Cx} {s:St} {k:List Item} {ops:Array Oper} (hT:TOk c.P c.T) (E0:Env) (m m2:Nat) {id:Nat} {O:List Heap} {H:Heap} (hS:s.S=H::O) (hml:m≤m2) (hm2:m2≤ops.size)
  (h:GE {c with E:=E0} ops O s.n (SegF {c with E:=E0} ops O s.n (FDR c E0 id ops O s.n (s.σ,H) k) m ((ops.toList.take m2).drop m)) (runS c.T ops O s.n 0 (ops.toList.take m) (s.σ,H) [])):GM c (.drawn id ops s k):=by
 have h0:=zwj (c:={ c with E:=E0}) (by simp;omega) (zbb (c:={ c with E:=E0}) hT _ _ _ _ h.h);have e:ops.toList.take m++(ops.toList.take m2).drop m=ops.toList.take m2:=by
  have:=List.take_append_drop m (ops.toList.take m2);rwa [List.take_take,Nat.min_eq_left hml] at this
 rw[e] at h0;obtain⟨qs,h1,h2⟩:=h0;rw[List.nil_append] at h2;have hs:s=St.of O s.n (s.σ,H):=by
  cases s
  simp only at hS;subst hS;rfl
 refine⟨?_⟩;show Rch c (.code (.region id ops true)::k) s;rw[hs];exact h2 rfl (zei h1)
theorem zvH {c:Cx} {ops:Array Oper} {k:List Item} {i:Nat} {o:Oper} {rest:List Oper} {O:List Heap} {n:Nat} {x:SH} {acc:List Pl} {x0:SH} (l:List Nat) (hok:okT ops acc x0=true) (hl:List.range' acc.length (ops.size-acc.length)=l) (h:RG c ops l (St.of O n x) k) :
  GE c ops O n (FD c ops O n x0 k) (.old i o rest x acc):=⟨fun _=>⟨[],trivial,by rw[List.append_nil];exact⟨hok,by rw[hl];exact h⟩⟩⟩
end Go.AI
namespace Go.AI
open Go.Proofs
set_option maxRecDepth 20000
def addZ (x:Ins) (L:List Ins):Nat→List Ins
 |0=>L
 |k+1=>addZ x L k++[⟨zbC 122 (L.length+k),x.tpl,x.evs⟩]
theorem zjm (x:Ins) (L:List Ins):∀k,(addZ x L k).length=L.length+k
 |0=>rfl
 |k+1=>by rw[addZ,List.length_append,zjm x L k];rfl
def chgI (how b:Int) (nm:ByteArray) (L:List Ins) (q:Nat) (x:Ins):List Ins:=
 if how.tmod 6=0 then L.set q ⟨nm,x.tpl,x.evs⟩ else if how.tmod 6=1 then L.set q ⟨x.name,nm,x.evs⟩ else if how.tmod 6=2 then L.set q ⟨x.name,x.tpl,x.evs.drop 1++[nm]⟩
 else if how.tmod 6=3 then L.set q ⟨x.name,x.tpl,x.evs.drop 1⟩ else if how.tmod 6=4 then L.take q else addZ x L ((7+b.tmod 8).toNat-L.length)
def chgY (k how b:Int) (nm:ByteArray) (L:List Ins):List Ins:=
 if L.length=0 then L else chgI how b nm L ((IntKind.i64.wrap k).tmod (L.length:Int)).toNat (L.getD ((IntKind.i64.wrap k).tmod (L.length:Int)).toNat zgq)
theorem zx9 {how b:Int} {nm:ByteArray} {L:List Ins} {q:Nat} {x:Ins} (hx:x∈L) (h1:L.length≤1000000) (h2:∀x∈L,insOk x) (hn:nm.size≤33) (hb:0≤b∧b≤255):(chgI how b nm L q x).length≤1000000∧∀y∈chgI how b nm L q x,insOk y:=by
 have hxo:=h2 x hx;have hset:∀t,insOk t→(L.set q t).length≤1000000∧∀y∈L.set q t,insOk y:=fun t ht=>⟨by rw[List.length_set];exact h1,zey h2 ht⟩;unfold chgI
 split
 ·exact hset _ ⟨by simp only[zan];omega,hxo.el⟩
 split
 ·exact hset _ ⟨hxo.nm,hxo.el⟩
 split
 ·exact hset _ ⟨hxo.nm,by show (List.drop 1 _++[nm]).length≤_;have:=hxo.el;simp;omega⟩
 split
 ·exact hset _ ⟨hxo.nm,by show (List.drop 1 _).length≤_;have:=hxo.el;simp;omega⟩
 split
 ·exact⟨by rw[List.length_take];omega,fun y hy=>h2 y (List.mem_of_mem_take hy)⟩
 ·have hb2:=Int.emod_nonneg b (show (8:Int)≠0 by decide);have hb3:=Int.emod_lt_of_pos b (show (0:Int)<8 by decide);rw[Int.tmod_eq_emod_of_nonneg hb.1];have key:∀k,L.length+k≤14∨k=0→∀y∈addZ x L k,insOk y:=by
   intro k
   induction k with
   |zero=>exact fun _=>h2
   |succ k ih=>
    intro hk y hy;rcases List.mem_append.1 hy with hy|hy
    ·exact ih (by omega) y hy
    ·rw[List.mem_singleton.1 hy];exact⟨zdh 122 _ (by omega),hxo.el⟩
  exact⟨by rw[zjm];omega,key _ (by omega)⟩
theorem ztb {k how b:Int} {nm:ByteArray} {L:List Ins} (h1:L.length≤1000000) (h2:∀x∈L,insOk x) (hn:nm.size≤33) (hb:0≤b∧b≤255) (hk:0≤k∧k≤255):(chgY k how b nm L).length≤1000000∧∀y∈chgY k how b nm L,insOk y:=by
 unfold chgY
 split
 ·exact⟨h1,h2⟩
 ·rename_i h0;obtain⟨q,hq,hqe⟩:=zfl hk (Nat.pos_of_ne_zero h0);rw[hqe,Int.toNat_natCast];exact zx9 (ze9 hq) h1 h2 hn hb
theorem zx3 {g:Nat} (hg:zda g) {ty:TypeId} {fr:Nat×Nat} (m:Mdl) (s:Slp) (hm:chgOk m) (hs:slOk s) (h0:s.kind.tmod 7=3∨s.kind.tmod 7=4) :
  ∃n,chgR m n∧∀O,zba g (ptab ty fr) Tryz.prog 12 [mdlD m,slD s] O (mdlD n) [] O:=by
 obtain⟨nm,hz,hge,hgi⟩:=zeh hs.name;have hyc:=ztb (k:=s.k) (how:=s.how) hm.ok.co hm.ok.cok hz hs.name hs.k;have hyr:=ztb (k:=s.k) (how:=s.how) hm.ok.rq hm.ok.rqk hz hs.name hs.k;refine⟨if s.kind.tmod 7=3 then ⟨m.name,m.evs,m.tpls,chgY s.k s.how s.name nm m.comps,m.reqs,m.excs,m.cons⟩ else ⟨m.name,m.evs,m.tpls,m.comps,chgY s.k s.how s.name nm m.reqs,m.excs,m.cons⟩,?_,fun O=>?_⟩
 ·split
  ·exact zdz hm {hm.ok with co:=hyc.1,cok:=hyc.2} rfl
  ·exact zdz hm {hm.ok with rq:=hyr.1,rqk:=hyr.2} rfl
 clear hyc hyr;have hio:∀n:Nat,n≤1000→∀O,zba g (ptab ty fr) Tryz.prog 27 [ii (n:Int)] O (.i (.v (.string (zcU (n:Int))))) [] O:=fun n hn O=>zj8 hg (ty:=ty) (fr:=fr) O (n:Int) (by omega) (by omega);have hsz:∀n:Nat,n≤1000→(zcU (n:Int)).size≤21:=fun n hn=>by
  have:=zcH (n:=(n:Int)) (by omega) (by omega);omega
 have hcl:=hm.ok.co;have hrl:=hm.ok.rq;have hce:∀x∈m.comps,0<x.evs.length∧x.evs.length≤1000000:=fun x hx=>⟨hm.cl x hx,(hm.ok.cok x hx).el⟩;have hre:∀x∈m.reqs,0<x.evs.length∧x.evs.length≤1000000:=fun x hx=>⟨hm.rl x hx,(hm.ok.rqk x hx).el⟩;have hk:=hs.k;have hn:=hs.name;obtain⟨b0,b1,b2,b3⟩:=s;obtain⟨a0,a1,a2,a3,a4,a5,a6⟩:=m;clear hm hs;simp only at h0 hge hgi hcl hrl hce hre hk hn ⊢;obtain⟨L,hL⟩:∃L,L=(if b0.tmod 7=3 then a3 else a4):=⟨_,rfl⟩;have hLl:L.length≤1000000:=by rw[hL];split<;>assumption
 have hLe:∀x∈L,0<x.evs.length∧x.evs.length≤1000000:=by rw[hL];split<;>assumption
 obtain⟨X,hX⟩:∃X,X=chgY b1 b2 b3 nm L:=⟨_,rfl⟩;clear hce hre;refine zaM [200014,53,67,68,200318] Tk Tryz.func12 rfl Tryz.call12 Tryz.ntmps12 (Nat.le_of_ble_eq_true rfl) fun E hE=>?_;refine zai Tk Tryz.func12 ?_;refine zed Tk Tryz.func12 (.alt (.new [(14,.arr 9 1 10 (chgN.map fun s=>[strI s]) true)] (.osl 0 14)) (.new [] (.i (.sl 1 10 (chgN.map fun s=>[strI s]))))) rfl rfl (by kernel_rfl) ?_;refine zaf Tk Tryz.func12 (by decide) ?_;refine zaf Tk Tryz.func12 (by exact hgi) ?_;refine zaq Tk Tryz.func12 (hge) ?_;refine zaf Tk Tryz.func12 (by decide) ?_;refine zad Tk Tryz.func12 rfl (fun h=>absurd h (by rcases h0 with h0|h0<;>simp[h0])) (fun _=>?_);refine zad Tk Tryz.func12 rfl (fun h=>absurd h (by rcases h0 with h0|h0<;>simp[h0])) (fun _=>?_);refine zad Tk Tryz.func12 rfl (fun h=>absurd h (by rcases h0 with h0|h0<;>simp[h0])) (fun _=>?_)
 apply zbQ (P:=True) (s6:={ σ:=[(2,.own 0 2 0 0),(3,.own 0 3 0 0),(4,.own 0 4 0 0),(6,.i (strI nm)),(7,ii (IntKind.i64.wrap b1)),(10,.osl 0 248)],S:=[(2,.box (mdlC ⟨a0,a1,a2,a3,a4,a5,a6⟩)),(3,.box (slC ⟨b0,b1,b2,b3⟩)),(4,.box zbG),(248,.arr 107 3 L.length (L.map insI) true)]::O,n:=423})
 ·intro J;refine zad Tk Tryz.func12 rfl (fun hk3=>?_) (fun hk3=>?_)
  ·have hk3:b0.tmod 7=3:=by simpa using hk3
   rw[if_pos hk3] at hL;refine zad Tk Tryz.func12 rfl (fun _=>?_) (fun h=>absurd h (by simp[hk3]));refine zaf Tk Tryz.func12 (by exact⟨by show (0+a3.length)*56≤140737488355328;omega,by show 0+a3.length≤9223372036854775807;omega⟩) ?_;refine zaf Tk Tryz.func12 (by decide) ?_;refine zad Tk Tryz.func12 rfl (fun h=>absurd h (by simp[hk3])) (fun _=>?_);refine zau ?_;exact zav (J trivial) ⟨rfl,rfl,rfl,rfl,rfl,rfl,trivial⟩ rfl ⟨rfl,rfl,rfl,(by rw[hL];exact congrArg (fun n=>some (Ob.arr 107 3 n (a3.map insI) true)) (Nat.zero_add a3.length)),trivial⟩ rfl rfl
  ·have hk3:b0.tmod 7≠3:=by simpa using hk3
   have hk4:b0.tmod 7=4:=by rcases h0 with h0|h0;exact absurd h0 hk3;exact h0
   rw[if_neg hk3] at hL;refine zad Tk Tryz.func12 rfl (fun _=>?_) (fun h=>absurd h (by simp[hk4]));refine zaf Tk Tryz.func12 (by exact⟨by show (0+a3.length)*56≤140737488355328;omega,by show 0+a3.length≤9223372036854775807;omega⟩) ?_;refine zaf Tk Tryz.func12 (by decide) ?_;refine zad Tk Tryz.func12 rfl (fun _=>?_) (fun h=>absurd h (by simp[hk4]));refine zaf Tk Tryz.func12 (by exact⟨by show (0+a4.length)*56≤140737488355328;omega,by show 0+a4.length≤9223372036854775807;omega⟩) ?_;refine zau ?_
   refine zas (zbp (l:=[(2,.own 0 2 0 0),(3,.own 0 3 0 0),(4,.own 0 4 0 0),(6,.i (strI nm)),(7,ii (IntKind.i64.wrap b1)),(10,.osl 0 256)]) (Hv:=[(2,.box (mdlC ⟨a0,a1,a2,a3,a4,a5,a6⟩)),(3,.box (slC ⟨b0,b1,b2,b3⟩)),(4,.box zbG),(256,.arr 107 3 L.length (L.map insI) true)]) ⟨rfl,rfl,rfl,rfl,rfl,rfl,trivial⟩ rfl ⟨rfl,rfl,rfl,(by rw[hL];exact congrArg (fun n=>some (Ob.arr 107 3 n (a4.map insI) true)) (Nat.zero_add a4.length)),trivial⟩ rfl rfl) ?_;refine zas (zq2 256 248 rfl rfl rfl) ?_;exact zav (J trivial) ⟨rfl,rfl,rfl,rfl,rfl,rfl,trivial⟩ rfl ⟨rfl,rfl,rfl,rfl,trivial⟩ rfl rfl
 intro _
 apply zbQ (P:=True) (s6:={ σ:=[(2,.own 0 2 0 0),(3,.own 0 3 0 0),(4,.own 0 4 0 0),(10,.i (zaK X))],S:=[(2,.box (mdlC ⟨a0,a1,a2,a3,a4,a5,a6⟩)),(3,.box (slC ⟨b0,b1,b2,b3⟩)),(4,.box zbG)]::O,n:=423})
 ·intro J;refine zai Tk Tryz.func12 ?_;refine g_go Tk Tryz.func12 ?_;refine zad Tk Tryz.func12 rfl (fun hz0=>?_) (fun hz0=>?_)
  ·have hz0:(L.length:Int)>0:=of_decide_eq_true hz0;obtain⟨q,hq,hqe⟩:=zfl hk (show 0<L.length by omega);have hXd:X=chgI b2 b3 nm L q L[q]:=by
    rw[hX];unfold chgY;rw[if_neg (by omega),hqe,Int.toNat_natCast,List.getD_eq_getElem?_getD,List.getElem?_eq_getElem hq];rfl
   have hxe:=hLe _ (List.getElem_mem hq);have gE:(L.map insI)[((IntKind.i64.wrap b1).tmod (L.length:Int)).toNat]? = some (insI L[q]):=by
    rw[hqe];exact zak (f:=insI) hq
   have hS:∀t,D.i (.sl 3 L.length ((L.map insI).set ((IntKind.i64.wrap b1).tmod (L.length:Int)).toNat (insI t)))=D.i (zaK (L.set q t)):=fun t=>by
    rw[hqe,Int.toNat_natCast];show _=D.i (.sl 3 (L.set q t).length ((L.set q t).map insI));rw[List.length_set,List.map_set]
   generalize L[q]=T at *;obtain⟨tn,tt,te⟩:=T;unfold chgI at hXd;simp only at hxe hXd;refine zaf Tk Tryz.func12 (by show (L.length:Int)≠0;omega) ?_;refine zaf Tk Tryz.func12 (by rw[hqe];exact⟨by omega,by show (q:Int)<(L.length:Int);omega⟩) ?_;refine zaf Tk Tryz.func12 (by decide) ?_;refine zad Tk Tryz.func12 rfl (fun e0=>?_) (fun e0=>?_)
   ·have e0:b2.tmod 6=0:=by simpa using e0
    rw[if_pos e0] at hXd;refine zaq Tk Tryz.func12 (gE) ?_;refine zau ?_;refine zas (zap 248 rfl rfl) ?_;exact zav (J trivial) ⟨rfl,rfl,rfl,((hS ⟨nm,tt,te⟩).trans (congrArg (fun l=>D.i (zaK l)) hXd.symm)),trivial⟩ rfl ⟨rfl,rfl,rfl,trivial⟩ rfl rfl
   have e0:b2.tmod 6≠0:=by simpa using e0
   rw[if_neg e0] at hXd;refine zad Tk Tryz.func12 rfl (fun e1=>?_) (fun e1=>?_)
   ·have e1:b2.tmod 6=1:=by simpa using e1
    rw[if_pos e1] at hXd;refine zaq Tk Tryz.func12 (gE) ?_;refine zau ?_;refine zas (zap 248 rfl rfl) ?_;exact zav (J trivial) ⟨rfl,rfl,rfl,((hS ⟨tn,nm,te⟩).trans (congrArg (fun l=>D.i (zaK l)) hXd.symm)),trivial⟩ rfl ⟨rfl,rfl,rfl,trivial⟩ rfl rfl
   have e1:b2.tmod 6≠1:=by simpa using e1
   rw[if_neg e1] at hXd;refine zad Tk Tryz.func12 rfl (fun e2=>?_) (fun e2=>?_)
   ·have e2:b2.tmod 6=2:=by simpa using e2
    rw[if_pos e2] at hXd;have h317:some (Ob.arr 9 1 (0+(te.length-1)+1) ([]++(te.map fun s=>[strI s]).drop 1++[[strI nm]]) true)=some (Ob.arr 9 1 (te.drop 1++[nm]).length ((te.drop 1++[nm]).map fun s=>[strI s]) true):=by simp
    refine zaq Tk Tryz.func12 (gE) ?_;refine zaf Tk Tryz.func12 (by exact⟨by decide,by show (1:Int)≤(te.length:Int);omega⟩) ?_;refine zaf Tk Tryz.func12 (by exact⟨by show (0+(te.length-1))*16≤140737488355328;omega,by show 0+(te.length-1)≤9223372036854775807;omega⟩) ?_;refine zaf Tk Tryz.func12 (by exact⟨by show (0+(te.length-1)+1)*16≤140737488355328;omega,by show 0+(te.length-1)+1≤9223372036854775807;omega⟩) ?_
    refine zaW (zbp (l:=[(2,.own 0 2 0 0),(3,.own 0 3 0 0),(4,.own 0 4 0 0),(10,.osl 0 248),(307,.own 0 248 ((IntKind.i64.wrap b1).tmod (L.length:Int)).toNat 0),(317,.osl 0 317)]) (Hv:=[(2,.box (mdlC ⟨a0,a1,a2,a3,a4,a5,a6⟩)),(3,.box (slC ⟨b0,b1,b2,b3⟩)),(4,.box zbG),(248,.arr 107 3 L.length (L.map insI) true),(317,.arr 9 1 (te.drop 1++[nm]).length ((te.drop 1++[nm]).map fun s=>[strI s]) true)]) ⟨rfl,rfl,rfl,rfl,rfl,rfl,trivial⟩ rfl ⟨rfl,rfl,rfl,rfl,h317,trivial⟩ rfl rfl) ?_;refine zaW (zap 317 rfl rfl) ?_;refine zaW (zaR rfl) ?_;refine zcM Tk Tryz.func12 rfl rfl Wk.refl ?_;refine zaq Tk Tryz.func12 (gE) ?_;refine zau ?_;refine zas (zap 248 rfl rfl) ?_;exact zav (J trivial) ⟨rfl,rfl,rfl,((hS ⟨tn,tt,te.drop 1++[nm]⟩).trans (congrArg (fun l=>D.i (zaK l)) hXd.symm)),trivial⟩ rfl ⟨rfl,rfl,rfl,trivial⟩ rfl rfl
   have e2:b2.tmod 6≠2:=by simpa using e2
   rw[if_neg e2] at hXd;refine zad Tk Tryz.func12 rfl (fun e3=>?_) (fun e3=>?_)
   ·have e3:b2.tmod 6=3:=by simpa using e3
    rw[if_pos e3] at hXd;refine zaq Tk Tryz.func12 (gE) ?_;refine zaf Tk Tryz.func12 (by exact⟨by decide,by show (1:Int)≤(te.length:Int);omega⟩) ?_;refine zaq Tk Tryz.func12 (gE) ?_;refine zau ?_;refine zas (zap 248 rfl rfl) ?_;exact zav (J trivial) ⟨rfl,rfl,rfl,(congrArg (fun z=>D.i (.sl 3 L.length ((L.map insI).set ((IntKind.i64.wrap b1).tmod (L.length:Int)).toNat [strI tn,strI tt,z]))) (zjz te 1)).trans ((hS ⟨tn,tt,te.drop 1⟩).trans (congrArg (fun l=>D.i (zaK l)) hXd.symm)),trivial⟩ rfl ⟨rfl,rfl,rfl,trivial⟩ rfl rfl
   have e3:b2.tmod 6≠3:=by simpa using e3
   rw[if_neg e3] at hXd;refine zad Tk Tryz.func12 rfl (fun e4=>?_) (fun e4=>?_)
   ·have e4:b2.tmod 6=4:=by simpa using e4
    rw[if_pos e4] at hXd;refine zau ?_;refine zas (zap 248 rfl rfl) ?_;refine zai Tk Tryz.func12 ?_;refine g_go Tk Tryz.func12 ?_;refine zaf Tk Tryz.func12 (by show (L.length:Int)≠0;omega) ?_;refine zaf Tk Tryz.func12 (by rw[hqe];exact⟨by omega,by show (q:Int)≤(L.length:Int);omega⟩) ?_;refine zau ?_;refine zav (J trivial) ⟨rfl,rfl,rfl,?_,trivial⟩ rfl ⟨rfl,rfl,rfl,trivial⟩ rfl rfl;rw[hXd];show D.i (.sl 3 ((IntKind.i64.wrap b1).tmod (L.length:Int)).toNat ((L.map insI).take ((IntKind.i64.wrap b1).tmod (L.length:Int)).toNat))=D.i (.sl 3 (L.take q).length ((L.take q).map insI));rw[hqe,Int.toNat_natCast,List.length_take,Nat.min_eq_left (by omega),List.map_take]
   have e4:b2.tmod 6≠4:=by simpa using e4
   rw[if_neg e4] at hXd;refine zah ?_;refine zrF 10 11 rfl rfl rfl rfl rfl fun E1 E2 v hB hR hv=>?_;obtain⟨bl0,cap0,hv0⟩:=(hR.row 0 v _ rfl rfl).form (by rw[List.length_map];omega);rw[List.length_map] at hv0;subst hv0;clear hv;have hE:=hB.eok.tb _ _ _ rfl hE;have hb2:=Int.emod_nonneg b3 (show (8:Int)≠0 by decide);have hb3:=Int.emod_lt_of_pos b3 (show (0:Int)<8 by decide);have hbm:b3.tmod 8=b3%8:=Int.tmod_eq_emod_of_nonneg hn.1;have hw:IntKind.i64.wrap (7+IntKind.i64.wrap (b3.tmod 8))=7+b3.tmod 8:=by rw[w64 (n:=b3.tmod 8) (by omega) (by omega),w64 (by omega) (by omega)]
   obtain⟨N,hN⟩:∃N:Nat,N=(7+b3.tmod 8).toNat:=⟨_,rfl⟩;have hNi:(N:Int)=7+b3.tmod 8:=by omega
   rw[←hN] at hXd;have hNl:N≤14:=by omega
   refine zrE (c:={ P:=Tryz.prog,T:=zv1,E:=E2,f:=12,fn:=Tryz.f12,post:=_,stop:=_}) (fun x:Nat×Nat×Nat=>[(2,.own 0 2 0 0),(3,.own 0 3 0 0),(4,.own 0 4 0 0),(10,.i (.v (.slice (some ⟨x.2.1,0,none⟩) (L.length+x.1) x.2.2))),(11,.i (.ptr 3 (L.map insI) ((IntKind.i64.wrap b1).tmod (L.length:Int)).toNat 0))])
    (fun _=>[(2,.box (mdlC ⟨a0,a1,a2,a3,a4,a5,a6⟩)),(3,.box (slC ⟨b0,b1,b2,b3⟩)),(4,.box zbG)]) (fun _=>O) 423
    (fun E x=>x.1≤N-L.length∧RowsO E1 E O 107 3 [.slice (some ⟨x.2.1,0,none⟩) (L.length+x.1) x.2.2] [(addZ ⟨tn,tt,te⟩ L x.1).map insI]) (fun x=>N-x.1) (0,bl0,cap0) ⟨Nat.zero_le _,hR⟩ ⟨rfl,rfl,rfl,rfl,rfl,trivial⟩ rfl ⟨rfl,rfl,rfl,trivial⟩ rfl rfl ?_
   intro E x hI ih;obtain⟨j,bl,cap⟩:=x;obtain⟨hj,hR⟩:=hI;have hj:j≤N-L.length:=hj;have hR:RowsO E1 E O 107 3 [.slice (some ⟨bl,0,none⟩) (L.length+j) cap] [(addZ ⟨tn,tt,te⟩ L j).map insI]:=hR;refine zai Tk Tryz.func12 ?_;refine zaf Tk Tryz.func12 (by decide) ?_;refine zad Tk Tryz.func12 rfl (fun hc=>?_) (fun hc=>?_)
   ·have hc:((L.length+j:Nat):Int)<IntKind.i64.wrap (7+IntKind.i64.wrap (b3.tmod 8)):=of_decide_eq_true hc;rw[hw,←hNi] at hc;have hit:=hio (L.length+j) (by omega);have hsi:=hsz (L.length+j) (by omega);have hal:=zjm ⟨tn,tt,te⟩ L j;have hbb:((addZ ⟨tn,tt,te⟩ L j).map insI).length+1≤1000:=by rw[List.length_map,hal];omega
    refine zvk Tk E1 15 rfl ?_;refine zdp Tk hE (hit _) rfl rfl rfl rfl ?_;refine zar Tk (by show 1+(zcU ((L.length+j:Nat):Int)).size≤9223372036854775807;omega) ?_;refine zax Tk (gE) ?_;refine zax Tk (gE) ?_;refine zwn Tk Tryz.func12 zaA (m:=1) (j:=0) (ti2:=zjn) hR rfl rfl ⟨by show (((addZ ⟨tn,tt,te⟩ L j).map insI).length+1)*56≤140737488355328;omega,by show ((addZ ⟨tn,tt,te⟩ L j).map insI).length+1≤9223372036854775807;omega⟩ [16] rfl rfl rfl rfl rfl rfl rfl rfl rfl rfl rfl rfl rfl rfl rfl (fun _=>by kernel_rfl) (by kernel_rfl) ?_;intro E' v' hR';obtain⟨bl',cap',hv'⟩:=(hR'.row 0 v' _ rfl rfl).form (by rw[List.length_append];exact Nat.succ_pos _);rw[List.length_append,List.length_map,hal] at hv';subst hv';refine zah ?_
    refine ih E' (j+1,bl',cap') _ _ ⟨by show j+1≤_;omega,?_⟩ (by show N-(j+1)<N-j;omega) ⟨rfl,rfl,rfl,rfl,rfl,trivial⟩ rfl ⟨rfl,rfl,rfl,trivial⟩ rfl rfl;show RowsO E1 E' O 107 3 [_] [(addZ ⟨tn,tt,te⟩ L j++[_]).map insI];rw[List.map_append];exact hR'
   ·have hc:¬(((L.length+j:Nat):Int)<IntKind.i64.wrap (7+IntKind.i64.wrap (b3.tmod 8))):=of_decide_eq_false hc;rw[hw,←hNi] at hc;have hjN:N-L.length=j:=by omega
    rw[hjN] at hXd;refine zau ?_;refine zas (zym 10 (j:=0) hR rfl rfl rfl) ?_;refine zde hR.base rfl ?_;refine zde hB rfl ?_;refine zav (J trivial) ⟨rfl,rfl,rfl,?_,trivial⟩ rfl ⟨rfl,rfl,rfl,trivial⟩ rfl rfl;rw[hXd];show D.i (.sl 3 ((addZ ⟨tn,tt,te⟩ L j).map insI).length ((addZ ⟨tn,tt,te⟩ L j).map insI))=D.i (.sl 3 (addZ ⟨tn,tt,te⟩ L j).length ((addZ ⟨tn,tt,te⟩ L j).map insI));rw[List.length_map]
  ·have hz0:¬((L.length:Int)>0):=of_decide_eq_false hz0;have hXd:X=L:=by rw[hX];unfold chgY;rw[if_pos (by omega)]
   refine zau ?_;refine zas (zap 248 rfl rfl) ?_;exact zav (J trivial) ⟨rfl,rfl,rfl,congrArg (fun l=>D.i (zaK l)) hXd.symm,trivial⟩ rfl ⟨rfl,rfl,rfl,trivial⟩ rfl rfl
 intro _;refine zai Tk Tryz.func12 ?_;refine g_go Tk Tryz.func12 ?_;refine zaf Tk Tryz.func12 (by decide) ?_;refine zad Tk Tryz.func12 rfl (fun hk3=>?_) (fun hk3=>?_)
 ·have hk3:b0.tmod 7=3:=by simpa using hk3
  rw[if_pos hk3] at hL ⊢;subst hL;refine zae Tk (r:=mdlD ⟨a0,a1,a2,X,a4,a5,a6⟩) rfl rfl rfl trivial rfl rfl ?_;rw[hX]
 ·have hk3:b0.tmod 7≠3:=by simpa using hk3
  rw[if_neg hk3] at hL ⊢;subst hL;refine zae Tk (r:=mdlD ⟨a0,a1,a2,a3,X,a5,a6⟩) rfl rfl rfl trivial rfl rfl ?_;rw[hX]
theorem zbZ {K:Kn} {d0 d1:List I} (h:∀ws,RepL K ws d0→RepL K ws d1):∀(xs:List (List I)) (q:Nat) (vs:List Value),RepL K vs (xs.set q d0).flatten→RepL K vs (xs.set q d1).flatten
 |[],_,_,hr=>hr
 |x::xs,0,vs,hr=>by
  simp only[List.set_cons_zero,List.flatten_cons] at hr ⊢;have h1:=hr.take d0.length;have h2:=hr.drop d0.length;rw[List.take_left] at h1;rw[List.drop_left] at h2;have:=(h _ h1).append h2;rwa [List.take_append_drop] at this
 |x::xs,q+1,vs,hr=>by
  simp only[List.set_cons_succ,List.flatten_cons] at hr ⊢;have h1:=hr.take x.length;have h2:=hr.drop x.length;rw[List.take_left] at h1;rw[List.drop_left] at h2;have:=h1.append (zbZ h xs q _ h2);rwa [List.take_append_drop] at this
theorem zge {K:Kn} {a:I} {v:Value} {d:I} (h:Rep K v d):∀ws,RepL K ws [a,.v v]→RepL K ws [a,d]
 |_,.cons r (.cons r2 .nil)=>by
  cases r2 with
  |v e=>exact .cons r (.cons h .nil)
theorem zgf {c:Cx} {E:Env} {todo:List Item} {s:St} {ty es b n cap:Nat} {xs:List (List I)} {H:Heap} {O:List Heap} (nm:Nat) {tya esa na:Nat} {ca:List (List I)} {wr:Bool} (hR:RowU E c.E O ty es b n cap xs) (hS:s.S=H::O) (ho:look H nm=some (.arr tya esa na ca wr))
  (ys:List (List I)) (hl:ys.length=ca.length) (he:∀d∈ys,d.length=esa) (hco:∀K vs,Rep K (.slice (some ⟨b,0,none⟩) n cap) (.sl es n xs)→RepL K vs ca.flatten→RepL K vs ys.flatten)
  (h:Rch {c with E:=E} todo {σ:=s.σ,S:=((nm,.arr tya esa na ys wr)::H)::O,n:=s.n}):Rch c todo s:=by
 refine zpG hR hS fun E' hB hr=>?_;refine zas (zgd nm hS ho hl he fun K vs hK=>hco K vs (hr.mono hK)) ?_;exact zde hB rfl h
theorem ziI {c:Cx} {s:St} {k:List Item} {ops:Array Oper} {rest:List Nat} {n:Nat} (hT:TOk c.P c.T) (hfn:c.P.funcs[c.f]? = some c.fn) (hn:s.n=n) (h:GM c (zkn s.σ fun σ=>zlm s.S fun S=>run c.T c.stop 1000 (.inRegion ops rest::k) ⟨σ,S,n⟩)):RG c ops rest s k:=by
 subst hn;rw[zhj,zid] at h;exact zyB hT hfn h
def hdL (l:List NLc):NLc:=l.headD (⟨#[]⟩,⟨#[]⟩)
def chgE (how:Int) (nm:ByteArray) (x:NEx):NEx:=
 if how.tmod 5=0 then ⟨nm,x.locals⟩ else if how.tmod 5=1 then ⟨x.name,x.locals.set 0 (nm,(hdL x.locals).2)⟩ else if how.tmod 5=2 then ⟨x.name,x.locals.set 0 ((hdL x.locals).1,nm)⟩
 else if how.tmod 5=3 then ⟨x.name,x.locals++[hdL x.locals]⟩ else ⟨x.name,[]⟩
def zNEx:NEx:=⟨⟨#[]⟩,[]⟩
def chgX (k how:Int) (nm:ByteArray) (L:List NEx):List NEx:=
 if L.length=0 then L else L.set ((IntKind.i64.wrap k).tmod (L.length:Int)).toNat (chgE how nm (L.getD ((IntKind.i64.wrap k).tmod (L.length:Int)).toNat zNEx))
theorem zx6 {k how:Int} {nm:ByteArray} {L:List NEx} (h1:L.length≤1000000) (h2:∀x∈L,x.name.size≤zan∧x.locals.length≤1000000) (h3:∀x∈L,0<x.locals.length∧x.locals.length≤1000) (hn:nm.size≤33) (hk:0≤k∧k≤255) :
  (chgX k how nm L).length≤1000000∧∀x∈chgX k how nm L,x.name.size≤zan∧x.locals.length≤1000000:=by
 unfold chgX
 split
 ·exact⟨h1,h2⟩
 ·rename_i h0;obtain⟨q,hq,hqe⟩:=zfl hk (Nat.pos_of_ne_zero h0);rw[hqe,Int.toNat_natCast];have hm:=ze9 (d:=zNEx) hq;have g2:=h2 _ hm;have g3:=h3 _ hm;generalize L.getD q zNEx=x at *;refine⟨by rw[List.length_set];exact h1,zey h2 ?_⟩;unfold chgE
  split
  ·exact⟨by simp only[zan];omega,g2.2⟩
  split
  ·exact⟨g2.1,by show (List.set _ _ _).length≤_;rw[List.length_set];exact g2.2⟩
  split
  ·exact⟨g2.1,by show (List.set _ _ _).length≤_;rw[List.length_set];exact g2.2⟩
  split
  ·exact⟨g2.1,by show (_++[_]).length≤_;rw[List.length_append];show _+1≤_;omega⟩
  ·exact⟨g2.1,Nat.zero_le _⟩
theorem zzb {g:Nat} (hg:zda g) {ty:TypeId} {fr:Nat×Nat} (m:Mdl) (s:Slp) (hm:chgOk m) (hs:slOk s) (h0:s.kind.tmod 7=5) :
  ∃n,chgR m n∧∀O,zba g (ptab ty fr) Tryz.prog 12 [mdlD m,slD s] O (mdlD n) [] O:=by
 obtain⟨nm,hz,hge,hgi⟩:=zeh hs.name;have hy:=zx6 (k:=s.k) (how:=s.how) hm.ok.ex hm.ok.exk hm.xl hz hs.k;refine⟨⟨m.name,m.evs,m.tpls,m.comps,m.reqs,chgX s.k s.how nm m.excs,m.cons⟩,zdz hm {hm.ok with ex:=hy.1,exk:=hy.2} rfl,fun O=>?_⟩;clear hy;have hel:=hm.ok.ex;have hxl:=hm.xl;have hk:=hs.k;obtain⟨b0,b1,b2,b3⟩:=s;obtain⟨a0,a1,a2,a3,a4,a5,a6⟩:=m;clear hm hs;simp only at h0 hge hgi hel hxl hk ⊢;obtain⟨X,hX⟩:∃X,X=chgX b1 b2 nm a5:=⟨_,rfl⟩;rw[←hX];refine zaM [200014,73,75,77,200373,200395,200404,87] Tk Tryz.func12 rfl Tryz.call12 Tryz.ntmps12 (Nat.le_of_ble_eq_true rfl) fun E hE=>?_;refine zai Tk Tryz.func12 ?_;refine zed Tk Tryz.func12 (.alt (.new [(14,.arr 9 1 10 (chgN.map fun s=>[strI s]) true)] (.osl 0 14)) (.new [] (.i (.sl 1 10 (chgN.map fun s=>[strI s]))))) rfl rfl (by kernel_rfl) ?_;refine zaf Tk Tryz.func12 (by decide) ?_
 refine zaf Tk Tryz.func12 (by exact hgi) ?_;refine zaq Tk Tryz.func12 (hge) ?_;refine zaf Tk Tryz.func12 (by decide) ?_;refine zad Tk Tryz.func12 rfl (fun h=>absurd h (by simp[h0])) (fun _=>?_);refine zad Tk Tryz.func12 rfl (fun h=>absurd h (by simp[h0])) (fun _=>?_);refine zad Tk Tryz.func12 rfl (fun h=>absurd h (by simp[h0])) (fun _=>?_);refine zad Tk Tryz.func12 rfl (fun h=>absurd h (by simp[h0])) (fun _=>?_);refine zad Tk Tryz.func12 rfl (fun h=>absurd h (by simp[h0])) (fun _=>?_);refine zad Tk Tryz.func12 rfl (fun _=>?_) (fun h=>absurd h (by simp[h0]));refine zaf Tk Tryz.func12 (by exact⟨by show (0+a5.length)*40≤140737488355328;omega,by show 0+a5.length≤9223372036854775807;omega⟩) ?_;refine zau ?_
 refine zas (zbp (l:=[(2,.own 0 2 0 0),(4,.own 0 4 0 0),(3,.own 0 3 0 0),(6,.i (strI nm)),(7,ii (IntKind.i64.wrap b1))]) (Hv:=[(2,.box [.i (strI a0),.i (zbc a1),.i (zbI a2),.i (zaK a3),.i (zaK a4),.osl 0 351,.i (zdC a6)]),(3,.box (slC ⟨b0,b1,b2,b3⟩)),(4,.box zbG),(351,.arr 91 2 a5.length (a5.map nexI) true)]) ⟨rfl,rfl,rfl,rfl,rfl,trivial⟩ rfl ⟨rfl,rfl,rfl,congrArg (fun n=>some (Ob.arr 91 2 n (a5.map nexI) true)) (Nat.zero_add a5.length),trivial⟩ rfl rfl) ?_
 by_cases hz0:a5.length=0
 ·have hXd:X=a5:=by rw[hX];unfold chgX;rw[if_pos hz0]
  refine zas (zap 351 rfl rfl) ?_;refine zas (zaR rfl) ?_;refine zai Tk Tryz.func12 ?_;refine g_go Tk Tryz.func12 ?_;refine zad Tk Tryz.func12 rfl (fun _=>?_) (fun h=>absurd h (by simp;exact List.eq_nil_of_length_eq_zero hz0));refine zae Tk (r:=mdlD ⟨a0,a1,a2,a3,a4,a5,a6⟩) rfl rfl rfl trivial rfl rfl ?_;rw[hXd]
 apply zbQ (c:={ P:=Tryz.prog,T:=zv1,E:=E,f:=12,fn:=Tryz.f12,post:=zdW E (mdlD ⟨a0,a1,a2,a3,a4,X,a6⟩) [] O,stop:=[200014,73,75,77,200373,200395,200404,87]}) (P:=True) (s6:={ σ:=[(2,.own 0 2 0 0),(4,.own 0 4 0 0)],S:=[(2,.box [.i (strI a0),.i (zbc a1),.i (zbI a2),.i (zaK a3),.i (zaK a4),.osl 0 351,.i (zdC a6)]),(4,.box zbG),(351,.arr 91 2 X.length (X.map nexI) true)]::O,n:=423})
 ·intro J;obtain⟨q,hq,hqe⟩:=zfl hk (Nat.pos_of_ne_zero hz0);have hXd:X=a5.set q (chgE b2 nm a5[q]):=by
   rw[hX];unfold chgX;rw[if_neg hz0,hqe,Int.toNat_natCast,List.getD_eq_getElem?_getD,List.getElem?_eq_getElem hq];rfl
  have htl:=hxl _ (List.getElem_mem hq);have gE:(a5.map nexI)[((IntKind.i64.wrap b1).tmod (a5.length:Int)).toNat]? = some (nexI a5[q]):=by
   rw[hqe];exact zak (f:=nexI) hq
  have g2:∀d,((a5.map nexI).set ((IntKind.i64.wrap b1).tmod (a5.length:Int)).toNat d)[((IntKind.i64.wrap b1).tmod (a5.length:Int)).toNat]? = some d:=fun d=>by
   rw[hqe,Int.toNat_natCast,List.getElem?_set_self (by rw[List.length_map];exact hq)]
  have hset:∀t,X=a5.set q t→some (Ob.arr 91 2 a5.length ((a5.map nexI).set ((IntKind.i64.wrap b1).tmod (a5.length:Int)).toNat (nexI t)) true)=some (Ob.arr 91 2 X.length (X.map nexI) true):=fun t h=>by
   rw[h,hqe,Int.toNat_natCast,List.length_set,List.map_set]
  have hslf:some (Ob.arr 91 2 a5.length ((a5.map nexI).set ((IntKind.i64.wrap b1).tmod (a5.length:Int)).toNat (nexI a5[q])) true)=some (Ob.arr 91 2 a5.length (a5.map nexI) true):=by rw[znf gE]
  have hel2:∀d:List I,d.length=2→∀y∈(a5.map nexI).set ((IntKind.i64.wrap b1).tmod (a5.length:Int)).toNat d,y.length=2:=fun d hd y hy=>by
   rcases List.mem_or_eq_of_mem_set hy with h|h
   ·obtain⟨z,_,rfl⟩:=List.mem_map.1 h;rfl
   ·rw[h];exact hd
  generalize a5[q]=T at *;obtain⟨tn,tl⟩:=T;unfold chgE at hXd;simp only at htl hXd;obtain⟨⟨p1,p2⟩,lr,rfl⟩:∃y l,tl=y::l:=by cases tl with|nil=>simp at htl|cons y l=>exact⟨y,l,rfl⟩
  refine zai Tk Tryz.func12 ?_;refine g_go Tk Tryz.func12 ?_;refine zad Tk Tryz.func12 rfl (fun h=>absurd h (by simp;intro e;rw[e] at hz0;simp at hz0)) (fun _=>?_);refine g_go Tk Tryz.func12 ?_;refine zat Tk Tryz.func12 zaA rfl ?_;refine zar Tk (by show (a5.length:Int)≠0;omega) ?_;refine zar Tk (by rw[hqe];exact⟨by omega,by show (q:Int)<(a5.length:Int);omega⟩) ?_;refine zaC Tk Tryz.func12 (by kernel_rfl) ?_;refine zaq Tk Tryz.func12 (gE) ?_;refine zaf Tk Tryz.func12 (by exact⟨by show (0+((p1,p2)::lr).length)*32≤140737488355328;omega,by show 0+((p1,p2)::lr).length≤9223372036854775807;omega⟩) ?_
  refine zaW (zbp (l:=[(2,.own 0 2 0 0),(4,.own 0 4 0 0),(3,.own 0 3 0 0),(6,.i (strI nm)),(12,.own 0 351 ((IntKind.i64.wrap b1).tmod (a5.length:Int)).toNat 0),(366,.own 0 351 ((IntKind.i64.wrap b1).tmod (a5.length:Int)).toNat 0),(372,.osl 0 372)]) (Hv:=[(2,.box [.i (strI a0),.i (zbc a1),.i (zbI a2),.i (zaK a3),.i (zaK a4),.osl 0 351,.i (zdC a6)]),(3,.box (slC ⟨b0,b1,b2,b3⟩)),(4,.box zbG),(351,.arr 91 2 a5.length (a5.map nexI) true),(372,.arr 103 2 ((p1,p2)::lr).length (((p1,p2)::lr).map nlcI) true)]) ⟨rfl,rfl,rfl,rfl,rfl,rfl,rfl,trivial⟩ rfl ⟨rfl,rfl,rfl,rfl,congrArg (fun n=>some (Ob.arr 103 2 n (((p1,p2)::lr).map nlcI) true)) (Nat.zero_add ((p1,p2)::lr).length),trivial⟩ rfl rfl) ?_
  by_cases e3:b2.tmod 5=3
  ·rw[if_neg (by omega),if_neg (by omega),if_neg (by omega),if_pos e3] at hXd;refine zvj 372 rfl rfl rfl fun E1 E2 v hB hR hv=>?_;obtain⟨bl,cap,hv0⟩:=(hR.row 0 v _ rfl rfl).form (by rw[List.length_map];exact htl.1);rw[List.length_map] at hv0;subst hv0;refine zcM Tk Tryz.func12 rfl rfl Wk.refl ?_;refine zaq Tk Tryz.func12 (gE) ?_;refine zau ?_;refine zai Tk Tryz.func12 ?_;refine g_go Tk Tryz.func12 ?_;refine zaf Tk Tryz.func12 (by decide) ?_;refine zad Tk Tryz.func12 rfl (fun h=>absurd h (by simp[e3])) (fun _=>?_);refine zad Tk Tryz.func12 rfl (fun h=>absurd h (by simp[e3])) (fun _=>?_);refine zad Tk Tryz.func12 rfl (fun h=>absurd h (by simp[e3])) (fun _=>?_);refine zad Tk Tryz.func12 rfl (fun _=>?_) (fun h=>absurd h (by simp[e3]));refine zlk Tk E1 8 12 rfl (by decide) (Nat.le_of_ble_eq_true rfl) ?_;refine zax Tk (g2 _) ?_
   refine zy8 Tk (i:=9) rfl rfl rfl rfl rfl rfl rfl (g2 _) rfl hv ?_;refine zar Tk (by exact⟨by decide,by show (0:Int)<((((p1,p2)::lr).length:Nat):Int);omega⟩) ?_;refine zax Tk (rfl) ?_;refine zwn Tk Tryz.func12 zaA (m:=1) (j:=0) (ti2:=zjo) hR rfl rfl ⟨by show ((((p1,p2)::lr).map nlcI).length+1)*32≤140737488355328;rw[List.length_map];omega,by show (((p1,p2)::lr).map nlcI).length+1≤9223372036854775807;rw[List.length_map];omega⟩ [13,14,15] rfl rfl rfl rfl rfl rfl rfl rfl rfl rfl rfl rfl rfl rfl rfl (fun _=>by kernel_rfl) (by kernel_rfl) ?_;intro E' v' hR';refine zaq Tk Tryz.func12 (g2 _) ?_;refine zau ?_;have hrp:∀K,E'.K0.le K→Rep K v' (.sl 2 (((p1,p2)::lr)++[(p1,p2)]).length ((((p1,p2)::lr)++[(p1,p2)]).map nlcI)):=fun K hK=>by
    have:=(hR'.row 0 v' _ rfl rfl).rep hK;rw[List.map_append,List.length_append];rw[List.length_append,List.length_map] at this;exact this
   refine zas (zgd 351 (ca:=(a5.map nexI).set ((IntKind.i64.wrap b1).tmod (a5.length:Int)).toNat [strI tn,.v v']) (ys:=(a5.map nexI).set ((IntKind.i64.wrap b1).tmod (a5.length:Int)).toNat (nexI ⟨tn,((p1,p2)::lr)++[(p1,p2)]⟩)) rfl (congrArg (fun l=>some (Ob.arr 91 2 a5.length l true)) (List.set_set ..)) (by simp) (hel2 _ rfl) fun K vs hK=>zbZ (zge (hrp K hK)) _ _ _) ?_;refine zde hR'.base rfl ?_;refine zde hB rfl ?_;exact zav (J trivial) ⟨rfl,rfl,trivial⟩ rfl ⟨rfl,rfl,hset _ hXd,trivial⟩ rfl rfl
  by_cases e12:b2.tmod 5=1∨b2.tmod 5=2
  ·refine zsw 372 (Base.refl _ _) rfl rfl rfl htl.1 fun E2 bl cap hR=>?_;refine zcM Tk Tryz.func12 rfl rfl Wk.refl ?_;refine zaq Tk Tryz.func12 (gE) ?_;refine zau ?_;refine zai Tk Tryz.func12 ?_;refine g_go Tk Tryz.func12 ?_;refine zaf Tk Tryz.func12 (by decide) ?_;refine zad Tk Tryz.func12 rfl (fun h=>absurd h (by rcases e12 with e|e<;>simp[e])) (fun _=>?_);refine zad Tk Tryz.func12 rfl (fun e1=>?_) (fun e1=>?_)
   ·have e1:b2.tmod 5=1:=by simpa using e1
    rw[if_neg (by omega),if_pos e1] at hXd;refine zaq Tk Tryz.func12 (g2 _) ?_;refine zaf Tk Tryz.func12 (by exact⟨by decide,by show (0:Int)<((((p1,p2)::lr).length:Nat):Int);omega⟩) ?_;refine g_rg ?_;refine zkZ Tk rfl rfl rfl rfl rfl rfl rfl rfl rfl ?_;refine ze0 Tk (j:=0) (off:=0) hR rfl rfl rfl rfl rfl rfl rfl rfl rfl rfl rfl (by decide) rfl fun E' hR'=>?_;refine ziI Tk Tryz.func12 rfl ?_;refine zau ?_;refine zgf 351 hR' rfl rfl ((a5.map nexI).set ((IntKind.i64.wrap b1).tmod (a5.length:Int)).toNat (nexI ⟨tn,(nm,p2)::lr⟩)) (by simp) (hel2 _ rfl) (fun K vs hr=>zbZ (zge hr) _ _ _) ?_;exact zav (J trivial) ⟨rfl,rfl,trivial⟩ rfl ⟨rfl,rfl,hset _ hXd,trivial⟩ rfl rfl
   ·have e1:b2.tmod 5≠1:=by simpa using e1
    have e2:b2.tmod 5=2:=by omega
    rw[if_neg (by omega),if_neg (by omega),if_pos e2] at hXd;refine zad Tk Tryz.func12 rfl (fun _=>?_) (fun h=>absurd h (by simp[e2]));refine zaq Tk Tryz.func12 (g2 _) ?_;refine zaf Tk Tryz.func12 (by exact⟨by decide,by show (0:Int)<((((p1,p2)::lr).length:Nat):Int);omega⟩) ?_;refine g_rg ?_;refine zkZ Tk rfl rfl rfl rfl rfl rfl rfl rfl rfl ?_;refine ze0 Tk (j:=0) (off:=1) hR rfl rfl rfl rfl rfl rfl rfl rfl rfl rfl rfl (by decide) rfl fun E' hR'=>?_;refine ziI Tk Tryz.func12 rfl ?_;refine zau ?_;refine zgf 351 hR' rfl rfl ((a5.map nexI).set ((IntKind.i64.wrap b1).tmod (a5.length:Int)).toNat (nexI ⟨tn,(p1,nm)::lr⟩)) (by simp) (hel2 _ rfl) (fun K vs hr=>zbZ (zge hr) _ _ _) ?_;exact zav (J trivial) ⟨rfl,rfl,trivial⟩ rfl ⟨rfl,rfl,hset _ hXd,trivial⟩ rfl rfl
  refine zaW (zap 372 rfl rfl) ?_;refine zaW (zaR rfl) ?_;refine zcM Tk Tryz.func12 rfl rfl Wk.refl ?_;refine zaq Tk Tryz.func12 (gE) ?_;refine zau ?_;refine zas (zbp (l:=[(2,.own 0 2 0 0),(4,.own 0 4 0 0),(3,.own 0 3 0 0),(6,.i (strI nm)),(12,.own 0 351 ((IntKind.i64.wrap b1).tmod (a5.length:Int)).toNat 0)]) (Hv:=[(2,.box [.i (strI a0),.i (zbc a1),.i (zbI a2),.i (zaK a3),.i (zaK a4),.osl 0 351,.i (zdC a6)]),(3,.box (slC ⟨b0,b1,b2,b3⟩)),(4,.box zbG),(351,.arr 91 2 a5.length (a5.map nexI) true)]) ⟨rfl,rfl,rfl,rfl,rfl,trivial⟩ rfl ⟨rfl,rfl,rfl,hslf,trivial⟩ rfl rfl) ?_;refine zai Tk Tryz.func12 ?_;refine g_go Tk Tryz.func12 ?_;refine zaf Tk Tryz.func12 (by decide) ?_;refine zad Tk Tryz.func12 rfl (fun e0=>?_) (fun e0=>?_)
  ·have e0:b2.tmod 5=0:=by simpa using e0
   rw[if_pos e0] at hXd;refine zaq Tk Tryz.func12 (gE) ?_;refine zau ?_;exact zav (J trivial) ⟨rfl,rfl,trivial⟩ rfl ⟨rfl,rfl,hset _ hXd,trivial⟩ rfl rfl
  ·have e0:b2.tmod 5≠0:=by simpa using e0
   rw[if_neg e0,if_neg (by omega),if_neg (by omega),if_neg e3] at hXd;refine zad Tk Tryz.func12 rfl (fun h=>absurd h (by simp;omega)) (fun _=>?_);refine zad Tk Tryz.func12 rfl (fun h=>absurd h (by simp;omega)) (fun _=>?_);refine zad Tk Tryz.func12 rfl (fun h=>absurd h (by simp;omega)) (fun _=>?_);refine zaq Tk Tryz.func12 (gE) ?_;refine zau ?_;refine zas (zgd 351 (ca:=(a5.map nexI).set ((IntKind.i64.wrap b1).tmod (a5.length:Int)).toNat [strI tn,.v (.slice none 0 0)]) (ys:=(a5.map nexI).set ((IntKind.i64.wrap b1).tmod (a5.length:Int)).toNat (nexI ⟨tn,[]⟩)) rfl rfl (by simp) (hel2 _ rfl) fun K vs hK=>zbZ (zge .nil) _ _ _) ?_;exact zav (J trivial) ⟨rfl,rfl,trivial⟩ rfl ⟨rfl,rfl,hset _ hXd,trivial⟩ rfl rfl
 intro _;refine zas (zap 351 rfl rfl) ?_;refine zas (zaR rfl) ?_;refine zai Tk Tryz.func12 ?_;refine g_go Tk Tryz.func12 ?_;refine zae Tk (r:=mdlD ⟨a0,a1,a2,a3,a4,X,a6⟩) rfl rfl rfl trivial rfl rfl ?_;rfl
theorem ziK {K:Kn} {a z:I} {v:Value} {d:I} (h:Rep K v d):∀ws,RepL K ws [a,.v v,z]→RepL K ws [a,d,z]
 |_,.cons r (.cons r2 r3)=>by
  cases r2 with
  |v e=>exact .cons r (.cons h r3)
def hdT (l:List NTm):NTm:=l.headD (⟨#[]⟩,0)
def chgC (how bv:Int) (nm:ByteArray) (x:NCn):NCn:=
 if how.tmod 5=0 then ⟨nm,x.terms,x.bound⟩ else if how.tmod 5=1 then ⟨x.name,x.terms.set 0 (nm,(hdT x.terms).2),x.bound⟩ else if how.tmod 5=2 then ⟨x.name,x.terms.set 0 ((hdT x.terms).1,bv),x.bound⟩
 else if how.tmod 5=3 then ⟨x.name,x.terms,bv⟩ else ⟨x.name,[],x.bound⟩
def zNCn:NCn:=⟨⟨#[]⟩,[],0⟩
def chgZ (k how bv:Int) (nm:ByteArray) (L:List NCn):List NCn:=
 if L.length=0 then L else L.set ((IntKind.i64.wrap k).tmod (L.length:Int)).toNat (chgC how bv nm (L.getD ((IntKind.i64.wrap k).tmod (L.length:Int)).toNat zNCn))
theorem zx5 {k how bv:Int} {nm:ByteArray} {L:List NCn} (h1:L.length≤1000000) (h2:∀x∈L,x.name.size≤zan∧x.terms.length≤1000000) (hn:nm.size≤33) (hk:0≤k∧k≤255) :
  (chgZ k how bv nm L).length≤1000000∧∀x∈chgZ k how bv nm L,x.name.size≤zan∧x.terms.length≤1000000:=by
 unfold chgZ
 split
 ·exact⟨h1,h2⟩
 ·rename_i h0;obtain⟨q,hq,hqe⟩:=zfl hk (Nat.pos_of_ne_zero h0);rw[hqe,Int.toNat_natCast];have g2:=h2 _ (ze9 (d:=zNCn) hq);generalize L.getD q zNCn=x at *;refine⟨by rw[List.length_set];exact h1,zey h2 ?_⟩;unfold chgC
  split
  ·exact⟨by simp only[zan];omega,g2.2⟩
  split
  ·exact⟨g2.1,by show (List.set _ _ _).length≤_;rw[List.length_set];exact g2.2⟩
  split
  ·exact⟨g2.1,by show (List.set _ _ _).length≤_;rw[List.length_set];exact g2.2⟩
  split
  ·exact g2
  ·exact⟨g2.1,Nat.zero_le _⟩
theorem zza {g:Nat} (hg:zda g) {ty:TypeId} {fr:Nat×Nat} (m:Mdl) (s:Slp) (hm:chgOk m) (hs:slOk s) (h0:s.kind.tmod 7=6) :
  ∃n,chgR m n∧∀O,zba g (ptab ty fr) Tryz.prog 12 [mdlD m,slD s] O (mdlD n) [] O:=by
 obtain⟨nm,hz,hge,hgi⟩:=zeh hs.name;obtain⟨bv,hbe,hbi⟩:=zx4 hs.name;have hy:=zx5 (k:=s.k) (how:=s.how) (bv:=bv) hm.ok.cn hm.ok.cnk hz hs.k;refine⟨⟨m.name,m.evs,m.tpls,m.comps,m.reqs,m.excs,chgZ s.k s.how bv nm m.cons⟩,zdz hm {hm.ok with cn:=hy.1,cnk:=hy.2} rfl,fun O=>?_⟩;clear hy;have hel:=hm.ok.cn;have hxl:∀x∈m.cons,0<x.terms.length∧x.terms.length≤1000000:=fun x hx=>⟨hm.nl x hx,(hm.ok.cnk x hx).2⟩;have hk:=hs.k;obtain⟨b0,b1,b2,b3⟩:=s;obtain⟨a0,a1,a2,a3,a4,a5,a6⟩:=m;clear hm hs;simp only at h0 hge hgi hbe hbi hel hxl hk ⊢;obtain⟨X,hX⟩:∃X,X=chgZ b1 b2 bv nm a6:=⟨_,rfl⟩;rw[←hX];refine zaM [200014,6,8,10,200055,200077,87] Tk Tryz.func12 rfl Tryz.call12 Tryz.ntmps12 (Nat.le_of_ble_eq_true rfl) fun E hE=>?_;refine zai Tk Tryz.func12 ?_
 refine zed Tk Tryz.func12 (.alt (.new [(14,.arr 9 1 10 (chgN.map fun s=>[strI s]) true)] (.osl 0 14)) (.new [] (.i (.sl 1 10 (chgN.map fun s=>[strI s]))))) rfl rfl (by kernel_rfl) ?_;refine zaf Tk Tryz.func12 (by decide) ?_;refine zaf Tk Tryz.func12 (by exact hgi) ?_;refine zaq Tk Tryz.func12 (hge) ?_;refine zaf Tk Tryz.func12 (by decide) ?_;refine zad Tk Tryz.func12 rfl (fun h=>absurd h (by simp[h0])) (fun _=>?_);refine zad Tk Tryz.func12 rfl (fun h=>absurd h (by simp[h0])) (fun _=>?_);refine zad Tk Tryz.func12 rfl (fun h=>absurd h (by simp[h0])) (fun _=>?_);refine zad Tk Tryz.func12 rfl (fun h=>absurd h (by simp[h0])) (fun _=>?_);refine zad Tk Tryz.func12 rfl (fun h=>absurd h (by simp[h0])) (fun _=>?_);refine zad Tk Tryz.func12 rfl (fun h=>absurd h (by simp[h0])) (fun _=>?_)
 refine zaf Tk Tryz.func12 (by exact⟨by show (0+a6.length)*48≤140737488355328;omega,by show 0+a6.length≤9223372036854775807;omega⟩) ?_;refine zau ?_;refine zas (zbp (l:=[(2,.own 0 2 0 0),(4,.own 0 4 0 0),(3,.own 0 3 0 0),(6,.i (strI nm)),(7,ii (IntKind.i64.wrap b1))]) (Hv:=[(2,.box [.i (strI a0),.i (zbc a1),.i (zbI a2),.i (zaK a3),.i (zaK a4),.i (zcS a5),.osl 0 33]),(3,.box (slC ⟨b0,b1,b2,b3⟩)),(4,.box zbG),(33,.arr 96 3 a6.length (a6.map ncnI) true)]) ⟨rfl,rfl,rfl,rfl,rfl,trivial⟩ rfl ⟨rfl,rfl,rfl,congrArg (fun n=>some (Ob.arr 96 3 n (a6.map ncnI) true)) (Nat.zero_add a6.length),trivial⟩ rfl rfl) ?_
 by_cases hz0:a6.length=0
 ·have hXd:X=a6:=by rw[hX];unfold chgZ;rw[if_pos hz0]
  refine zas (zap 33 rfl rfl) ?_;refine zas (zaR rfl) ?_;refine zai Tk Tryz.func12 ?_;refine g_go Tk Tryz.func12 ?_;refine zad Tk Tryz.func12 rfl (fun _=>?_) (fun h=>absurd h (by simp;exact List.eq_nil_of_length_eq_zero hz0));refine zae Tk (r:=mdlD ⟨a0,a1,a2,a3,a4,a5,a6⟩) rfl rfl rfl trivial rfl rfl ?_;rw[hXd]
 apply zbQ (c:={ P:=Tryz.prog,T:=zv1,E:=E,f:=12,fn:=Tryz.f12,post:=zdW E (mdlD ⟨a0,a1,a2,a3,a4,a5,X⟩) [] O,stop:=[200014,6,8,10,200055,200077,87]}) (P:=True) (s6:={ σ:=[(2,.own 0 2 0 0),(4,.own 0 4 0 0)],S:=[(2,.box [.i (strI a0),.i (zbc a1),.i (zbI a2),.i (zaK a3),.i (zaK a4),.i (zcS a5),.osl 0 33]),(4,.box zbG),(33,.arr 96 3 X.length (X.map ncnI) true)]::O,n:=423})
 ·intro J;obtain⟨q,hq,hqe⟩:=zfl hk (Nat.pos_of_ne_zero hz0);have hXd:X=a6.set q (chgC b2 bv nm a6[q]):=by
   rw[hX];unfold chgZ;rw[if_neg hz0,hqe,Int.toNat_natCast,List.getD_eq_getElem?_getD,List.getElem?_eq_getElem hq];rfl
  have htl:=hxl _ (List.getElem_mem hq);have gE:(a6.map ncnI)[((IntKind.i64.wrap b1).tmod (a6.length:Int)).toNat]? = some (ncnI a6[q]):=by
   rw[hqe];exact zak (f:=ncnI) hq
  have g2:∀d,((a6.map ncnI).set ((IntKind.i64.wrap b1).tmod (a6.length:Int)).toNat d)[((IntKind.i64.wrap b1).tmod (a6.length:Int)).toNat]? = some d:=fun d=>by
   rw[hqe,Int.toNat_natCast,List.getElem?_set_self (by rw[List.length_map];exact hq)]
  have hset:∀t,X=a6.set q t→some (Ob.arr 96 3 a6.length ((a6.map ncnI).set ((IntKind.i64.wrap b1).tmod (a6.length:Int)).toNat (ncnI t)) true)=some (Ob.arr 96 3 X.length (X.map ncnI) true):=fun t h=>by
   rw[h,hqe,Int.toNat_natCast,List.length_set,List.map_set]
  have hslf:some (Ob.arr 96 3 a6.length ((a6.map ncnI).set ((IntKind.i64.wrap b1).tmod (a6.length:Int)).toNat (ncnI a6[q])) true)=some (Ob.arr 96 3 a6.length (a6.map ncnI) true):=by rw[znf gE]
  have hel2:∀d:List I,d.length=3→∀y∈(a6.map ncnI).set ((IntKind.i64.wrap b1).tmod (a6.length:Int)).toNat d,y.length=3:=fun d hd y hy=>by
   rcases List.mem_or_eq_of_mem_set hy with h|h
   ·obtain⟨z,_,rfl⟩:=List.mem_map.1 h;rfl
   ·rw[h];exact hd
  generalize a6[q]=T at *;obtain⟨tn,tl,tb⟩:=T;unfold chgC at hXd;simp only at htl hXd;obtain⟨⟨p1,p2⟩,lr,rfl⟩:∃y l,tl=y::l:=by cases tl with|nil=>simp at htl|cons y l=>exact⟨y,l,rfl⟩
  refine zai Tk Tryz.func12 ?_;refine g_go Tk Tryz.func12 ?_;refine zad Tk Tryz.func12 rfl (fun h=>absurd h (by simp;intro e;rw[e] at hz0;simp at hz0)) (fun _=>?_);refine g_go Tk Tryz.func12 ?_;refine zat Tk Tryz.func12 zaA rfl ?_;refine zar Tk (by show (a6.length:Int)≠0;omega) ?_;refine zar Tk (by rw[hqe];exact⟨by omega,by show (q:Int)<(a6.length:Int);omega⟩) ?_;refine zaC Tk Tryz.func12 (by kernel_rfl) ?_;refine zaq Tk Tryz.func12 (gE) ?_;refine zaf Tk Tryz.func12 (by exact⟨by show (0+((p1,p2)::lr).length)*24≤140737488355328;omega,by show 0+((p1,p2)::lr).length≤9223372036854775807;omega⟩) ?_
  refine zaW (zbp (l:=[(2,.own 0 2 0 0),(4,.own 0 4 0 0),(3,.own 0 3 0 0),(6,.i (strI nm)),(13,.own 0 33 ((IntKind.i64.wrap b1).tmod (a6.length:Int)).toNat 0),(48,.own 0 33 ((IntKind.i64.wrap b1).tmod (a6.length:Int)).toNat 0),(54,.osl 0 54)]) (Hv:=[(2,.box [.i (strI a0),.i (zbc a1),.i (zbI a2),.i (zaK a3),.i (zaK a4),.i (zcS a5),.osl 0 33]),(3,.box (slC ⟨b0,b1,b2,b3⟩)),(4,.box zbG),(33,.arr 96 3 a6.length (a6.map ncnI) true),(54,.arr 93 2 ((p1,p2)::lr).length (((p1,p2)::lr).map ntmI) true)]) ⟨rfl,rfl,rfl,rfl,rfl,rfl,rfl,trivial⟩ rfl ⟨rfl,rfl,rfl,rfl,congrArg (fun n=>some (Ob.arr 93 2 n (((p1,p2)::lr).map ntmI) true)) (Nat.zero_add ((p1,p2)::lr).length),trivial⟩ rfl rfl) ?_
  by_cases e12:b2.tmod 5=1∨b2.tmod 5=2
  ·refine zsw 54 (Base.refl _ _) rfl rfl rfl htl.1 fun E2 bl cap hR=>?_;refine zcM Tk Tryz.func12 rfl rfl Wk.refl ?_;refine zaq Tk Tryz.func12 (gE) ?_;refine zau ?_;refine zai Tk Tryz.func12 ?_;refine g_go Tk Tryz.func12 ?_;refine zaf Tk Tryz.func12 (by decide) ?_;refine zad Tk Tryz.func12 rfl (fun h=>absurd h (by rcases e12 with e|e<;>simp[e])) (fun _=>?_);refine zad Tk Tryz.func12 rfl (fun e1=>?_) (fun e1=>?_)
   ·have e1:b2.tmod 5=1:=by simpa using e1
    rw[if_neg (by omega),if_pos e1] at hXd;refine zaq Tk Tryz.func12 (g2 _) ?_;refine zaf Tk Tryz.func12 (by exact⟨by decide,by show (0:Int)<((((p1,p2)::lr).length:Nat):Int);omega⟩) ?_;refine g_rg ?_;refine zkZ Tk rfl rfl rfl rfl rfl rfl rfl rfl rfl ?_;refine ze0 Tk (j:=0) (off:=0) hR rfl rfl rfl rfl rfl rfl rfl rfl rfl rfl rfl (by decide) rfl fun E' hR'=>?_;refine ziI Tk Tryz.func12 rfl ?_;refine zau ?_;refine zgf 33 hR' rfl rfl ((a6.map ncnI).set ((IntKind.i64.wrap b1).tmod (a6.length:Int)).toNat (ncnI ⟨tn,(nm,p2)::lr,tb⟩)) (by simp) (hel2 _ rfl) (fun K vs hr=>zbZ (ziK hr) _ _ _) ?_;exact zav (J trivial) ⟨rfl,rfl,trivial⟩ rfl ⟨rfl,rfl,hset _ hXd,trivial⟩ rfl rfl
   ·have e1:b2.tmod 5≠1:=by simpa using e1
    have e2:b2.tmod 5=2:=by omega
    rw[if_neg (by omega),if_neg (by omega),if_pos e2] at hXd;refine zad Tk Tryz.func12 rfl (fun _=>?_) (fun h=>absurd h (by simp[e2]));refine zat Tk Tryz.func12 zaA rfl ?_;refine zax Tk (g2 _) ?_;refine zar Tk (by decide) ?_;refine zar Tk (by exact hbi) ?_;refine zax Tk (hbe) ?_;refine zar Tk (by exact⟨by decide,by show (0:Int)<((((p1,p2)::lr).length:Nat):Int);omega⟩) ?_;refine zvH [13] (by kernel_rfl) (by kernel_rfl) ?_;refine ze0 Tk (j:=0) (off:=1) hR rfl rfl rfl rfl rfl rfl rfl rfl rfl rfl rfl (by decide) rfl fun E' hR'=>?_;refine ziI Tk Tryz.func12 rfl ?_;refine zau ?_;refine zgf 33 hR' rfl rfl ((a6.map ncnI).set ((IntKind.i64.wrap b1).tmod (a6.length:Int)).toNat (ncnI ⟨tn,(p1,bv)::lr,tb⟩)) (by simp) (hel2 _ rfl) (fun K vs hr=>zbZ (ziK hr) _ _ _) ?_;exact zav (J trivial) ⟨rfl,rfl,trivial⟩ rfl ⟨rfl,rfl,hset _ hXd,trivial⟩ rfl rfl
  refine zaW (zap 54 rfl rfl) ?_;refine zaW (zaR rfl) ?_;refine zcM Tk Tryz.func12 rfl rfl Wk.refl ?_;refine zaq Tk Tryz.func12 (gE) ?_;refine zau ?_;refine zas (zbp (l:=[(2,.own 0 2 0 0),(4,.own 0 4 0 0),(3,.own 0 3 0 0),(6,.i (strI nm)),(13,.own 0 33 ((IntKind.i64.wrap b1).tmod (a6.length:Int)).toNat 0)]) (Hv:=[(2,.box [.i (strI a0),.i (zbc a1),.i (zbI a2),.i (zaK a3),.i (zaK a4),.i (zcS a5),.osl 0 33]),(3,.box (slC ⟨b0,b1,b2,b3⟩)),(4,.box zbG),(33,.arr 96 3 a6.length (a6.map ncnI) true)]) ⟨rfl,rfl,rfl,rfl,rfl,trivial⟩ rfl ⟨rfl,rfl,rfl,hslf,trivial⟩ rfl rfl) ?_;refine zai Tk Tryz.func12 ?_;refine g_go Tk Tryz.func12 ?_;refine zaf Tk Tryz.func12 (by decide) ?_;refine zad Tk Tryz.func12 rfl (fun e0=>?_) (fun e0=>?_)
  ·have e0:b2.tmod 5=0:=by simpa using e0
   rw[if_pos e0] at hXd;refine zaq Tk Tryz.func12 (gE) ?_;refine zau ?_;exact zav (J trivial) ⟨rfl,rfl,trivial⟩ rfl ⟨rfl,rfl,hset _ hXd,trivial⟩ rfl rfl
  have e0:b2.tmod 5≠0:=by simpa using e0
  rw[if_neg e0,if_neg (by omega),if_neg (by omega)] at hXd;refine zad Tk Tryz.func12 rfl (fun h=>absurd h (by simp;omega)) (fun _=>?_);refine zad Tk Tryz.func12 rfl (fun h=>absurd h (by simp;omega)) (fun _=>?_);refine zad Tk Tryz.func12 rfl (fun e3=>?_) (fun e3=>?_)
  ·have e3:b2.tmod 5=3:=by simpa using e3
   rw[if_pos e3] at hXd;refine zaf Tk Tryz.func12 (by decide) ?_;refine zaf Tk Tryz.func12 (by exact hbi) ?_;refine zaq Tk Tryz.func12 (hbe) ?_;refine zaq Tk Tryz.func12 (gE) ?_;refine zau ?_;exact zav (J trivial) ⟨rfl,rfl,trivial⟩ rfl ⟨rfl,rfl,hset _ hXd,trivial⟩ rfl rfl
  ·have e3:b2.tmod 5≠3:=by simpa using e3
   rw[if_neg e3] at hXd;refine zaq Tk Tryz.func12 (gE) ?_;refine zau ?_;refine zas (zgd 33 (ca:=(a6.map ncnI).set ((IntKind.i64.wrap b1).tmod (a6.length:Int)).toNat [strI tn,.v (.slice none 0 0),vi tb]) (ys:=(a6.map ncnI).set ((IntKind.i64.wrap b1).tmod (a6.length:Int)).toNat (ncnI ⟨tn,[],tb⟩)) rfl rfl (by simp) (hel2 _ rfl) fun K vs hK=>zbZ (ziK .nil) _ _ _) ?_;exact zav (J trivial) ⟨rfl,rfl,trivial⟩ rfl ⟨rfl,rfl,hset _ hXd,trivial⟩ rfl rfl
 intro _;refine zas (zap 33 rfl rfl) ?_;refine zas (zaR rfl) ?_;refine zai Tk Tryz.func12 ?_;refine g_go Tk Tryz.func12 ?_;refine zae Tk (r:=mdlD ⟨a0,a1,a2,a3,a4,a5,X⟩) rfl rfl rfl trivial rfl rfl ?_;rfl
def chgT (how b:Int) (nm:ByteArray) (x:Tpl):Tpl:=
 if how.tmod 6=0 then ⟨nm,x.locs,x.evs,x.mach⟩ else if how.tmod 6=1 then ⟨x.name,x.locs.drop 1++[nm],x.evs,x.mach⟩ else if how.tmod 6=2 then ⟨x.name,x.locs.drop 1,x.evs,x.mach⟩
 else if how.tmod 6=3 then ⟨x.name,x.locs,x.evs.drop 1++[nm],x.mach⟩ else if how.tmod 6=4 then ⟨x.name,x.locs,x.evs++[nm],x.mach⟩ else ⟨x.name,x.locs,x.evs,zbw x.mach (IntKind.i64.wrap (b.tmod 6))⟩
def chgP (k how b:Int) (nm:ByteArray) (L:List Tpl):List Tpl:=
 if L.length=0 then L else L.set ((IntKind.i64.wrap k).tmod (L.length:Int)).toNat (chgT how b nm (L.getD ((IntKind.i64.wrap k).tmod (L.length:Int)).toNat zTpl))
theorem zx7 {how b:Int} {nm:ByteArray} {x:Tpl} (h:tplOk x) (hl:x.evs.length≤1000) (hz:nm.size≤33):tplOk (chgT how b nm x)∧∃c,(chgT how b nm x).mach=zbw x.mach c:=by
 have hn:nm.size≤zan:=by simp only[zan];omega
 have hap:∀l:List ByteArray,(∀y∈l,y.size≤zan)→∀y∈l++[nm],y.size≤zan:=fun l h y hy=>(List.mem_append.1 hy).elim (h y) fun h=>by rw[List.mem_singleton.1 h];exact hn
 unfold chgT
 split
 ·exact⟨{h with nm:=hn},x.mach.init,rfl⟩
 split
 ·exact⟨{h with ll:=by show (List.drop 1 _++[nm]).length≤_;simp;have:=h.ll;omega,ls:=hap _ fun y hy=>h.ls y (List.mem_of_mem_drop hy)},x.mach.init,rfl⟩
 split
 ·exact⟨{h with ll:=by show (List.drop 1 _).length≤_;rw[List.length_drop];have:=h.ll;omega,ls:=fun y hy=>h.ls y (List.mem_of_mem_drop hy)},x.mach.init,rfl⟩
 split
 ·exact⟨{h with el:=by show (List.drop 1 _++[nm]).length≤_;simp;omega,es:=hap _ fun y hy=>h.es y (List.mem_of_mem_drop hy)},x.mach.init,rfl⟩
 split
 ·exact⟨{h with el:=by show (_++[nm]).length≤_;simp;omega,es:=hap _ h.es},x.mach.init,rfl⟩
 ·exact⟨{h with mo:=⟨h.mo.al,h.mo.ma,h.mo.va,h.mo.na,h.mo.mo,h.mo.mv⟩},_,rfl⟩
theorem zzc {g:Nat} (hg:zda g) {ty:TypeId} {fr:Nat×Nat} (m:Mdl) (s:Slp) (hm:chgOk m) (hs:slOk s) (h0:s.kind.tmod 7=2) :
  ∃n,chgR m n∧∀O,zba g (ptab ty fr) Tryz.prog 12 [mdlD m,slD s] O (mdlD n) [] O:=by
 obtain⟨nm,hz,hge,hgi⟩:=zeh hs.name;refine⟨⟨m.name,m.evs,chgP s.k s.how s.name nm m.tpls,m.comps,m.reqs,m.excs,m.cons⟩,?_,fun O=>?_⟩
 ·unfold chgP
  split
  ·exact zdz hm hm.ok rfl
  ·rename_i h;obtain⟨q,hq,hqe⟩:=zfl hs.k (Nat.pos_of_ne_zero h);rw[hqe,Int.toNat_natCast,List.getD_eq_getElem?_getD,List.getElem?_eq_getElem hq];have ho:=zx7 (how:=s.how) (b:=s.name) (hm.ok.tpk _ (List.getElem_mem hq)) (hm.tl _ (List.getElem_mem hq)).2.2 hz;exact zx2 hm hq ho.1 ho.2
 have hel:=hm.ok.tp;have hxl:∀x∈m.tpls,0<x.locs.length∧x.locs.length≤1000000∧0<x.evs.length∧x.evs.length≤1000:=fun x hx=>⟨(hm.tl x hx).1,(hm.ok.tpk x hx).ll,(hm.tl x hx).2⟩;have hk:=hs.k;obtain⟨b0,b1,b2,b3⟩:=s;obtain⟨a0,a1,a2,a3,a4,a5,a6⟩:=m;clear hm hs;simp only at h0 hge hgi hel hxl hk ⊢;obtain⟨X,hX⟩:∃X,X=chgP b1 b2 b3 nm a2:=⟨_,rfl⟩;rw[←hX];refine zaM [200014,33,35,87,200201,200226,200240] Tk Tryz.func12 rfl Tryz.call12 Tryz.ntmps12 (Nat.le_of_ble_eq_true rfl) fun E hE=>?_;refine zai Tk Tryz.func12 ?_;refine zed Tk Tryz.func12 (.alt (.new [(14,.arr 9 1 10 (chgN.map fun s=>[strI s]) true)] (.osl 0 14)) (.new [] (.i (.sl 1 10 (chgN.map fun s=>[strI s]))))) rfl rfl (by kernel_rfl) ?_;refine zaf Tk Tryz.func12 (by decide) ?_;refine zaf Tk Tryz.func12 (by exact hgi) ?_;refine zaq Tk Tryz.func12 (hge) ?_;refine zaf Tk Tryz.func12 (by decide) ?_
 refine zad Tk Tryz.func12 rfl (fun h=>absurd h (by simp[h0])) (fun _=>?_);refine zad Tk Tryz.func12 rfl (fun h=>absurd h (by simp[h0])) (fun _=>?_);refine zad Tk Tryz.func12 rfl (fun _=>?_) (fun h=>absurd h (by simp[h0]));refine zaf Tk Tryz.func12 (by exact⟨by show (0+a2.length)*176≤140737488355328;omega,by show 0+a2.length≤9223372036854775807;omega⟩) ?_;refine zau ?_;refine zas (zbp (l:=[(2,.own 0 2 0 0),(4,.own 0 4 0 0),(3,.own 0 3 0 0),(6,.i (strI nm)),(7,ii (IntKind.i64.wrap b1))]) (Hv:=[(2,.box [.i (strI a0),.i (zbc a1),.osl 0 156,.i (zaK a3),.i (zaK a4),.i (zcS a5),.i (zdC a6)]),(3,.box (slC ⟨b0,b1,b2,b3⟩)),(4,.box zbG),(156,.arr 87 9 a2.length (a2.map tplI) true)]) ⟨rfl,rfl,rfl,rfl,rfl,trivial⟩ rfl ⟨rfl,rfl,rfl,congrArg (fun n=>some (Ob.arr 87 9 n (a2.map tplI) true)) (Nat.zero_add a2.length),trivial⟩ rfl rfl) ?_
 by_cases hz0:a2.length=0
 ·have hXd:X=a2:=by rw[hX];unfold chgP;rw[if_pos hz0]
  refine zas (zap 156 rfl rfl) ?_;refine zas (zaR rfl) ?_;refine zai Tk Tryz.func12 ?_;refine g_go Tk Tryz.func12 ?_;refine zad Tk Tryz.func12 rfl (fun _=>?_) (fun h=>absurd h (by simp;exact List.eq_nil_of_length_eq_zero hz0));refine zae Tk (r:=mdlD ⟨a0,a1,a2,a3,a4,a5,a6⟩) rfl rfl rfl trivial rfl rfl ?_;rw[hXd]
 apply zbQ (P:=True) (s6:={ σ:=[(2,.own 0 2 0 0),(4,.own 0 4 0 0)],S:=[(2,.box [.i (strI a0),.i (zbc a1),.osl 0 156,.i (zaK a3),.i (zaK a4),.i (zcS a5),.i (zdC a6)]),(4,.box zbG),(156,.arr 87 9 X.length (X.map tplI) true)]::O,n:=423})
 ·intro J;obtain⟨q,hq,hqe⟩:=zfl hk (Nat.pos_of_ne_zero hz0);have hXd:X=a2.set q (chgT b2 b3 nm a2[q]):=by
   rw[hX];unfold chgP;rw[if_neg hz0,hqe,Int.toNat_natCast,List.getD_eq_getElem?_getD,List.getElem?_eq_getElem hq];rfl
  have htl:=hxl _ (List.getElem_mem hq);have gE:(a2.map tplI)[((IntKind.i64.wrap b1).tmod (a2.length:Int)).toNat]? = some (tplI a2[q]):=by
   rw[hqe];exact zak (f:=tplI) hq
  have hset:∀t,X=a2.set q t→some (Ob.arr 87 9 a2.length ((a2.map tplI).set ((IntKind.i64.wrap b1).tmod (a2.length:Int)).toNat (tplI t)) true)=some (Ob.arr 87 9 X.length (X.map tplI) true):=fun t h=>by
   rw[h,hqe,Int.toNat_natCast,List.length_set,List.map_set]
  generalize a2[q]=T at *;obtain⟨tn,tl,te,⟨al,lo,ini,mk,vr,mo⟩⟩:=T;unfold chgT at hXd;simp only at htl hXd;have hap:∀l:List ByteArray,some (Ob.arr 9 1 (0+l.length+1) ([]++(l.map fun s=>[strI s])++[[strI nm]]) true)=some (Ob.arr 9 1 (l++[nm]).length ((l++[nm]).map fun s=>[strI s]) true):=fun l=>by simp
  have hdr:∀l:List ByteArray,some (Ob.arr 9 1 (0+(l.length-1)+1) ([]++(l.map fun s=>[strI s]).drop 1++[[strI nm]]) true)=some (Ob.arr 9 1 (l.drop 1++[nm]).length ((l.drop 1++[nm]).map fun s=>[strI s]) true):=fun l=>by simp
  refine zai Tk Tryz.func12 ?_;refine g_go Tk Tryz.func12 ?_;refine zad Tk Tryz.func12 rfl (fun h=>absurd h (by simp;intro e;rw[e] at hz0;simp at hz0)) (fun _=>?_);refine g_go Tk Tryz.func12 ?_;refine zat Tk Tryz.func12 zaA rfl ?_;refine zar Tk (by show (a2.length:Int)≠0;omega) ?_;refine zar Tk (by rw[hqe];exact⟨by omega,by show (q:Int)<(a2.length:Int);omega⟩) ?_;refine zaC Tk Tryz.func12 (by kernel_rfl) ?_;refine zaf Tk Tryz.func12 (by decide) ?_;refine zad Tk Tryz.func12 rfl (fun e0=>?_) (fun e0=>?_)
  ·have e0:b2.tmod 6=0:=by simpa using e0
   rw[if_pos e0] at hXd;refine zaq Tk Tryz.func12 (gE) ?_;refine zau ?_;exact zav (J trivial) ⟨rfl,rfl,trivial⟩ rfl ⟨rfl,rfl,hset _ hXd,trivial⟩ rfl rfl
  have e0:b2.tmod 6≠0:=by simpa using e0
  rw[if_neg e0] at hXd;refine zad Tk Tryz.func12 rfl (fun e1=>?_) (fun e1=>?_)
  ·have e1:b2.tmod 6=1:=by simpa using e1
   rw[if_pos e1] at hXd;refine zaq Tk Tryz.func12 (gE) ?_;refine zaf Tk Tryz.func12 (by exact⟨by decide,by show (1:Int)≤(tl.length:Int);omega⟩) ?_;refine zaf Tk Tryz.func12 (by exact⟨by show (0+(tl.length-1))*16≤140737488355328;omega,by show 0+(tl.length-1)≤9223372036854775807;omega⟩) ?_;refine zaf Tk Tryz.func12 (by exact⟨by show (0+(tl.length-1)+1)*16≤140737488355328;omega,by show 0+(tl.length-1)+1≤9223372036854775807;omega⟩) ?_
   refine zaW (zbp (l:=[(2,.own 0 2 0 0),(4,.own 0 4 0 0),(190,.own 0 156 ((IntKind.i64.wrap b1).tmod (a2.length:Int)).toNat 0),(200,.osl 0 200)]) (Hv:=[(2,.box [.i (strI a0),.i (zbc a1),.osl 0 156,.i (zaK a3),.i (zaK a4),.i (zcS a5),.i (zdC a6)]),(4,.box zbG),(156,.arr 87 9 a2.length (a2.map tplI) true),(200,.arr 9 1 (tl.drop 1++[nm]).length ((tl.drop 1++[nm]).map fun s=>[strI s]) true)]) ⟨rfl,rfl,rfl,rfl,trivial⟩ rfl ⟨rfl,rfl,rfl,hdr tl,trivial⟩ rfl rfl) ?_;refine zaW (zap 200 rfl rfl) ?_;refine zaW (zaR rfl) ?_;refine zcM Tk Tryz.func12 rfl rfl Wk.refl ?_;refine zaq Tk Tryz.func12 (gE) ?_;refine zau ?_;exact zav (J trivial) ⟨rfl,rfl,trivial⟩ rfl ⟨rfl,rfl,hset _ hXd,trivial⟩ rfl rfl
  have e1:b2.tmod 6≠1:=by simpa using e1
  rw[if_neg e1] at hXd;refine zad Tk Tryz.func12 rfl (fun e2=>?_) (fun e2=>?_)
  ·have e2:b2.tmod 6=2:=by simpa using e2
   rw[if_pos e2] at hXd;refine zaq Tk Tryz.func12 (gE) ?_;refine zaf Tk Tryz.func12 (by exact⟨by decide,by show (1:Int)≤(tl.length:Int);omega⟩) ?_;refine zaq Tk Tryz.func12 (gE) ?_;refine zau ?_;exact zav (J trivial) ⟨rfl,rfl,trivial⟩ rfl ⟨rfl,rfl,(congrArg (fun z=>some (Ob.arr 87 9 a2.length ((a2.map tplI).set ((IntKind.i64.wrap b1).tmod (a2.length:Int)).toNat [strI tn,z,zjA te,zdj al,vi lo,vi ini,zdj mk,vrsI vr,.sl 8 mo.length (mo.map mvI)]) true)) (zjz tl 1)).trans (hset _ hXd),trivial⟩ rfl rfl
  have e2:b2.tmod 6≠2:=by simpa using e2
  rw[if_neg e2] at hXd;refine zad Tk Tryz.func12 rfl (fun e3=>?_) (fun e3=>?_)
  ·have e3:b2.tmod 6=3:=by simpa using e3
   rw[if_pos e3] at hXd;refine zaq Tk Tryz.func12 (gE) ?_;refine zaf Tk Tryz.func12 (by exact⟨by decide,by show (1:Int)≤(te.length:Int);omega⟩) ?_;refine zaf Tk Tryz.func12 (by exact⟨by show (0+(te.length-1))*16≤140737488355328;omega,by show 0+(te.length-1)≤9223372036854775807;omega⟩) ?_;refine zaf Tk Tryz.func12 (by exact⟨by show (0+(te.length-1)+1)*16≤140737488355328;omega,by show 0+(te.length-1)+1≤9223372036854775807;omega⟩) ?_
   refine zaW (zbp (l:=[(2,.own 0 2 0 0),(4,.own 0 4 0 0),(215,.own 0 156 ((IntKind.i64.wrap b1).tmod (a2.length:Int)).toNat 0),(225,.osl 0 225)]) (Hv:=[(2,.box [.i (strI a0),.i (zbc a1),.osl 0 156,.i (zaK a3),.i (zaK a4),.i (zcS a5),.i (zdC a6)]),(4,.box zbG),(156,.arr 87 9 a2.length (a2.map tplI) true),(225,.arr 9 1 (te.drop 1++[nm]).length ((te.drop 1++[nm]).map fun s=>[strI s]) true)]) ⟨rfl,rfl,rfl,rfl,trivial⟩ rfl ⟨rfl,rfl,rfl,hdr te,trivial⟩ rfl rfl) ?_;refine zaW (zap 225 rfl rfl) ?_;refine zaW (zaR rfl) ?_;refine zcM Tk Tryz.func12 rfl rfl Wk.refl ?_;refine zaq Tk Tryz.func12 (gE) ?_;refine zau ?_;exact zav (J trivial) ⟨rfl,rfl,trivial⟩ rfl ⟨rfl,rfl,hset _ hXd,trivial⟩ rfl rfl
  have e3:b2.tmod 6≠3:=by simpa using e3
  rw[if_neg e3] at hXd;refine zad Tk Tryz.func12 rfl (fun e4=>?_) (fun e4=>?_)
  ·have e4:b2.tmod 6=4:=by simpa using e4
   rw[if_pos e4] at hXd;refine zaq Tk Tryz.func12 (gE) ?_;refine zaf Tk Tryz.func12 (by exact⟨by show (0+te.length)*16≤140737488355328;omega,by show 0+te.length≤9223372036854775807;omega⟩) ?_;refine zaf Tk Tryz.func12 (by exact⟨by show (0+te.length+1)*16≤140737488355328;omega,by show 0+te.length+1≤9223372036854775807;omega⟩) ?_;refine zaW (zbp (l:=[(2,.own 0 2 0 0),(4,.own 0 4 0 0),(230,.own 0 156 ((IntKind.i64.wrap b1).tmod (a2.length:Int)).toNat 0),(239,.osl 0 239)]) (Hv:=[(2,.box [.i (strI a0),.i (zbc a1),.osl 0 156,.i (zaK a3),.i (zaK a4),.i (zcS a5),.i (zdC a6)]),(4,.box zbG),(156,.arr 87 9 a2.length (a2.map tplI) true),(239,.arr 9 1 (te++[nm]).length ((te++[nm]).map fun s=>[strI s]) true)]) ⟨rfl,rfl,rfl,rfl,trivial⟩ rfl ⟨rfl,rfl,rfl,hap te,trivial⟩ rfl rfl) ?_;refine zaW (zap 239 rfl rfl) ?_;refine zaW (zaR rfl) ?_
   refine zcM Tk Tryz.func12 rfl rfl Wk.refl ?_;refine zaq Tk Tryz.func12 (gE) ?_;refine zau ?_;exact zav (J trivial) ⟨rfl,rfl,trivial⟩ rfl ⟨rfl,rfl,hset _ hXd,trivial⟩ rfl rfl
  have e4:b2.tmod 6≠4:=by simpa using e4
  rw[if_neg e4] at hXd;refine zaf Tk Tryz.func12 (by decide) ?_;refine zaq Tk Tryz.func12 (gE) ?_;refine zau ?_;exact zav (J trivial) ⟨rfl,rfl,trivial⟩ rfl ⟨rfl,rfl,hset _ hXd,trivial⟩ rfl rfl
 intro _;refine zas (zap 156 rfl rfl) ?_;refine zas (zaR rfl) ?_;refine zai Tk Tryz.func12 ?_;refine g_go Tk Tryz.func12 ?_;refine zae Tk (r:=mdlD ⟨a0,a1,X,a3,a4,a5,a6⟩) rfl rfl rfl trivial rfl rfl ?_;rfl
theorem zzd {g:Nat} (hg:zda g) {ty:TypeId} {fr:Nat×Nat} (m:Mdl) (s:Slp) (hm:chgOk m) (hs:slOk s) (h0:s.kind.tmod 7=1) :
  ∃n,chgR m n∧∀O,zba g (ptab ty fr) Tryz.prog 12 [mdlD m,slD s] O (mdlD n) [] O:=by
 obtain⟨nm,hz,hge,hgi⟩:=zeh hs.name;obtain⟨q,hq,hqe⟩:=zfl hs.k hm.ev;refine⟨⟨m.name,if s.how.tmod 3=0 then m.evs.set q ⟨nm,m.evs[q].c,m.evs[q].o,m.evs[q].f,m.evs[q].fault⟩ else if s.how.tmod 3=1 then m.evs.set q ⟨m.evs[q].name,m.evs[q].c,m.evs[q].o,m.evs[q].f,IntKind.i64.wrap (s.name.tmod 7)⟩ else m.evs.take q,m.tpls,m.comps,m.reqs,m.excs,m.cons⟩,zdz hm ?_ rfl,fun O=>?_⟩
 ·have hnm:nm.size≤zan:=by simp only[zan];omega
  have hev:=hm.ok.ev;have hen:=hm.ok.evn
  split
  ·exact {hm.ok with ev:=by simp;exact hev,evn:=zey hen hnm}
  split
  ·exact {hm.ok with ev:=by simp;exact hev,evn:=zey hen (hen m.evs[q] (List.getElem_mem hq))}
  ·exact {hm.ok with ev:=by simp;omega,evn:=fun x hx=>hen x (List.mem_of_mem_take hx)}
 have hel:=hm.ok.ev;obtain⟨b0,b1,b2,b3⟩:=s;obtain⟨a0,a1,a2,a3,a4,a5,a6⟩:=m;clear hm hs;simp only at h0 hge hgi hq hqe hel ⊢;have gE:(a1.map evtI)[((IntKind.i64.wrap b1).tmod (a1.length:Int)).toNat]? = some (evtI a1[q]):=by
  rw[hqe];exact zak (f:=evtI) hq
 have hset:∀t,some (Ob.arr 101 5 a1.length ((a1.map evtI).set ((IntKind.i64.wrap b1).tmod (a1.length:Int)).toNat (evtI t)) true)=some (Ob.arr 101 5 (a1.set q t).length ((a1.set q t).map evtI) true):=fun t=>by
  rw[hqe,Int.toNat_natCast,List.length_set,List.map_set]
 generalize a1[q]=T at *;obtain⟨tn,t1,t2,t3,t4⟩:=T;refine zaM [200014,24,26,87] Tk Tryz.func12 rfl Tryz.call12 Tryz.ntmps12 (Nat.le_of_ble_eq_true rfl) fun E hE=>?_;refine zai Tk Tryz.func12 ?_;refine zed Tk Tryz.func12 (.alt (.new [(14,.arr 9 1 10 (chgN.map fun s=>[strI s]) true)] (.osl 0 14)) (.new [] (.i (.sl 1 10 (chgN.map fun s=>[strI s]))))) rfl rfl (by kernel_rfl) ?_;refine zaf Tk Tryz.func12 (by decide) ?_;refine zaf Tk Tryz.func12 (by exact hgi) ?_;refine zaq Tk Tryz.func12 (hge) ?_;refine zaf Tk Tryz.func12 (by decide) ?_;refine zad Tk Tryz.func12 rfl (fun h=>absurd h (by simp[h0])) (fun _=>?_);refine zad Tk Tryz.func12 rfl (fun _=>?_) (fun h=>absurd h (by simp[h0]));refine zaf Tk Tryz.func12 (by exact⟨by show (0+a1.length)*32≤140737488355328;omega,by show 0+a1.length≤9223372036854775807;omega⟩) ?_;refine zau ?_
 refine zas (zbp (l:=[(2,.own 0 2 0 0),(4,.own 0 4 0 0),(3,.own 0 3 0 0),(6,.i (strI nm)),(7,ii (IntKind.i64.wrap b1))]) (Hv:=[(2,.box [.i (strI a0),.osl 0 114,.i (zbI a2),.i (zaK a3),.i (zaK a4),.i (zcS a5),.i (zdC a6)]),(3,.box (slC ⟨b0,b1,b2,b3⟩)),(4,.box zbG),(114,.arr 101 5 a1.length (a1.map evtI) true)]) ⟨rfl,rfl,rfl,rfl,rfl,trivial⟩ rfl ⟨rfl,rfl,rfl,congrArg (fun n=>some (Ob.arr 101 5 n (a1.map evtI) true)) (Nat.zero_add a1.length),trivial⟩ rfl rfl) ?_;refine zai Tk Tryz.func12 ?_;refine g_go Tk Tryz.func12 ?_;refine zat Tk Tryz.func12 zaA rfl ?_;refine zar Tk (by show (a1.length:Int)≠0;omega) ?_;refine zar Tk (by rw[hqe];exact⟨by omega,by show (q:Int)<(a1.length:Int);omega⟩) ?_;refine zaC Tk Tryz.func12 (by kernel_rfl) ?_;refine zaf Tk Tryz.func12 (by decide) ?_;refine zad Tk Tryz.func12 rfl (fun e0=>?_) (fun e0=>?_)
 ·have e0:b2.tmod 3=0:=by simpa using e0
  rw[if_pos e0];refine zaq Tk Tryz.func12 (gE) ?_;refine zau ?_;refine zas (zbp (l:=[(2,.own 0 2 0 0),(4,.own 0 4 0 0)]) (Hv:=[(2,.box [.i (strI a0),.osl 0 114,.i (zbI a2),.i (zaK a3),.i (zaK a4),.i (zcS a5),.i (zdC a6)]),(4,.box zbG),(114,.arr 101 5 (a1.set q ⟨nm,t1,t2,t3,t4⟩).length ((a1.set q ⟨nm,t1,t2,t3,t4⟩).map evtI) true)]) ⟨rfl,rfl,trivial⟩ rfl ⟨rfl,rfl,hset ⟨nm,t1,t2,t3,t4⟩,trivial⟩ rfl rfl) ?_;refine zas (zap 114 rfl rfl) ?_;refine zas (zaR rfl) ?_;refine zai Tk Tryz.func12 ?_;refine g_go Tk Tryz.func12 ?_;refine zae Tk (r:=mdlD ⟨a0,a1.set q ⟨nm,t1,t2,t3,t4⟩,a2,a3,a4,a5,a6⟩) rfl rfl rfl trivial rfl rfl ?_;rfl
 have e0:b2.tmod 3≠0:=by simpa using e0
 rw[if_neg e0];refine zad Tk Tryz.func12 rfl (fun e1=>?_) (fun e1=>?_)
 ·have e1:b2.tmod 3=1:=by simpa using e1
  rw[if_pos e1];refine zaf Tk Tryz.func12 (by decide) ?_;refine zaq Tk Tryz.func12 (gE) ?_;refine zau ?_;refine zas (zbp (l:=[(2,.own 0 2 0 0),(4,.own 0 4 0 0)]) (Hv:=[(2,.box [.i (strI a0),.osl 0 114,.i (zbI a2),.i (zaK a3),.i (zaK a4),.i (zcS a5),.i (zdC a6)]),(4,.box zbG),(114,.arr 101 5 (a1.set q ⟨tn,t1,t2,t3,IntKind.i64.wrap (b3.tmod 7)⟩).length ((a1.set q ⟨tn,t1,t2,t3,IntKind.i64.wrap (b3.tmod 7)⟩).map evtI) true)]) ⟨rfl,rfl,trivial⟩ rfl ⟨rfl,rfl,hset ⟨tn,t1,t2,t3,IntKind.i64.wrap (b3.tmod 7)⟩,trivial⟩ rfl rfl) ?_;refine zas (zap 114 rfl rfl) ?_;refine zas (zaR rfl) ?_;refine zai Tk Tryz.func12 ?_;refine g_go Tk Tryz.func12 ?_;refine zae Tk (r:=mdlD ⟨a0,a1.set q ⟨tn,t1,t2,t3,IntKind.i64.wrap (b3.tmod 7)⟩,a2,a3,a4,a5,a6⟩) rfl rfl rfl trivial rfl rfl ?_;rfl
 have e1:b2.tmod 3≠1:=by simpa using e1
 rw[if_neg e1];refine zau ?_;refine zas (zap 114 rfl rfl) ?_;refine zas (zaR rfl) ?_;refine zai Tk Tryz.func12 ?_;refine g_go Tk Tryz.func12 ?_;refine zat Tk Tryz.func12 zaA rfl ?_;refine zar Tk (by show (a1.length:Int)≠0;omega) ?_;refine zar Tk (by rw[hqe];exact⟨by omega,by show (q:Int)≤(a1.length:Int);omega⟩) ?_;refine zct Tk rfl rfl rfl ?_;refine zaC Tk Tryz.func12 (by kernel_rfl) ?_;refine g_go Tk Tryz.func12 ?_;refine zae Tk (r:=.agg [.i (strI a0),.i (.sl 5 ((IntKind.i64.wrap b1).tmod (a1.length:Int)).toNat ((a1.map evtI).take ((IntKind.i64.wrap b1).tmod (a1.length:Int)).toNat)),.i (zbI a2),.i (zaK a3),.i (zaK a4),.i (zcS a5),.i (zdC a6)]) rfl rfl rfl trivial rfl rfl ?_;rw[hqe,Int.toNat_natCast,←List.map_take];show D.agg [.i (strI a0),.i (.sl 5 q ((a1.take q).map evtI)),.i (zbI a2),.i (zaK a3),.i (zaK a4),.i (zcS a5),.i (zdC a6)]=mdlD ⟨a0,a1.take q,a2,a3,a4,a5,a6⟩
 have:(a1.take q).length=q:=by rw[List.length_take];omega
 simp only[mdlD,mdlC,zbc,this]
theorem ztd {g:Nat} (hg:zda g) {ty:TypeId} {fr:Nat×Nat} (m:Mdl) (s:Slp) (hm:chgOk m) (hs:slOk s) :
  ∃n,chgR m n∧∀O,zba g (ptab ty fr) Tryz.prog 12 [mdlD m,slD s] O (mdlD n) [] O:=by
 have h1:=Int.emod_nonneg s.kind (show (7:Int)≠0 by decide);have h2:=Int.emod_lt_of_pos s.kind (show (0:Int)<7 by decide);have h3:s.kind.tmod 7=s.kind%7:=Int.tmod_eq_emod_of_nonneg hs.kind.1
 by_cases e0:s.kind.tmod 7=0
 ·exact zze hg m s hm hs e0
 by_cases e1:s.kind.tmod 7=1
 ·exact zzd hg m s hm hs e1
 by_cases e2:s.kind.tmod 7=2
 ·exact zzc hg m s hm hs e2
 by_cases e5:s.kind.tmod 7=5
 ·exact zzb hg m s hm hs e5
 by_cases e6:s.kind.tmod 7=6
 ·exact zza hg m s hm hs e6
 exact zx3 hg m s hm hs (by omega)
end Go.AI
namespace Go.AI
open Go.Proofs
theorem znN (T:List Tpl) (C:List Ins) (acc:List NLc) (w:Whr) (h:acc=[]∨0<acc.length):0<(excA T C acc w).length:=by
 unfold excA;rcases acc with _|⟨a,r⟩
 ·rw[if_neg (by simp)];simp
 ·show 0<(if sB a.1 (C.getD (w.1%(C.length:Int)).toNat zgq).name=true then a::r else a::r++_).length
  split<;>simp
theorem zsn (nt i:Nat) (u:Use22):(zi0 nt i u).evs.length=3:=by
 show (ordS _ 3).1.length=3;exact ze2 _ 3
theorem zr6 {k:Sk22} (hk:sk22Ok k):chgOk (zca k):=by
 have hins:∀x∈(mkI k).1++(mkI k).2,0<x.evs.length:=zeb (P:=fun x=>0<x.evs.length) _ _ _ fun i hi=>by rw[zsn];decide
 refine {ok:=znw hk,mv:=zuZ hk,ev:=?_,tl:=?_,cl:=?_,rl:=?_,xl:=?_,nl:=?_}
 ·rw[zg0];decide
 ·rw[zd7];intro t h;obtain⟨j,h1,h2,rfl⟩:=zk7 h;refine⟨?_,by show 0<3;decide,by show 3≤1000;decide⟩;show 0<((List.range _).map _).length;rw[List.length_map,List.length_range];exact zr8 _
 ·rw[zeF];exact fun x h=>hins x (List.mem_append_left _ h)
 ·rw[zfy];exact fun x h=>hins x (List.mem_append_right _ h)
 ·refine fun x hx=>⟨?_,by have:=(zh1.2 x hx).2;omega⟩
  revert x
  unfold zca
  split
  ·simp
  ·intro x hx;obtain⟨i,hi,rfl⟩:=List.mem_map.1 hx;exact znN _ _ _ _ (.inr (znN _ _ _ _ (.inl rfl)))
 ·unfold zca
  split
  ·simp
  ·rename_i hc;simp only
   split
   ·intro x hx;rw[List.mem_singleton.1 hx];show 0<(zcJ _).length;rw[zdb];omega
   ·simp
theorem zxP {g:Nat} (hg:zda g) {ty:TypeId} {fr:Nat×Nat} (O:List Heap) (k:Sk22) (s:Slp) (hk:sk22Ok k) (hs:slOk s):zba g (ptab ty fr) Tryz.prog 9 [zuu k,slD s] O (bb true) [] O:=by
 obtain⟨n,hn,hch⟩:=ztd hg (ty:=ty) (fr:=fr) (zca k) s (zr6 hk) hs;exact zqc hg O k (slC s) n hk hn.ok hn.ma hch ⟨_,_,_,_,rfl⟩
end Go.AI
namespace Go.Proofs.YtnojpbbaohoadaaGreatDoor
set_option maxRecDepth 100000
theorem zb9:laidOutB Tryz.prog=true:=by kernel_rfl
theorem zfi:mapsRowed Tryz.prog=true:=by kernel_rfl
theorem zeS:(Rows.elaborateEqualsRow.inPlace==Tryz.prog.inPlace 9)=true:=by kernel_rfl
theorem zeR:(Rows.elaborateEqualsRow.unfollowed==Tryz.prog.unfollowed 9)=true:=by kernel_rfl
theorem zeQ:(Rows.elaborateEqualsRow.recurses==Tryz.prog.recurses 9)=true:=by kernel_rfl
theorem zeP:(Rows.elaborateEqualsRow.named==Tryz.prog.varsNamed 9)=true:=by kernel_rfl
theorem zdE:joinedFacts Tryz.prog 9 Tryz.f9 Rows.elaborateEqualsSpec Rows.elaborateEqualsRow=true:=by
 simp only[joinedFacts,Bool.and_eq_true]
 repeat' refine And.intro ?_ ?_
 ·kernel_rfl
 ·exact zb9
 ·exact zfi
 ·kernel_rfl
 ·kernel_rfl
 ·kernel_rfl
 ·kernel_rfl
 ·kernel_rfl
 ·kernel_rfl
 ·exact zeS
 ·exact zeR
 ·exact zeQ
 ·exact zeP
 ·kernel_rfl
 ·kernel_rfl
 ·kernel_rfl
 ·kernel_rfl
 ·kernel_rfl
 ·kernel_rfl
 ·kernel_rfl
 ·kernel_rfl
 ·kernel_rfl
 ·kernel_rfl
 ·kernel_rfl
 ·kernel_rfl
 ·kernel_rfl
 ·kernel_rfl
 ·kernel_rfl
 ·kernel_rfl
 ·kernel_rfl
 ·kernel_rfl
 ·kernel_rfl
theorem zel : Tryz.prog.mainIs = some (true, "9aa124d96d2f2fea36404c3e6649a1942013d744947b2e2ae648d5b84282eb38".toList) := by kernel_rfl
theorem zdS:false=Tryz.prog.looks []:=by kernel_rfl
theorem zem:false=Rows.elaborateEqualsRow.goesBy Tryz.prog:=by kernel_rfl
end Go.Proofs.YtnojpbbaohoadaaGreatDoor
