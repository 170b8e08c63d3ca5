/- The layer of abstract runs, part 25. -/
import Derived.Test.YtnojpbbaohoadaaGreatDoorGnuX
import Derived.KernelRfl
import Derived.Lib.SlicesCompact
import Derived.Lib.SliceRun
set_option linter.unusedSimpArgs false
set_option linter.unusedVariables false
set_option linter.all false
set_option maxHeartbeats 4000000
namespace Go.AI
open Go.Proofs
set_option maxRecDepth 20000
section
variable {E:Env} {K:Kn} {ρ:Nat→Nat→Loc} {w w':World}
theorem zrm {sh:Nat→Nat→Option Sh} {w3:World} {l:Loc} {ty n m:Nat} {xs ys:List (List I)} {olds news:List Value} {v':Value} (h:OwnAt K ρ sh w l (.arr ty 1 n xs true)) (ho:RepL K olds xs.flatten) (hn:RepL K news ys.flatten)
  (hy:∀d∈ys,d.length=1) (hm:ys.length=m) (hrow:w3.ownsRow 0 ty 1 v' (n+m) (olds++news)) (hg:w.grownBy w3 (Value.slice l.base n l.cap).ownBlock) (hat:zrZ w (.slice l.base n l.cap) v')
  (hfresh:∀b o,w.heap.size≤b→K b o=none) :
  ∃l':Loc,v'=.slice l'.base (n+m) l'.cap∧(∀(ρ':Nat→Nat→Loc) (sh':Nat→Nat→Option Sh),OwnAt K ρ' sh' w3 l' (.arr ty 1 (n+m) (xs++ys) true))∧Apnd K w w3 l l':=by
 have hel:∀d∈xs++ys,d.length=1:=fun d hd=>by
  rcases List.mem_append.1 hd with h1|h1
  ·exact h.1 d h1
  ·exact hy d h1
 have hlen:(xs++ys).length=n+m:=by simp[h.2.1,hm]
 have hbase:l.base=none∨l.base=some ⟨l.block,0,none⟩:=by
  rcases h.2.2.2.2 with ⟨_,h1⟩|⟨h1,_⟩
  ·exact .inl h1
  ·exact .inr h1
 have hold:∀b,b<w.heap.size→(l.base≠none→b≠l.block)→w3.heap[b]? = w.heap[b]?:=fun b hb hne=>hg.block b hb fun e=>by
  rcases hbase with h1|h1
  ·rw[h1] at e;simp[Value.ownBlock] at e
  ·rw[h1] at e;simp only[Value.ownBlock,Option.some.injEq] at e;exact hne (by rw[h1];simp) e
 rcases hrow.2 with ⟨rfl,h0⟩|⟨g,cap,cur,rfl,_,hg3,hnc,hcm,hcs,htake⟩
 ·refine⟨⟨0,0,none⟩,by rw[h0],fun ρ' sh'=>⟨hel,hlen,by simp only;omega,Nat.zero_le _,.inl ⟨rfl,rfl⟩⟩,⟨hg.size,hold,⟨hg.tape,hg.os,hg.output⟩,fun e=>absurd rfl e⟩⟩
 ·have hKg:∀o,K g o=none:=by
   rcases hat with h1|h1
   ·rcases hbase with h2|h2
    ·rw[h2] at h1;simp[Value.ownBlock] at h1
    ·rw[h2] at h1;simp only[Value.ownBlock,Option.some.injEq] at h1;subst h1;rcases h.2.2.2.2 with ⟨_,h3⟩|⟨_,c,_,_,_,h4,_⟩
     ·rw[h2] at h3;cases h3
     ·exact h4 rfl
   ·exact fun o=>hfresh g o (h1 g rfl)
  have htk:cur.toList.take ((n+m)*1)=olds++news:=htake;refine⟨⟨g,cap,some ⟨g,0,none⟩⟩,rfl,fun ρ' sh'=>⟨hel,hlen,hnc,hcm,.inr ⟨rfl,cur,hg3,hcs,?_,fun _ o=>hKg o,fun o _=>hKg o,fun e=>by cases e⟩⟩,⟨hg.size,hold,⟨hg.tape,hg.os,hg.output⟩,fun _=>?_⟩⟩
  ·rw[htk,List.flatten_append];exact ho.append hn
  ·rcases hat with h1|h1
   ·rcases hbase with h2|h2
    ·rw[h2] at h1;simp[Value.ownBlock] at h1
    ·rw[h2] at h1;simp only[Value.ownBlock,Option.some.injEq] at h1;exact .inr ⟨by rw[h2];simp,h1⟩
   ·exact .inl (h1 g rfl)
def zy0 (P:Program) (f:FuncId) (T ty:TypeId) (res x:Value) (news:List Value):Prop:=∀(b:Nat) (p v0:Value) (bs:List Value) (w:World),(p=.pointer none∨p=.pointer (some ⟨b,0,none⟩)) →
 w.heap[b]? = some (.cells #[p,v0] T (0,0))→w.ownsRow 0 ty 1 v0 bs.length bs→v0.ownBlock≠some b→bs.length+news.length≤140737488355328 →
 Calls P f #[.pointer (some ⟨b,0,none⟩),x] w fun e w'=>e=.returned res∧zut T ty b p v0 bs news w w'
def Wp (c:Cx) (o:Oper) (s:St) (f:FuncId) (args:List D) (s':St):Prop:=∀K ρ a w,Inv c.E K ρ s a w→(∃vs,(execOp a.eval o).run c.P w=(callFunc f vs.toArray).run c.P w∧RepDL K ρ (shape s.S) vs args) →
 ∀(next:Act→World→Prop) (Qe:Exit→Act→World→Prop),(∀v w' K' ρ',Inv c.E K' ρ' s' (a.put o.dst v) w' → next (a.put o.dst v) w')→o.wp c.P a w next Qe
theorem ziH {c:Cx} {s:St} {o:Oper} {f:FuncId} {t nm nm2 n m T ty:Nat} {dp dx rd:D} {x res:Value} {news:List Value} {xs ys:List (List I)} {H:Heap} {O:List Heap}
  (hspec:zy0 c.P f T ty res x news) (hent:∀args w,(callFunc f args).run c.P w=.ok (.enter f args) w) (hx:∀K ρ sh v,RepD K ρ sh v dx→v=x) (hr:∀K ρ sh,RepD K ρ sh res rd)
  (hdp:dp=.i (.v (.pointer none))∨dp=.own 0 nm 0 0) (ht:o.dst=some t) (hn:t<s.n) (hS:s.S=H::O) (hb:look H nm=some (.tb T [dp,.osl 0 nm2])) (ha:look H nm2=some (.arr ty 1 n xs true))
  (hne:nm≠nm2) (hnews:∀K,RepL K news ys.flatten) (hy:∀d∈ys,d.length=1) (hm:ys.length=m) (hlim:n+m≤140737488355328) :
  Wp c o s f [.own 0 nm 0 0,dx] {σ:=(t,rd)::zhq nm2 s.σ,S:=((nm,.tb T [.own 0 nm 0 0,.osl 0 nm2])::(nm2,.arr ty 1 (n+m) (xs++ys) true)::zbA nm2 ((nm,.tb T [.own 0 nm 0 0,.osl 0 nm2])::H))::O,n:=s.n}:=by
 intro K ρ a w hi ⟨vs,hrun,hrep⟩ next Qe hnext
 have hh:=hi.h;rw[hS] at hh hrep;have hob:zab (H::O) 0 nm=some (.tb T [dp,.osl 0 nm2]):=by simpa [zab] using hb
 have hoa:zab (H::O) 0 nm2=some (.arr ty 1 n xs true):=by simpa [zab] using ha
 have e0:(fun d n=>ρ (0+d) n)=ρ:=by funext d n;rw[Nat.zero_add]
 have s0:∀S:List Heap,shape (S.drop 0)=shape S:=fun S=>by rw[List.drop_zero]
 have hwb:=hh.own _ _ _ hob;rw[e0,s0] at hwb;obtain⟨cur,hc,hrc,hKb⟩:=hwb;have hwa:=hh.own _ _ _ hoa;rw[e0,s0] at hwa;obtain⟨olds,hro,hrow⟩:=zlR hwa;have hol:olds.length=n:=by simpa using hrow.1
 have hshb:shape (H::O) 0 nm=some .box:=by simp[shape,hob,Ob.sh]
 have hsha:shape (H::O) 0 nm2=some (.arr 1 n):=by simp[shape,hoa,Ob.sh]
 obtain⟨p,v0,hcur,hp,hv0⟩:∃p v0,cur = #[p,v0]∧RepD K ρ (shape (H::O)) p dp∧RepD K ρ (shape (H::O)) v0 (.osl 0 nm2):=by
  generalize hL:cur.toList=L at hrc
  cases hrc with
  |cons h1 h2=>cases h2 with
   |cons h3 h4=>cases h4;exact⟨_,_,Array.ext' (by rw[hL]),h1,h3⟩
 subst hcur;have hv0:=zc6 hv0 hsha;subst hv0;have hpp:p=.pointer none∨p=.pointer (some ⟨(ρ 0 nm).block,0,none⟩):=by
  rcases hdp with rfl|rfl
  ·exact .inl (zaS hp)
  ·exact .inr (zfT hp hshb)
 have hnb:(Value.slice (ρ 0 nm2).base n (ρ 0 nm2).cap).ownBlock≠some (ρ 0 nm).block:=by
  intro e;rcases hwa.2.2.2.2 with ⟨_,h1⟩|⟨h1,_⟩
  ·rw[h1] at e;simp[Value.ownBlock] at e
  ·rw[h1] at e;simp only[Value.ownBlock,Option.some.injEq] at e;exact hne (hh.inj 0 nm _ 0 nm2 _ hob hoa trivial (by show _≠none;rw[h1];simp) e.symm).2
 obtain⟨rfl⟩:vs=[.pointer (some ⟨(ρ 0 nm).block,0,none⟩),x]:=by
  cases hrep with
  |cons h1 h2=>cases h2 with
   |cons h3 h4=>cases h4;rw[zfT h1 hshb,hx _ _ _ _ h3]
 rw[hent] at hrun;simp only[Oper.wp,hrun,Oper.upon];have hml:news.length=m:=by
  have:=(hnews K).length;rw[this,zbO ys hy,hm];omega
 refine (hspec _ p _ olds w hpp hc (by rw[hol];exact hrow) hnb (by rw[hol,hml];exact hlim)).mono ?_;rintro e w' ⟨rfl,w1,w2,w3,v',h1,h2,hrow3,hgb,hat,rfl⟩;rw[hol,hml] at hrow3;have e1:(fun d n=>shape (H::O) (0+d) n)=shape (H::O):=by funext d n;rw[Nat.zero_add]
 have hcells:RepDL K (fun d n=>ρ (0+d) n) (fun d n=>shape (H::O) (0+d) n) [.pointer (some ⟨(ρ 0 nm).block,0,none⟩),.slice (ρ 0 nm2).base n (ρ 0 nm2).cap] [.own 0 nm 0 0,.osl 0 nm2]:=by
  rw[e0,e1];exact .cons (.box hshb) (.cons (.osl hsha) .nil)
 have hI1:HInv c.E K ρ (setAt (H::O) 0 nm (.tb T [.own 0 nm 0 0,.osl 0 nm2])) w1∧w1.heap[(ρ 0 nm).block]? = some (.cells #[.pointer (some ⟨(ρ 0 nm).block,0,none⟩),.slice (ρ 0 nm2).base n (ρ 0 nm2).cap] T (0,0)):=by
  rcases h1 with ⟨rfl,rfl⟩|⟨rfl,rfl⟩
  ·exact⟨hh.put hob rfl trivial trivial rfl (fun _ _=>rfl) ⟨rfl,rfl,rfl⟩ (fun o' x' hx'=>by rw[hKb] at hx';cases hx') ⟨_,hc,hcells,hKb⟩,hc⟩
  ·exact⟨hh.put hob rfl trivial trivial (by simp[World.setCell]) (fun b hb=>Go.Deep.blk_setCell_other w _ _ b hb) ⟨rfl,rfl,rfl⟩ (fun o' x' hx'=>by rw[hKb] at hx';cases hx') ⟨_,zhx hc,hcells,hKb⟩,zhx hc⟩
 obtain⟨hI1,hc1⟩:=hI1;have hI1:HInv c.E K ρ (((nm,.tb T [.own 0 nm 0 0,.osl 0 nm2])::H)::O) w1:=hI1;have hlt1:(ρ 0 nm).block<w1.heap.size:=by
  rcases Nat.lt_or_ge (ρ 0 nm).block w1.heap.size with h'|h'
  ·exact h'
  ·simp[Array.getElem?_eq_none h'] at hc1
 have hI2:HInv c.E K ρ (((nm,.tb T [.own 0 nm 0 0,.osl 0 nm2])::H)::O) w2∧w2.heap[(ρ 0 nm).block]? = some (.cells #[.pointer (some ⟨(ρ 0 nm).block,0,none⟩),.slice (ρ 0 nm2).base n (ρ 0 nm2).cap] T (0,0))∧w1.heap.size≤w2.heap.size:=by
  rcases h2 with rfl|⟨o',rfl⟩
  ·exact⟨hI1,hc1,Nat.le_refl _⟩
  ·exact⟨(HInv.grow (S:=((nm,.tb T [.own 0 nm 0 0,.osl 0 nm2])::H)::O) rfl hI1 (fun _ _ _ e=>e) (fun _ h=>by simp[look] at h) (zty hI1 (.inl rfl) o')).1,by rw[heap_alloc_old w1 o' hlt1];exact hc1,by simp[World.size_alloc]⟩
 obtain⟨hI2,hc2,hsz2⟩:=hI2;have hc3:w3.heap[(ρ 0 nm).block]? = some (.cells #[.pointer (some ⟨(ρ 0 nm).block,0,none⟩),.slice (ρ 0 nm2).base n (ρ 0 nm2).cap] T (0,0)):=by
  rw[hgb.block _ (by omega) (fun e=>hnb e.symm)];exact hc2
 have hlk:look ((nm,Ob.tb T [.own 0 nm 0 0,.osl 0 nm2])::H) nm2=some (.arr ty 1 n xs true):=by
  rw[zac,if_neg hne];exact ha
 have hoa2:zab (((nm,Ob.tb T [.own 0 nm 0 0,.osl 0 nm2])::H)::O) 0 nm2=some (.arr ty 1 n xs true):=by simpa [zab] using hlk
 have hob2:zab (((nm,Ob.tb T [.own 0 nm 0 0,.osl 0 nm2])::H)::O) 0 nm=some (.tb T [.own 0 nm 0 0,.osl 0 nm2]):=by simp[zab,zac]
 have hwa2:=hI2.own _ _ _ hoa2;rw[e0,s0] at hwa2;obtain⟨l',rfl,hown',hap⟩:=zrm hwa2 hro (hnews K) hy hm hrow3 hgb hat (fun b o hb=>hI2.K_fresh hb);have hKo:zaC (ρ 0 nm2) (.arr ty 1 n xs true)→∀o,K (ρ 0 nm2).block o=none:=by
  intro hbk;obtain⟨_,_,_,_,h5⟩:=hwa;rcases h5 with ⟨_,h6⟩|⟨_,c,_,_,_,h9,_⟩
  ·exact absurd h6 hbk
  ·exact h9 rfl
 obtain⟨hI3,hbut⟩:=hI2.renew (nm:=nm2) (dst:=nm2) hlk (by rw[zbN];simp) hap Iff.rfl (ob':=.arr ty 1 (n+m) (xs++ys) true) Iff.rfl hKo hown';generalize hS3:(((nm2,Ob.arr ty 1 (n+m) (xs++ys) true)::zbA nm2 ((nm,Ob.tb T [.own 0 nm 0 0,.osl 0 nm2])::H))::O)=S3 at hI3 hbut;have hob3:zab S3 0 nm=some (Ob.kill nm2 (.tb T [.own 0 nm 0 0,.osl 0 nm2])):=by
  rw[←hS3];simp only[zab,List.getElem?_cons_zero,zac,if_neg (Ne.symm hne),zbN,if_neg hne,if_true,Option.map_some]
 obtain⟨hb1,hb2⟩:=hbut 0 nm .box (.inr hne) (by simp[shape,hob2,Ob.sh]);have hsh3:shape S3 0 nm2=some (.arr 1 (n+m)):=by
  rw[←hS3];simp[shape,zab,zac,Ob.sh]
 have f0:(fun d n=>upd ρ nm2 l' (0+d) n)=upd ρ nm2 l':=by funext d n;rw[Nat.zero_add]
 have f1:(fun d n=>shape S3 (0+d) n)=shape S3:=by funext d n;rw[Nat.zero_add]
 have hcells3:RepDL K (fun d n=>upd ρ nm2 l' (0+d) n) (fun d n=>shape S3 (0+d) n) [.pointer (some ⟨(ρ 0 nm).block,0,none⟩),.slice l'.base (n+m) l'.cap] [.own 0 nm 0 0,.osl 0 nm2]:=by
  rw[f0,f1];have g1:=RepD.box (K:=K) (ρ:=upd ρ nm2 l') (off:=0) hb1;rw[hb2] at g1;have g2:=RepD.osl (K:=K) (ρ:=upd ρ nm2 l') hsh3;rw[zaP] at g2;exact .cons g1 (.cons g2 .nil)
 have hI4:HInv c.E K (upd ρ nm2 l') (setAt S3 0 nm (.tb T [.own 0 nm 0 0,.osl 0 nm2])) (w3.setCell ⟨(ρ 0 nm).block,1,none⟩ (.slice l'.base (n+m) l'.cap)):=by
  refine hI3.put hob3 rfl trivial trivial (by simp[World.setCell]) (fun b hb=>Go.Deep.blk_setCell_other w3 _ _ b (by rw[hb2] at hb;exact hb)) ⟨rfl,rfl,rfl⟩ (fun o' x' hx'=>by rw[hb2,hKb] at hx';cases hx') ⟨_,by rw[hb2];exact ztv hc3,hcells3,fun o=>by rw[hb2];exact hKb o⟩
 have hS4:setAt S3 0 nm (.tb T [.own 0 nm 0 0,.osl 0 nm2])=((nm,.tb T [.own 0 nm 0 0,.osl 0 nm2])::(nm2,.arr ty 1 (n+m) (xs++ys) true)::zbA nm2 ((nm,.tb T [.own 0 nm 0 0,.osl 0 nm2])::H))::O:=by rw[←hS3];rfl
 have hsh4:shape (setAt S3 0 nm (.tb T [.own 0 nm 0 0,.osl 0 nm2]))=shape S3:=zbv hob3 rfl;have hsh2:shape (((nm,Ob.tb T [.own 0 nm 0 0,.osl 0 nm2])::H)::O)=shape (H::O):=zbv (S:=H::O) hob rfl;rw[hS4] at hI4 hsh4;rw[hsh2] at hbut;refine hnext _ _ K (upd ρ nm2 l') ?_
 ·rw[ht];refine⟨hI4,hi.defers,by simp[Act.put];exact hi.size,fun t' d' e'=>?_⟩;rw[zcB (by rw[hi.size];exact hn)];simp only[zac] at e'
  split at e'
  ·rename_i e2;simp only[Option.some.injEq] at e';subst e';rw[if_pos e2];exact hr _ _ _
  ·rename_i e2;rw[if_neg e2];rw[zdf] at e'
   cases hls:look s.σ t' with
   |none=>simp[hls] at e'
   |some d0=>
    simp only[hls,Option.map_some,Option.some.injEq] at e';subst e';have hr:=hi.slots _ _ hls;rw[hS] at hr;show RepD _ _ (shape _) _ _;rw[hsh4];exact hr.kill hbut
end
section
variable {c:Cx} {s:St} {k:List Item} {ops:Array Oper} {rest:List Nat} {o:Oper}
theorem zb1 (hT:TOk c.P c.T) (hfn:c.P.funcs[c.f]? = some c.fn) {i t:Nat} {f:FuncId} {args:List D} {s':St} (ho:ops[i]? = some o) (hg:o.guard=none) (hd:o.dst=some t) (hex:exec c.T s o=.call f args) (hw:Wp c o s f args s')
  (h:GM c (run c.T c.stop 1000 (.inRegion ops rest::k) s')):GM c (.pause ops i rest o s k):=by
 have hk:RG c ops rest s' k:=za4 hT hfn 1000 (.inRegion ops rest::k) _ h.h;refine⟨?_⟩;intro K ρ a w hi;simp only[wpOps,ho,zcq hi (show zaQ ops s o=some true by unfold zaQ;rw[hg]),if_true];refine .inl (hw K ρ a w hi ?_ _ _ fun v w' K' ρ' hi'=>hk K' ρ' _ w' hi');have:=zjB hT hi.h (.inl hd) fun x _=>hi.ev x;rw[hex] at this;exact this
end
section
def u8l (l:List UInt8):List (List I):=l.map fun b=>[.v (.int .u8 b.toNat)]
theorem ziT:∀l:List UInt8,(u8l l).flatten=l.map fun b=>I.v (.int .u8 b.toNat)
 |[]=>rfl
 |b::r=>by
  have:=ziT r;unfold u8l at this ⊢;rw[List.map_cons,List.flatten_cons,this];rfl
theorem zwT (l:List UInt8):∀d∈u8l l,d.length=1:=fun d hd=>by
 unfold u8l at hd;obtain⟨b,_,rfl⟩:=List.mem_map.1 hd;rfl
theorem zlA (K:Kn):∀l:List UInt8,RepL K (l.map fun b=>Value.int .u8 b.toNat) (u8l l).flatten
 |[]=>.nil
 |b::r=>by
  have:=zlA K r;rw[ziT] at this ⊢;exact .cons (.v rfl) this
theorem zkg {K:Kn}:∀{vs:List Value} {l:List Value},RepL K vs (l.map I.v)→vs=l
 |_,[],h=>by cases h;rfl
 |_,x::r,h=>by
  cases h with
  |cons h1 h2=>
   rw[zkg h2]
   cases h1
   rfl
theorem zxx (a b:List UInt8):u8l a++u8l b=u8l (a++b):=by simp[u8l]
def zzR (P:Program) (f:FuncId) (T ty:TypeId):Prop:=∀(b:Nat) (p v:Value) (l:List UInt8) (w:World),w.heap[b]? = some (.cells #[p,v] T (0,0))→w.ownsRow 0 ty 1 v l.length (Lib.byteCells l)→l≠[] →
 Calls P f #[.pointer (some ⟨b,0,none⟩)] w fun e w'=>e=.returned (.string ⟨l.toArray⟩)∧∃g,v.ownBlock=some g∧w'=w.drew.freeze ⟨g,0,none⟩ l.length
theorem zkS (w:World) (g n k:Nat) (h:k≠g):(w.freeze ⟨g,0,none⟩ n).heap[k]? = w.heap[k]?:=by
 unfold World.freeze
 split<;>simp[Array.getElem?_modify,Array.getElem?_setIfInBounds,Ne.symm h]
theorem zma (w:World) (g n:Nat):(w.freeze ⟨g,0,none⟩ n).tape=w.tape∧(w.freeze ⟨g,0,none⟩ n).os=w.os∧(w.freeze ⟨g,0,none⟩ n).output=w.output∧(w.freeze ⟨g,0,none⟩ n).heap.size=w.heap.size:=by
 unfold World.freeze
 split<;>simp
theorem zt3 {c:Cx} {s:St} {o:Oper} {f:FuncId} {t nm nm2 T ty:Nat} {dp:D} {l:List UInt8} {H:Heap} {O:List Heap}
  (hspec:zzR c.P f T ty) (hent:∀args w,(callFunc f args).run c.P w=.ok (.enter f args) w) (h0:l≠[])
  (ht:o.dst=some t) (hn:t<s.n) (hS:s.S=H::O) (hb:look H nm=some (.tb T [dp,.osl 0 nm2])) (ha:look H nm2=some (.arr ty 1 l.length (u8l l) true)) :
  Wp c o s f [.own 0 nm 0 0] {σ:=(t,.i (.v (.string ⟨l.toArray⟩)))::zhq nm2 s.σ,S:=((nm2,.arr ty 1 0 [] true)::zbA nm2 H)::O,n:=s.n}:=by
 intro K ρ a w hi ⟨vs,hrun,hrep⟩ next Qe hnext
 have hh:=hi.h;rw[hS] at hh hrep;have hob:zab (H::O) 0 nm=some (.tb T [dp,.osl 0 nm2]):=by simpa [zab] using hb
 have hoa:zab (H::O) 0 nm2=some (.arr ty 1 l.length (u8l l) true):=by simpa [zab] using ha
 have e0:(fun d n=>ρ (0+d) n)=ρ:=by funext d n;rw[Nat.zero_add]
 have s0:∀S:List Heap,shape (S.drop 0)=shape S:=fun S=>by rw[List.drop_zero]
 have hwb:=hh.own _ _ _ hob;rw[e0,s0] at hwb;obtain⟨cur,hc,hrc,hKb⟩:=hwb;have hwa:=hh.own _ _ _ hoa;rw[e0,s0] at hwa;obtain⟨olds,hro,hrow⟩:=zlR hwa;have hold:olds=Lib.byteCells l:=by
  rw[ziT] at hro;have:(l.map fun b=>I.v (.int .u8 b.toNat))=(l.map fun b=>Value.int .u8 b.toNat).map I.v:=by rw[List.map_map];rfl
  rw[this] at hro;exact zkg hro
 subst hold;have hshb:shape (H::O) 0 nm=some .box:=by simp[shape,hob,Ob.sh]
 have hsha:shape (H::O) 0 nm2=some (.arr 1 l.length):=by simp[shape,hoa,Ob.sh]
 obtain⟨p,v0,hcur,hv0⟩:∃p v0,cur = #[p,v0]∧RepD K ρ (shape (H::O)) v0 (.osl 0 nm2):=by
  generalize hL:cur.toList=L at hrc
  cases hrc with
  |cons h1 h2=>cases h2 with
   |cons h3 h4=>cases h4;exact⟨_,_,Array.ext' (by rw[hL]),h3⟩
 subst hcur;have hv0:=zc6 hv0 hsha;subst hv0;obtain⟨rfl⟩:vs=[.pointer (some ⟨(ρ 0 nm).block,0,none⟩)]:=by
  cases hrep with
  |cons h1 h2=>cases h2;rw[zfT h1 hshb]
 rw[hent] at hrun;simp only[Oper.wp,hrun,Oper.upon];refine (hspec _ p _ l w hc hrow h0).mono ?_;rintro e w' ⟨rfl,g,hgb,rfl⟩;obtain⟨r1,r2,r3,r4⟩:=zma w.drew g l.length;have hbase:(ρ 0 nm2).base=some ⟨(ρ 0 nm2).block,0,none⟩:=by
  rcases hwa.2.2.2.2 with ⟨_,h1⟩|⟨h1,_⟩
  ·rw[h1] at hgb;simp[Value.ownBlock] at hgb
  ·exact h1
 have hgb:(ρ 0 nm2).block=g:=by rw[hbase] at hgb;simpa [Value.ownBlock] using hgb
 subst hgb;have hKo:zaC (ρ 0 nm2) (.arr ty 1 l.length (u8l l) true)→∀o,K (ρ 0 nm2).block o=none:=by
  intro hbk;obtain⟨_,_,_,_,h5⟩:=hwa;rcases h5 with ⟨_,h6⟩|⟨_,c,_,_,_,h9,_⟩
  ·exact absurd h6 hbk
  ·exact h9 rfl
 let l0:Loc:=⟨0,0,none⟩
 have hap:Apnd K w (w.drew.freeze ⟨(ρ 0 nm2).block,0,none⟩ l.length) (ρ 0 nm2) l0:=by
  refine⟨Nat.le_of_eq r4.symm,fun b _ hne=>?_,⟨r1,r2,r3⟩,fun e=>absurd rfl e⟩;exact zkS w.drew _ _ _ (hne (by rw[hbase];simp))
 obtain⟨hI3,hbut⟩:=hh.renew (nm:=nm2) (dst:=nm2) ha (by rw[zbN];simp) hap Iff.rfl (ob':=.arr ty 1 0 [] true) Iff.rfl hKo (fun ρ' sh'=>⟨by simp,rfl,Nat.le_refl _,by simp[l0],.inl ⟨rfl,rfl⟩⟩);refine hnext _ _ K (upd ρ nm2 l0) ?_
 ·rw[ht];refine⟨hI3,hi.defers,by simp[Act.put];exact hi.size,fun t' d' e'=>?_⟩;rw[zcB (by rw[hi.size];exact hn)];simp only[zac] at e'
  split at e'
  ·rename_i e2;simp only[Option.some.injEq] at e';subst e';rw[if_pos e2];exact .i (.v rfl)
  ·rename_i e2;rw[if_neg e2];rw[zdf] at e'
   cases hls:look s.σ t' with
   |none=>simp[hls] at e'
   |some d0=>
    simp only[hls,Option.map_some,Option.some.injEq] at e';subst e';have hr:=hi.slots _ _ hls;rw[hS] at hr;exact hr.kill hbut
end
end Go.AI
namespace Go.AI
open Go.Proofs
section
variable {P:Program} {T:TT} {E:Env} {K:Kn} {ρ:Nat→Nat→Loc} {S:List Heap} {w:World} {dst:Nat}
theorem zzn (hw:HInv E K ρ S w) (hf:zab S 0 dst=none) {cs:List Value} {ds:List D} (hr:RepDL K ρ (shape S) cs ds) (ty:TypeId) :
  ∃l,Grow K ρ S w [(dst,.tb ty ds)] K (upd ρ dst l) (w.alloc (.cells cs.toArray ty))∧RepD K (upd ρ dst l) (shape (addS S [(dst,.tb ty ds)])) (.pointer (some ⟨w.heap.size,0,none⟩)) (.own 0 dst 0 0):=by
 have hst:=zj5 (K:=K) (ρ:=ρ) hf (.tb ty ds) ⟨w.heap.size,0,none⟩;refine⟨⟨w.heap.size,0,none⟩,zfZ hw hf (.inl rfl) (fun _=>rfl) ⟨cs.toArray,heap_alloc_new w _,by simpa using hr.stays hst,fun o=>hw.K_fresh (Nat.le_refl _)⟩,?_⟩;have hsh:shape (addS S [(dst,.tb ty ds)]) 0 dst=some .box:=by
  cases S with
  |nil=>simp[shape,addS,zab,zac,Ob.sh]
  |cons H O=>simp[shape,zbx,zac,Ob.sh]
 have:=RepD.box (K:=K) (ρ:=upd ρ dst ⟨w.heap.size,0,none⟩) (off:=0) hsh;rwa [zaP] at this
end
section
variable {c:Cx} {s:St} {k:List Item} {ops:Array Oper} {rest:List Nat} {o:Oper}
theorem g_tb (hT:TOk c.P c.T) (hfn:c.P.funcs[c.f]? = some c.fn) {i t nm:Nat} {ti:TI} {H:Heap} {O:List Heap} (ho:ops[i]? = some o) (hop:o.op=.alloc t) (hd:o.dst=some nm) (hg:o.guard=none) (hn:Nat.ble (nm+1) s.n=true) (hi:look c.T t=some ti)
  (hS:s.S=H::O) (hf:look H nm=none) (h:GM c (run c.T c.stop 1000 (.inRegion ops rest::k) {σ:=(nm,.own 0 nm 0 0)::s.σ,S:=((nm,.tb t (ti.zero.map fun v=>.i (.v v)))::H)::O,n:=s.n})) :
  GM c (.pause ops i rest o s k):=by
 refine⟨?_⟩;have hk:RG c ops rest {σ:=(nm,.own 0 nm 0 0)::s.σ,S:=((nm,.tb t (ti.zero.map fun v=>.i (.v v)))::H)::O,n:=s.n} k:=za4 hT hfn 1000 (.inRegion ops rest::k) _ h.h;refine zvC ho (by unfold zaQ;rw[hg]) ?_;intro K ρ a w hinv next Qe hnext
 have hok:=hT _ _ hi;have hh:=hinv.h;rw[hS] at hh;obtain⟨inf,h1,h2,h3,z,h4,h5,-⟩:=hok.info;have hf':zab (H::O) 0 nm=none:=by simpa [zab] using hf
 obtain⟨l,g,r⟩:=zzn (dst:=nm) hh hf' (zi9 hok.one) t;have hz:z.cells=ti.zero.toArray:=by rw[←h5]
 have hrun:(execOp a.eval o).run c.P w=.ok (.value (.pointer (some ⟨w.heap.size,0,none⟩))) (w.alloc (.cells ti.zero.toArray t)):=by
  simp[execOp,hop,Instr.alloc,zeroValue,typeInfo,h1,h4,newVar,newRow,hz]
 simp only[Oper.wp,hrun,Oper.upon];obtain⟨hI,hst⟩:=HInv.grow (S:=H::O) rfl hh (fun _ _ _ e=>e) (fun n' h=>by
  cases hl:look [(nm,Ob.tb t (ti.zero.map fun v=>.i (.v v)))] n' with
  |none=>exact absurd hl h
  |some ob=>obtain⟨rfl,rfl⟩:=zaU hl;exact hf) g
 refine hnext _ _ _ _ _ hst.le (fun d n x _ e=>⟨hst.shp _ _ _ (by rw[hS] at e;exact e),hst.loc _ _ _ (by rw[hS] at e;exact e)⟩) ?_ hk;rw[hd];refine zeR hinv (Nat.le_of_ble_eq_true hn) hI ?_ r;rw[hS];exact hst
theorem zvg (b nm e z:Nat) {T:Nat} {x:D} {H:Heap} {O:List Heap} (hS:s.S=H::O) (hb:look H b=some (.tb T [x,.i (.v (.slice none 0 0))])) (hf:look H nm=none):Wk c s {σ:=s.σ,S:=((b,.tb T [x,.osl 0 nm])::(nm,.arr e z 0 [] true)::H)::O,n:=s.n}:=by
 intro K ρ a w hi;have hh:=hi.h;rw[hS] at hh
 let l0:Loc:=⟨0,0,none⟩
 have hown:∀ρ' sh',OwnAt K ρ' sh' w l0 (.arr e z 0 [] true):=fun ρ' sh'=>⟨by simp,rfl,Nat.le_refl _,by simp[l0],.inl ⟨rfl,rfl⟩⟩;have hg:Grow K ρ (H::O) w [(nm,.arr e z 0 [] true)] K (upd ρ nm l0) w:=by
  refine⟨K.le_refl,fun _ _ _ h=>.inl h,Nat.le_refl _,fun _ _=>rfl,⟨rfl,rfl,rfl⟩,fun d n' h=>?_,hh.holds,fun n' ob e'=>?_,fun n1 o1 n2 o2 e1 e2 b1 b2 _=>?_⟩
  ·refine zaL _ _ _ (h.imp id fun h e'=>?_);subst e';simp[zac] at h
  ·obtain⟨rfl,rfl⟩:=zaU e';rw[zaP];exact⟨hown _ _,fun hb=>absurd rfl hb⟩
  ·obtain⟨rfl,rfl⟩:=zaU e1;obtain⟨rfl,rfl⟩:=zaU e2;rfl
 obtain⟨hI,hst⟩:=HInv.grow (S:=H::O) rfl hh (fun _ _ _ e=>e) (fun n' h=>by
  cases hl:look [(nm,Ob.arr e z 0 [] true)] n' with
  |none=>exact absurd hl h
  |some ob=>obtain⟨rfl,rfl⟩:=zaU hl;exact hf) hg
 have hbn:nm≠b:=fun e'=>by subst e';rw[hf] at hb;cases hb
 have hI:HInv c.E K (upd ρ nm l0) (((nm,.arr e z 0 [] true)::H)::O) w:=hI;have hob:zab (((nm,.arr e z 0 [] true)::H)::O) 0 b=some (.tb T [x,.i (.v (.slice none 0 0))]):=by
  simp only[zab,List.getElem?_cons_zero,zac,if_neg hbn];exact hb
 have hwb:=hI.own _ _ _ hob;have e0:(fun d n=>upd ρ nm l0 (0+d) n)=upd ρ nm l0:=by funext d n;rw[Nat.zero_add]
 have e1:(fun d n=>shape (((nm,Ob.arr e z 0 [] true)::H)::O) (0+d) n)=shape (((nm,Ob.arr e z 0 [] true)::H)::O):=by funext d n;rw[Nat.zero_add]
 obtain⟨cur,hc,hrc,hKb⟩:=hwb;rw[e0,List.drop_zero] at hrc;have hnew:RepDL K (fun d n=>upd ρ nm l0 (0+d) n) (fun d n=>shape (((nm,Ob.arr e z 0 [] true)::H)::O) (0+d) n) cur.toList [x,.osl 0 nm]:=by
  rw[e0,e1];generalize cur.toList=L at hrc
  cases hrc with
  |cons h1 h2=>cases h2 with
   |cons h3 h4=>
    cases h4
    rw[zaS h3];have:=RepD.osl (K:=K) (ρ:=upd ρ nm l0) (sh:=shape (((nm,Ob.arr e z 0 [] true)::H)::O)) (dep:=0) (nm:=nm) (es:=z) (len:=0) (by simp[shape,zab,zac,Ob.sh]);rw[zaP] at this;exact .cons h1 (.cons this .nil)
 have hI2:=hI.put (ob':=.tb T [x,.osl 0 nm]) hob rfl trivial trivial (w':=w) rfl (fun _ _=>rfl) ⟨rfl,rfl,rfl⟩ (fun o' x' hx'=>by rw[hKb] at hx';cases hx') ⟨cur,hc,hnew,hKb⟩;have hsh:shape (setAt (((nm,Ob.arr e z 0 [] true)::H)::O) 0 b (.tb T [x,.osl 0 nm]))=shape (((nm,Ob.arr e z 0 [] true)::H)::O):=zbv hob rfl;refine⟨K,upd ρ nm l0,hI2,hi.defers,hi.size,fun t' d e'=>?_⟩;have:=hi.slots _ _ e';rw[hS] at this;show RepD K _ (shape (((b,.tb T [x,.osl 0 nm])::(nm,.arr e z 0 [] true)::H)::O)) _ _;have hsh:shape (((b,.tb T [x,.osl 0 nm])::(nm,.arr e z 0 [] true)::H)::O)=shape (((nm,Ob.arr e z 0 [] true)::H)::O):=hsh;rw[hsh];exact this.stays hst
end
end Go.AI
namespace Go.Proofs
open Go.Shelf Go.RowKit
theorem zzc:(Tryz.prog.info? 277).map (·.size)=some 2:=by kernel_rfl
theorem zz0:liesAt Tryz.prog Tryz.prog.depth 277 (2/Tryz.prog.cellsOf 277) 0 277 1=true:=by kernel_rfl
set_option maxRecDepth 100000 in
theorem zwM (b:Nat) (w:World) (h0:w.cell? ⟨b,0,none⟩=some (.pointer (some ⟨b,0,none⟩))) :
  Calls Tryz.prog 218 #[.pointer (some ⟨b,0,none⟩)] w fun e w'=>e=.returned (.tuple #[])∧w'=w:=by
 obtain⟨j,hj,_⟩:=Option.map_eq_some_iff.1 zzc;have u72:=run_underlying Tryz.underlying277;have u70:=run_underlying Tryz.underlying275;have u4:=run_underlying Tryz.underlying4;have u164:=run_underlying Tryz.underlying371
 go_enter Tryz.func218,Tryz.ntmps218
 go_wp2
 rw[Lib.run_neq_ptr_same w _ Tryz.underlying275 hj]
 go_wp2
 go_end0
 exact⟨rfl,rfl⟩
set_option maxRecDepth 100000 in
theorem zue (b:Nat) (w:World) (h0:w.cell? ⟨b,0,none⟩=some (.pointer none)) (hsh:w.shape? b=some (277,2)) (hfz:w.frozen? ⟨b,0,none⟩=false) :
  Calls Tryz.prog 218 #[.pointer (some ⟨b,0,none⟩)] w fun e w'=>e=.returned (.tuple #[])∧w'=w.setCell ⟨b,0,none⟩ (.pointer (some ⟨b,0,none⟩)):=by
 obtain⟨j,hj,hjs⟩:=Option.map_eq_some_iff.1 zzc;have u72:=run_underlying Tryz.underlying277;have u70:=run_underlying Tryz.underlying275;have u4:=run_underlying Tryz.underlying4;have u164:=run_underlying Tryz.underlying371
 go_enter Tryz.func218,Tryz.ntmps218
 go_wp2
 rw[Lib.run_to_unsafe w ⟨b,0,none⟩ Tryz.underlying275 Tryz.underlying371 hj (by rw[hjs];decide) hsh (Nat.zero_lt_succ 1)];simp only[Result.andThen];rw[Oper.upon_value]
 go_wp2
 rw[run_callFunc_extern Tryz.func251 (by kernel_rfl) (by kernel_rfl) (by kernel_rfl) (e:=Extern.AbiNoEscape.same) (by kernel_rfl)];rw[Lib.run_noEscape];simp only[Result.andThen];rw[Oper.upon_value]
 go_wp2
 rw[Lib.run_from_unsafe w ⟨b,0,none⟩ Tryz.underlying371 Tryz.underlying275 hj hsh zz0];simp only[Result.andThen];rw[Oper.upon_value]
 go_wp2
 go_end0
 exact⟨rfl,rfl⟩
theorem zgj (b:Nat) (p v:Value) (bs:List Value) (w:World) (hp:p=.pointer none∨p=.pointer (some ⟨b,0,none⟩)) (hbk:w.heap[b]? = some (.cells #[p,v] 277 (0,0)))
  (hrow:w.ownsRow 0 5 1 v bs.length bs) (hne:v.ownBlock≠some b) :
  Calls Tryz.prog 218 #[.pointer (some ⟨b,0,none⟩)] w fun e w'=>e=.returned (.tuple #[])∧(w'.heap[b]? = some (.cells #[.pointer (some ⟨b,0,none⟩),v] 277 (0,0))∧w'.ownsRow 0 5 1 v bs.length bs) ∧
   ((w'=w∧p=.pointer (some ⟨b,0,none⟩))∨(w'=w.setCell ⟨b,0,none⟩ (.pointer (some ⟨b,0,none⟩))∧p=.pointer none)):=by
 have hc:w.cell? ⟨b,0,none⟩=some p:=by rw[Lib.cell_of_heap hbk];rfl
 rcases hp with rfl|rfl
 ·have hsh:w.shape? b=some (277,2):=by simp[World.shape?,hbk]
  refine (zue b w hc hsh (Lib.frozen_of_heap hbk 0)).mono ?_;rintro e w' ⟨rfl,rfl⟩;exact⟨rfl,⟨zhx hbk,zqF hrow fun k hk=>Go.Deep.blk_setCell_other w _ _ k fun e=>hne (by rw[hk,e])⟩,.inr ⟨rfl,rfl⟩⟩
 ·refine (zwM b w hc).mono ?_;rintro e w' ⟨rfl,rfl⟩;exact⟨rfl,⟨hbk,hrow⟩,.inl ⟨rfl,rfl⟩⟩
set_option maxRecDepth 100000 in
theorem zuk (b:Nat) (p v0:Value) (bs:List Value) (s:ByteArray) (w:World) (hp:p=.pointer none∨p=.pointer (some ⟨b,0,none⟩)) (hbk0:w.heap[b]? = some (.cells #[p,v0] 277 (0,0)))
  (hrow:w.ownsRow 0 5 1 v0 bs.length bs) (hne:v0.ownBlock≠some b) (hlen:bs.length+s.size≤140737488355328) :
  Calls Tryz.prog 155 #[.pointer (some ⟨b,0,none⟩),.string s] w fun e w'=>e=.returned (.tuple #[.int .i64 s.size,.nilIface])∧zut 277 5 b p v0 bs (Lib.strCells s) w w':=by
 obtain⟨i0,hi,hz0,hz1,hz2⟩:=info_parts Tryz.Builder_Extra_169.infoByte;have u72:=run_underlying Tryz.underlying277;have u70:=run_underlying Tryz.underlying275;have u37:=run_underlying Tryz.underlying71;have u9:=run_underlying Tryz.underlying9;have u4:=run_underlying Tryz.underlying4;have u5:=run_underlying Tryz.underlying5;have u3:=run_underlying Tryz.underlying3;have e240:∀args w,(callFunc 218 args).run Tryz.prog w=.ok (.enter 218 args) w:=Tryz.call218
 go_enter Tryz.func155,Tryz.ntmps155
 go_wp2_with (go_at_fn 218;refine (zgj b p v0 bs _ hp hbk0 hrow hne).mono ?_)
 rintro e w1 ⟨rfl,⟨hbk,hown⟩,hb1⟩;have c0:w1.cell? ⟨b,0,none⟩=some (.pointer (some ⟨b,0,none⟩)):=by rw[Lib.cell_of_heap hbk];rfl
 have c1:w1.cell? ⟨b,1,none⟩=some v0:=by rw[Lib.cell_of_heap hbk];rfl
 have hlt:b<w1.heap.size:=by
  rcases Nat.lt_or_ge b w1.heap.size with h'|h'
  ·exact h'
  ·simp[Array.getElem?_eq_none h'] at hbk
 go_wp2_with (at_builtin;refine zhR _ rfl _ _ 71 9 rfl 5 i0 Tryz.underlying71 Tryz.underlying9 hi hz0 hz1 hz2 _ _ _ rfl hown s rfl ?c3 ?c4 ?_)
 case c3=>unfold maxLen;omega
 case c4=>omega
 intro v' w2 hown' hgrow hat;have hb2:w2.heap[b]? = some (.cells #[.pointer (some ⟨b,0,none⟩),v0] 277 (0,0)):=by
  rw[hgrow.block b hlt (fun e=>hne e.symm)];exact hbk
 have d0:w2.cell? ⟨b,0,none⟩=some (.pointer (some ⟨b,0,none⟩)):=by rw[Lib.cell_of_heap hb2];rfl
 have d1:w2.cell? ⟨b,1,none⟩=some v0:=by rw[Lib.cell_of_heap hb2];rfl
 have f1:w2.frozen? ⟨b,1,none⟩=false:=Lib.frozen_of_heap hb2 1;have hfin:zut 277 5 b p v0 bs (Lib.strCells s) w (w2.setCell ⟨b,1,none⟩ v'):=⟨w1,w1,w2,v',hb1,.inl rfl,by simpa [Lib.strCells_length] using hown',hgrow,hat,rfl⟩;obtain⟨ao,n',cap,rfl⟩:∃ao n' cap,v'=.slice ao n' cap:=by
  rcases hown'.2 with ⟨hv,_⟩|⟨g,cap,cur,hv,_⟩
  ·exact⟨_,_,_,hv⟩
  ·exact⟨_,_,_,hv⟩
 go_wp2
 go_ret2
 exact⟨rfl,hfin⟩
set_option maxRecDepth 100000 in
theorem zmD (b:Nat) (p v0:Value) (bs:List Value) (c:Int) (w:World) (hp:p=.pointer none∨p=.pointer (some ⟨b,0,none⟩)) (hbk0:w.heap[b]? = some (.cells #[p,v0] 277 (0,0)))
  (hrow:w.ownsRow 0 5 1 v0 bs.length bs) (hne:v0.ownBlock≠some b) (hlen:bs.length+1≤140737488355328) :
  Calls Tryz.prog 156 #[.pointer (some ⟨b,0,none⟩),.int .u8 c] w fun e w'=>e=.returned .nilIface∧zut 277 5 b p v0 bs [.int .u8 c] w w':=by
 obtain⟨i0,hi,hz0,hz1,hz2⟩:=info_parts Tryz.Builder_Extra_169.infoByte;have u72:=run_underlying Tryz.underlying277;have u70:=run_underlying Tryz.underlying275;have u37:=run_underlying Tryz.underlying71;have u4:=run_underlying Tryz.underlying4;have u5:=run_underlying Tryz.underlying5;have e240:∀args w,(callFunc 218 args).run Tryz.prog w=.ok (.enter 218 args) w:=Tryz.call218
 go_enter Tryz.func156,Tryz.ntmps156
 go_wp2_with (go_at_fn 218;refine (zgj b p v0 bs _ hp hbk0 hrow hne).mono ?_)
 rintro e w1 ⟨rfl,⟨hbk,hown⟩,hb1⟩;have c0:w1.cell? ⟨b,0,none⟩=some (.pointer (some ⟨b,0,none⟩)):=by rw[Lib.cell_of_heap hbk];rfl
 have c1:w1.cell? ⟨b,1,none⟩=some v0:=by rw[Lib.cell_of_heap hbk];rfl
 have hlt:b<w1.heap.size:=by
  rcases Nat.lt_or_ge b w1.heap.size with h'|h'
  ·exact h'
  ·simp[Array.getElem?_eq_none h'] at hbk
 go_wp2_with (at_builtin;refine zhS _ rfl _ _ 71 rfl 5 i0 Tryz.underlying71 hi hz0 hz1 hz2 _ _ _ rfl (hown.alloc _) ⟨w1.heap.size,0,none⟩ 1 1 [.int .u8 c] rfl rfl ?c1 ?c2 ?c3 ?c4 ?_)
 case c1=>
  intro j u hj
  match j,hj with
  |0,hj=>simp at hj;subst hj;simp[Addr.add]
 case c2=>intro u hu;simp at hu;subst hu;rfl
 case c3=>unfold maxLen;omega
 case c4=>omega
 intro v' w2 hown' hgrow hat;have hb2:w2.heap[b]? = some (.cells #[.pointer (some ⟨b,0,none⟩),v0] 277 (0,0)):=by
  rw[hgrow.block b (by simp;omega) (fun e=>hne e.symm),Lib.alloc_old w1 _ b hlt];exact hbk
 have d0:w2.cell? ⟨b,0,none⟩=some (.pointer (some ⟨b,0,none⟩)):=by rw[Lib.cell_of_heap hb2];rfl
 have d1:w2.cell? ⟨b,1,none⟩=some v0:=by rw[Lib.cell_of_heap hb2];rfl
 have f1:w2.frozen? ⟨b,1,none⟩=false:=Lib.frozen_of_heap hb2 1;have hfin:zut 277 5 b p v0 bs [.int .u8 c] w (w2.setCell ⟨b,1,none⟩ v'):=⟨w1,_,w2,v',hb1,.inr ⟨_,rfl⟩,by simpa using hown',hgrow,hat,rfl⟩;obtain⟨g,cap,rfl⟩:∃g cap,v'=.slice (some ⟨g,0,none⟩) (bs.length+1) cap:=by
  rcases hown'.2 with ⟨_,h0⟩|⟨g,cap,cur,hv,_⟩
  ·omega
  ·exact⟨g,cap,hv⟩
 go_wp2
 go_ret
 exact⟨rfl,hfin⟩
end Go.Proofs
namespace Go.AI
open Go.Proofs
theorem zxs (s:ByteArray):zy0 Tryz.prog 155 277 5 (.tuple #[.int .i64 s.size,.nilIface]) (.string s) (Lib.strCells s):=
 fun b p v0 bs w hp hbk hrow hne hlen=>zuk b p v0 bs s w hp hbk hrow hne (by rw[Lib.strCells_length] at hlen;exact hlen)
theorem zve (c:Int):zy0 Tryz.prog 156 277 5 .nilIface (.int .u8 c) [.int .u8 c]:=
 fun b p v0 bs w hp hbk hrow hne hlen=>zmD b p v0 bs c w hp hbk hrow hne (by simpa using hlen)
theorem zxE:zzR Tryz.prog 157 277 5:=fun b p v l w hbk hown h0=>zrh Tryz.lays169 Tryz.Builder_Extra_169 b p v l w hbk hown h0
end Go.AI
namespace Go.Proofs
open Go.Shelf Go.RowKit
end Go.Proofs
namespace Go.Proofs
open Go.Shelf Go.RowKit
end Go.Proofs
namespace Go.AI
open Go.Proofs
end Go.AI
namespace Go.AI
open Go.Proofs
set_option maxRecDepth 20000
def zlI (l:List Int) (n:Nat):List Int:=((List.range n).map fun (i:Nat)=>(i:Int)).filter fun x=>decide (x∈l)
def stp3 (es:List Edg) (s ev:Int):Int:=match es with
 |[]=>-1
 |x::r=>if x.1=s∧x.2.1=ev then x.2.2 else stp3 r s ev
end Go.AI
namespace Go.AI
structure autOk (a:Aut):Prop where
 ed:a.edges.length≤1000000
 al:a.alpha.length≤1000000
 mkd:a.marked.length≤1000000
 chk:chkA a=0
end Go.AI
namespace Go.AI
open Go.Proofs
set_option maxRecDepth 20000
structure fOk (n:Int) (out:List Int):Prop where
 nd:out.Nodup
 b:∀x∈out,0≤x∧x<n
end Go.AI
namespace Go.AI
def rvB (p:Int→Bool) (s:Int):List Edg→List Int→List Int
 |[],l=>l
 |e::r,l=>rvB p s r (if e.1=s∧p e.2.1=true∧e.2.2 ∉ l then l++[e.2.2] else l)
def rlB (es:List Edg) (p:Int→Bool):Nat→Nat→List Int→List Int
 |0,_,l=>l
 |f+1,i,l=>match l[i]? with
  |none=>l
  |some s=>rlB es p f (i+1) (rvB p s es l)
def zzg (es:List Edg) (p:Int→Bool) (n:Nat) (l:List Int):List Int:=rlB es p (l.length+n) 0 l
def clo (es:List Edg) (p:Int→Bool) (n:Nat) (l:List Int):List Int:=zlI (zzg es p n l) n
structure grOk (n:Nat) (fr l:List Int):Prop where
 ex:∃ad,l=fr++ad∧fOk n ad
inductive Rc (es:List Edg) (p:Int→Bool) (l:List Int):Int→Prop
 |base {x:Int}:x∈l→Rc es p l x
 |step {e:Edg}:Rc es p l e.1→e∈es→p e.2.1=true→Rc es p l e.2.2
def zds (l:List Int):List Int:=l.mergeSort fun x y=>decide (x≤y)
theorem zgT (l:List Int):(zds l).length=l.length:=by unfold zds;exact List.length_mergeSort l
theorem zvs (l:List Int):(zds l).Pairwise (· ≤ ·):=by
 unfold zds;have:=List.pairwise_mergeSort (le:=fun x y:Int=>decide (x≤y)) (fun a b c h1 h2=>by simp only[decide_eq_true_eq] at *;omega) (fun a b=>by simp only[Bool.or_eq_true,decide_eq_true_eq];omega) l;exact this.imp fun {a b} h=>of_decide_eq_true h
end Go.AI
namespace Go.AI
open Go.Proofs
set_option maxRecDepth 20000
structure Moved (E0 E:Env) (nm:Nat):Prop where
 K0:E.K0=E0.K0
 w0:E.w0=E0.w0
 ρ:∀d n,(d≠0∨n≠nm)→E.ρ0 d n=E0.ρ0 d n
 sub:∀b,E.pr b→E0.pr b
 pr:∀b,E0.pr b→((E0.ρ0 0 nm).base≠none→b≠(E0.ρ0 0 nm).block)→E.pr b
 blk:(E.ρ0 0 nm).base≠none→E0.w0.heap.size≤(E.ρ0 0 nm).block∨((E0.ρ0 0 nm).base≠none∧(E.ρ0 0 nm).block=(E0.ρ0 0 nm).block)
theorem Moved.refl (E:Env) (nm:Nat):Moved E E nm:=⟨rfl,rfl,fun _ _ _=>rfl,fun _ h=>h,fun _ h _=>h,fun h=>.inr ⟨h,rfl⟩⟩
theorem Moved.trans {E0 E1 E2:Env} {nm:Nat} (h:Moved E0 E1 nm) (g:Moved E1 E2 nm):Moved E0 E2 nm:=by
 refine⟨g.K0.trans h.K0,g.w0.trans h.w0,fun d n hd=>(g.ρ d n hd).trans (h.ρ d n hd),fun b hb=>h.sub b (g.sub b hb),fun b hb hne=>g.pr b (h.pr b hb hne) fun hb1 hbe=>?_,fun hb=>?_⟩
 ·rcases h.blk hb1 with h1|⟨h1,h2⟩
  ·have:=E0.lt b hb;omega
  ·exact hne h1 (hbe.trans h2)
 ·rcases g.blk hb with h1|⟨h1,h2⟩
  ·rw[h.w0] at h1;exact .inl h1
  ·rcases h.blk h1 with h3|⟨h3,h4⟩
   ·exact .inl (by omega)
   ·exact .inr ⟨h3,h2.trans h4⟩
def zjT (E:Env) (nm:Nat) (res:D) (Hr:Heap) (O':List Heap):Value→World→Prop:=fun v w'=>∃E',Moved E E' nm∧zed E' res Hr O' v w'
section
variable {P:Program} {T:TT} {f:FuncId} {fn:Func} {code:Code}
end
section
variable {c:Cx} {s:St} {k:List Item} {ops:Array Oper} {rest:List Nat} {o:Oper} {E0:Env} {H:Heap} {O:List Heap}
theorem zox (hT:TOk c.P c.T) {nm:Nat} {res d r:D} {Hr H:Heap} {O O':List Heap} (hb:Moved E0 c.E nm) (hp:c.post=zjT E0 nm res Hr O') (hd:resD c.T s c.fn.results.toList=some d) (hS:s.S=H::O) (ht:ze9 H Hr Hr) (hr:d.ret H Hr=r) (hO:O=O')
  (he:r=res):GM c (.ret s):=by
 subst he;refine⟨?_⟩;have h:=zyl (c:={ c with post:=zed c.E r Hr O' }) hT hd hS ht hr hO rfl;intro K ρ a w hi;obtain⟨v,hv,K',ρ',h1,h2⟩:=h K ρ a w hi;refine⟨v,hv,?_⟩;rw[hp];exact⟨c.E,hb,K',ρ',h1,h2⟩
end
def D.cut1 (m:Nat):D→D
 |.i x=>.i x
 |.own d nm j off=>bif Nat.beq d 1&&Nat.beq nm m then .dead else .own d nm j off
 |.osl d nm=>bif Nat.beq d 1&&Nat.beq nm m then .dead else .osl d nm
 |.bt=>.bt
 |.bf=>.bf
 |_=>.dead
def zrb (m:Nat):List (Nat×D)→List (Nat×D)
 |[]=>[]
 |(t,d)::r=>(t,d.cut1 m)::zrb m r
theorem zis (m:Nat):∀(σ:List (Nat×D)) (t:Nat),look (zrb m σ) t=(look σ t).map (D.cut1 m)
 |[],t=>by simp[zrb,look]
 |(k,d)::r,t=>by
  simp only[zrb,zac,zis m r t]
  split<;>simp
def Ob.cut1 (m:Nat):Ob→Ob
 |.box cs=>.box (cs.map (D.cut1 m))
 |.tb T cs=>.tb T (cs.map (D.cut1 m))
 |o=>o
def zgq (m:Nat):Heap→Heap
 |[]=>[]
 |(n,o)::r=>(n,o.cut1 m)::zgq m r
theorem zfP (m:Nat):∀(H:Heap) (n:Nat),look (zgq m H) n=(look H n).map (Ob.cut1 m)
 |[],n=>by simp[zgq,look]
 |(k,o)::r,n=>by
  simp only[zgq,zac,zfP m r n]
  split<;>simp
theorem Ob.cut1_sh (m:Nat) (o:Ob):(o.cut1 m).sh=o.sh:=by cases o<;>rfl
theorem zdE (m:Nat) (l:Loc) (o:Ob):zaC l (o.cut1 m)↔zaC l o:=by cases o<;>rfl
section
variable {P:Program} {T:TT} {E:Env} {K:Kn} {ρ ρ':Nat→Nat→Loc} {S:List Heap} {w:World} {sh sh':Nat→Nat→Option Sh} {m:Nat}
def But1 (m:Nat) (ρ ρ':Nat→Nat→Loc) (sh sh':Nat→Nat→Option Sh):Prop:=∀dep n x,(dep≠1∨n≠m)→sh dep n=some x→sh' dep n=some x∧ρ' dep n=ρ dep n
theorem zff {d nm m:Nat} (h:(Nat.beq d 1&&Nat.beq nm m)=false):d≠1∨nm≠m:=by
 by_cases h1:d=1
 ·right;intro h2;subst h1;subst h2;rw[beq_of_eq rfl,beq_of_eq rfl] at h
  cases h
 ·exact .inl h1
theorem RepD.cut1 (h:But1 m ρ ρ' sh sh') {v:Value} {d:D} (r:RepD K ρ sh v d):RepD K ρ' sh' v (d.cut1 m):=by
 cases r with
 |dead=>exact .dead _
 |i r=>exact .i r
 |@box dep nm off e=>
  simp only[D.cut1]
  cases hb:Nat.beq dep 1&&Nat.beq nm m with
  |true=>exact .dead _
  |false=>
   obtain⟨h1,h2⟩:=h _ _ _ (zff hb) e;rw[←h2];exact .box h1
 |@arr dep nm es len j off e l=>
  simp only[D.cut1]
  cases hb:Nat.beq dep 1&&Nat.beq nm m with
  |true=>exact .dead _
  |false=>
   obtain⟨h1,h2⟩:=h _ _ _ (zff hb) e;rw[←h2];exact .arr h1 l
 |@osl dep nm es len e=>
  simp only[D.cut1]
  cases hb:Nat.beq dep 1&&Nat.beq nm m with
  |true=>exact .dead _
  |false=>
   obtain⟨h1,h2⟩:=h _ _ _ (zff hb) e;rw[←h2];exact .osl h1
 |@omp dep nm e=>
  simp only[D.cut1]
  cases hb:Nat.beq dep 1&&Nat.beq nm m with
  |true=>exact .dead _
  |false=>
   obtain⟨h1,h2⟩:=h _ _ _ (zff hb) e;rw[←h2];exact .omp h1
 |bt=>exact .bt
 |bf=>exact .bf
 |_=>exact .dead _
theorem RepDL.cut1 (h:But1 m ρ ρ' sh sh'):∀{vs:List Value} {ds:List D},RepDL K ρ sh vs ds→RepDL K ρ' sh' vs (ds.map (D.cut1 m))
 |_,_,.nil=>.nil
 |_,_,.cons r rs=>.cons (RepD.cut1 h r) (RepDL.cut1 h rs)
theorem OwnAt.cut1 {w':World} {l:Loc} {ob:Ob} (h:OwnAt K ρ sh w l ob) (hb:But1 m ρ ρ' sh sh') (hw:zaC l ob→w'.heap[l.block]? = w.heap[l.block]?):OwnAt K ρ' sh' w' l (ob.cut1 m):=by
 cases ob with
 |mp kk m=>
  obtain⟨⟨es,ck,h1,h2⟩,h3⟩:=h;exact⟨⟨es,ck,by rw[hw trivial];exact h1,h2⟩,h3⟩
 |box cs=>
  obtain⟨c,T,h1,h2,h3⟩:=h;exact⟨c,T,by rw[hw trivial];exact h1,h2.cut1 hb,h3⟩
 |tb T cs=>
  obtain⟨c,h1,h2,h3⟩:=h;exact⟨c,by rw[hw trivial];exact h1,h2.cut1 hb,h3⟩
 |arr ty es n xs wr=>
  obtain⟨h1,h2,h2',h2'',h3⟩:=h;refine⟨h1,h2,h2',h2'',?_⟩;rcases h3 with h3|⟨h4,c,h5,h6⟩
  ·exact .inl h3
  ·exact .inr ⟨h4,c,by rw[hw (by show _≠none;rw[h4];simp)];exact h5,h6⟩
def upd1 (ρ:Nat→Nat→Loc) (nm:Nat) (l':Loc):Nat→Nat→Loc:=fun d n=>if d=1∧n=nm then l' else ρ d n
theorem zdM (ρ:Nat→Nat→Loc) (nm:Nat) (l':Loc):upd1 ρ nm l' 1 nm=l':=by simp[upd1]
theorem zbK (ρ:Nat→Nat→Loc) (nm:Nat) (l':Loc) {d n:Nat} (h:d≠1∨n≠nm):upd1 ρ nm l' d n=ρ d n:=by
 unfold upd1;rw[if_neg];rintro ⟨rfl,rfl⟩;rcases h with h|h<;>exact h rfl
theorem HInv.renew1 {w':World} {H0 H1:Heap} {O:List Heap} {nm:Nat} {ob ob':Ob} {l':Loc} (h:HInv E K ρ (H0::H1::O) w) (ho:look H1 nm=some ob) (hap:Apnd K w w' (ρ 1 nm) l') (hbo:zaC (ρ 1 nm) ob↔(ρ 1 nm).base≠none) (hbo':zaC l' ob'↔l'.base≠none)
  (hKo:zaC (ρ 1 nm) ob→∀o,K (ρ 1 nm).block o=none) (hown:∀(ρ':Nat→Nat→Loc) (sh':Nat→Nat→Option Sh),OwnAt K ρ' sh' w' l' ob') :
  ∃E',Moved E E' nm∧HInv E' K (upd1 ρ nm l') (zgq nm H0::((nm,ob')::zbA nm H1)::O) w'∧But1 nm ρ (upd1 ρ nm l') (shape (H0::H1::O)) (shape (zgq nm H0::((nm,ob')::zbA nm H1)::O)):=by
 have hρ:∀d n,ρ (d+1) n=E.ρ0 d n:=fun d n=>by rw[h.outer]
 let ρd:Nat→Nat→Loc:=fun d n=>ρ (d+1) n
 let Ed:Env:={ K0:=K,ρ0:=fun d n=>ρ (d+2) n,w0:=w,pr:=fun b=>b<w.heap.size∧∀n x,zab (H1::O) 0 n=some x→zaC (ρ 1 n) x→(ρ 1 n).block≠b,lt:=fun _ hb=>hb.1}
 have hup:∀d n x,zab (H1::O) d n=some x→zab (H0::H1::O) (d+1) n=some x:=fun d n x e=>by simpa [zab] using e
 have hd:HInv Ed K ρd (H1::O) w:=by
  refine⟨h.holds,fun d n x e=>?_,fun d n x d' n' x' e e' b b' hbe=>?_,Nat.le_refl _,fun _ _ _=>rfl,fun n x e b hp=>hp.2 n x e b rfl,fun d=>rfl,Kn.le_refl _,fun _ _ _ e=>.inl e,⟨rfl,rfl,rfl⟩⟩
  ·have h1:=h.own _ _ _ (hup d n x e);have e1:(fun d' n=>ρ (d+1+d') n)=fun d' n=>ρd (d+d') n:=by funext d' n;show _=ρ (d+d'+1) n;rw[show d+1+d'=d+d'+1 by omega]
   rw[e1] at h1;simpa using h1
  ·have h1:=h.inj _ _ _ _ _ _ (hup d n x e) (hup d' n' x' e') b b' hbe;exact⟨by omega,h1.2⟩
 obtain⟨hI,hbut⟩:=hd.renew (dst:=nm) ho (by rw[zbN];simp) hap hbo hbo' hKo hown;have hob0:zab (H1::O) 0 nm=some ob:=by simpa [zab] using ho
 have hob1:zab (H0::H1::O) 1 nm=some ob:=by simpa [zab] using ho
 have hcase:∀d n x,zab (((nm,ob')::zbA nm H1)::O) d n=some x→(d=0∧n=nm∧x=ob')∨((d≠0∨n≠nm)∧∃x0,zab (H1::O) d n=some x0∧x.sh=x0.sh):=by
  intro d n x e
  cases d with
  |zero=>
   simp only[zab,List.getElem?_cons_zero,zac,zbN] at e
   by_cases hn:nm=n
   ·rw[if_pos hn] at e;exact .inl ⟨rfl,hn.symm,by simpa using e.symm⟩
   ·rw[if_neg hn,if_neg (Ne.symm hn)] at e
    cases hl:look H1 n with
    |none=>simp[hl] at e
    |some x0=>
     simp only[hl,Option.map_some,Option.some.injEq] at e;subst e;exact .inr ⟨.inr (Ne.symm hn),x0,by simpa [zab] using hl,Ob.kill_sh _ _⟩
  |succ d=>exact .inr ⟨.inl (by omega),x,by simpa [zab] using e,rfl⟩
 have hcase':∀d n x0,zab (H1::O) d n=some x0→(d=0∧n=nm)∨((d≠0∨n≠nm)∧∃x,zab (((nm,ob')::zbA nm H1)::O) d n=some x∧x.sh=x0.sh):=by
  intro d n x0 e
  cases d with
  |zero=>
   by_cases hn:nm=n
   ·exact .inl ⟨rfl,hn.symm⟩
   ·refine .inr ⟨.inr (Ne.symm hn),x0.kill nm,?_,Ob.kill_sh _ _⟩;simp only[zab,List.getElem?_cons_zero] at e;simp only[zab,List.getElem?_cons_zero,zac,zbN,if_neg hn,if_neg (Ne.symm hn)];rw[show look H1 n=some x0 by simpa using e];rfl
  |succ d=>exact .inr ⟨.inl (by omega),x0,by simpa [zab] using e,rfl⟩
 have h0:∀n x,zab (zgq nm H0::((nm,ob')::zbA nm H1)::O) 0 n=some x→∃x0,zab (H0::H1::O) 0 n=some x0∧x=x0.cut1 nm:=by
  intro n x e;simp only[zab,List.getElem?_cons_zero,zfP] at e
  cases hl:look H0 n with
  |none=>simp[hl] at e
  |some x0=>
   simp only[hl,Option.map_some,Option.some.injEq] at e;exact⟨x0,by simpa [zab] using hl,e.symm⟩
 have hs:∀d n,zab (zgq nm H0::((nm,ob')::zbA nm H1)::O) (d+1) n=zab (((nm,ob')::zbA nm H1)::O) d n:=fun d n=>by simp[zab]
 have hbut1:But1 nm ρ (upd1 ρ nm l') (shape (H0::H1::O)) (shape (zgq nm H0::((nm,ob')::zbA nm H1)::O)):=by
  intro d n x hdn e;refine⟨?_,zbK _ _ _ hdn⟩
  cases d with
  |zero=>
   simp only[shape,zab,List.getElem?_cons_zero,zfP] at e ⊢
   cases hl:look H0 n with
   |none=>simp[hl] at e
   |some x0=>simpa [hl,Ob.cut1_sh] using e
  |succ d=>
   have e':shape (H1::O) d n=some x:=by simpa [shape,zab] using e
   have:=(hbut d n x (by rcases hdn with h|h;exact .inl (by omega);exact .inr h) e').1;simpa [shape,hs] using this
 have hlt0:∀b,E.pr b→b<w.heap.size:=fun b hb=>Nat.lt_of_lt_of_le (E.lt b hb) h.size
 let E':Env:={ K0:=E.K0,ρ0:=fun d n=>upd1 ρ nm l' (d+1) n,w0:=E.w0,pr:=fun b=>E.pr b∧((ρ 1 nm).base≠none→b≠(ρ 1 nm).block),lt:=fun b hb=>E.lt b hb.1}
 have hold0:∀n x0,zab (H0::H1::O) 0 n=some x0→zaC (ρ 0 n) x0→w'.heap[(ρ 0 n).block]? = w.heap[(ρ 0 n).block]?:=by
  intro n x0 e hb;refine hap.old _ ((h.own _ _ _ e).lt (by simpa using hb)) fun hbn hbe=>?_;have:=(h.inj _ _ _ _ _ _ e hob1 hb (hbo.2 hbn) hbe).1;omega
 refine⟨E',⟨rfl,rfl,fun d n hd=>?_,fun b hb=>hb.1,fun b hb hne=>⟨hb,fun h1=>?_⟩,fun hb=>?_⟩,⟨hI.holds,fun d n x e=>?_,fun d n x d' n' x' e e' b b' hbe=>?_,?_,fun b hb hno=>?_,fun n x e b hp=>?_,fun d=>rfl,h.Kle,fun b o x e=>?_,?_⟩,hbut1⟩
 ·show upd1 ρ nm l' (d+1) n=_;rw[zbK _ _ _ (by rcases hd with h|h;exact .inl (by omega);exact .inr h),hρ]
 ·have:=hne (by rw[←hρ];exact h1);rwa [←hρ] at this
 ·have hb:(upd1 ρ nm l' 1 nm).base≠none:=hb;show E.w0.heap.size≤(upd1 ρ nm l' 1 nm).block∨_∧(upd1 ρ nm l' 1 nm).block=_;rw[zdM] at hb ⊢;have:=h.size;rcases hap.blk hb with h1|⟨h1,h2⟩
  ·exact .inl (by omega)
  ·right;rw[←hρ];exact⟨h1,h2⟩
 ·cases d with
  |zero=>
   obtain⟨x0,e0,rfl⟩:=h0 n x e;have h1:=h.own _ _ _ e0;rw[zbK _ _ _ (.inl (by omega))];refine h1.cut1 ?_ (fun hb=>hold0 n x0 e0 hb);intro d' n' y hd hy;simp only[List.drop_zero,Nat.zero_add] at hy ⊢;exact hbut1 d' n' y hd hy
  |succ d=>
   rw[hs] at e;have h1:=hI.own d n x e;have e1:(fun d' n=>upd1 ρ nm l' (d+1+d') n)=fun d' n=>upd ρd nm l' (d+d') n:=by
    funext d' n
    by_cases hc:d+d'=0∧n=nm
    ·obtain⟨hc1,rfl⟩:=hc;rw[show d+1+d'=1 by omega,hc1,zdM,zaP]
    ·rw[zaL _ _ _ (by by_cases hz:d+d'=0;exact .inr fun hn=>hc ⟨hz,hn⟩;exact .inl hz),zbK _ _ _ (by by_cases hz:d+d'=0;exact .inr fun hn=>hc ⟨hz,hn⟩;exact .inl (by omega))];show ρ (d+1+d') n=ρ (d+d'+1) n;rw[show d+1+d'=d+d'+1 by omega]
   have e2:=congrFun (congrFun e1 0) n;simp only[Nat.add_zero] at e2;rw[e1,e2];simpa using h1
 ·have key:∀n x d' n' x',zab (H0::H1::O) 0 n=some x→zab (((nm,ob')::zbA nm H1)::O) d' n'=some x' → zaC (ρ 0 n) x→zaC (upd1 ρ nm l' (d'+1) n') x' → (ρ 0 n).block=(upd1 ρ nm l' (d'+1) n').block→False:=by
   intro n1 x1 d1 n2 x2 f1 f2 c1 c2 hbe1;rcases hcase _ _ _ f2 with ⟨rfl,rfl,rfl⟩|⟨hne,x0,e0,hsx⟩
   ·rw[zdM] at c2 hbe1;have hlt:=(h.own _ _ _ f1).lt (by simpa using c1);rcases hap.blk (hbo'.1 c2) with h1|⟨h1,h2⟩
    ·have:(ρ 0 n1).block<w.heap.size:=hlt;omega
    ·rw[h2] at hbe1;have:=(h.inj _ _ _ _ _ _ f1 hob1 c1 (hbo.2 h1) hbe1).1;omega
   ·rw[zbK _ _ _ (by rcases hne with h|h;exact .inl (by omega);exact .inr h)] at c2 hbe1;have:=(h.inj _ _ _ _ _ _ f1 (hup _ _ _ e0) c1 ((zbJ hsx).1 c2) hbe1).1;omega
  have z0:∀n,upd1 ρ nm l' 0 n=ρ 0 n:=fun n=>zbK _ _ _ (.inl (by omega))
  cases d with
  |zero=>
   obtain⟨x0,e0,rfl⟩:=h0 n x e;rw[z0] at b hbe;have b:=(zdE _ _ _).1 b
   cases d' with
   |zero=>
    obtain⟨x1,e1,rfl⟩:=h0 n' x' e';rw[z0] at b' hbe;exact h.inj _ _ _ _ _ _ e0 e1 b ((zdE _ _ _).1 b') hbe
   |succ d'=>
    rw[hs] at e';exact (key _ _ _ _ _ e0 e' b b' hbe).elim
  |succ d=>
   rw[hs] at e
   cases d' with
   |zero=>
    obtain⟨x1,e1,rfl⟩:=h0 n' x' e';rw[z0] at b' hbe;exact (key _ _ _ _ _ e1 e ((zdE _ _ _).1 b') b hbe.symm).elim
   |succ d'=>
    rw[hs] at e';have conv:∀d n,upd1 ρ nm l' (d+1) n=upd ρd nm l' d n:=by
     intro d n
     by_cases hc:d=0∧n=nm
     ·obtain⟨rfl,rfl⟩:=hc;rw[zdM,zaP]
     ·rw[zaL _ _ _ (by by_cases hz:d=0;exact .inr fun hn=>hc ⟨hz,hn⟩;exact .inl hz),zbK _ _ _ (by by_cases hz:d=0;exact .inr fun hn=>hc ⟨hz,hn⟩;exact .inl (by omega))]
    rw[conv] at b b' hbe;rw[conv] at hbe;have:=hI.inj _ _ _ _ _ _ e e' b b' hbe;exact⟨by omega,this.2⟩
 ·have:=h.size;have:=hap.size;show E.w0.heap.size≤_;omega
 ·obtain⟨hb1,hb2⟩:=hb;rw[hap.old b (hlt0 b hb1) hb2];refine h.old b hb1 fun d n x e hbk=>?_;have e':zab (H1::O) d n=some x:=by simpa [zab] using e
  rcases hcase' d n x e' with ⟨rfl,rfl⟩|⟨hne,y,ey,hsy⟩
  ·have:x=ob:=by rw[hob0] at e';exact (Option.some.inj e').symm
   subst this;exact fun hbe=>hb2 (hbo.1 hbk) hbe.symm
  ·have e2:upd1 ρ nm l' (d+1) n=ρ (d+1) n:=zbK _ _ _ (by rcases hne with h|h;exact .inl (by omega);exact .inr h);have:=hno d n y (by rw[hs];exact ey) (by rw[e2];exact (zbJ hsy).2 hbk);rwa [e2] at this
 ·obtain⟨x0,e0,rfl⟩:=h0 n x e;have e2:upd1 ρ nm l' 0 n=ρ 0 n:=zbK _ _ _ (.inl (by omega));rw[e2] at b hp;exact h.loc n x0 e0 ((zdE _ _ _).1 b) hp.1
 ·rcases h.Knew b o x e with h1|h1
  ·exact .inl h1
  ·exact .inr fun hp=>h1 hp.1
 ·obtain⟨a1,a2,a3⟩:=h.rest;obtain⟨b1,b2,b3⟩:=hap.rest;exact⟨b1.trans a1,b2.trans a2,b3.trans a3⟩
end
section
variable {c:Cx} {s:St} {k:List Item} {ops:Array Oper} {rest:List Nat} {o:Oper} {E0:Env} {H0 H1 H:Heap} {O:List Heap}
theorem ztB (hT:TOk c.P c.T) (hfn:c.P.funcs[c.f]? = some c.fn) {i t t1 ty nm n m:Nat} {cl:Call} {x y:Operand} {ti1 ti2:TI} {xs ys:List (List I)} (hb:(n+m)*ti2.bytes≤140737488355328∧n+m≤9223372036854775807)
  (ho:ops[i]? = some o) (hg:o.guard=none) (hd:o.dst=some t) (hop:o.op=.call cl) (hc1:cl.callee=.builtin .append) (hc2:cl.args = #[x,y]) (hc3:cl.argTypes = #[t1,t1])
  (h1:look c.T t1=some ti1) (hk1:ti1.k=.slice ty) (h2:look c.T ty=some ti2) (hx:evD s x=.osl 1 nm) (hy:evD s y=.i (.sl ti2.size m ys)) (hS:s.S=H0::H1::O) (hl:look H1 nm=some (.arr ty ti2.size n xs true)) (hn:Nat.ble (t+1) s.n=true)
  (h:∀E',Moved c.E E' nm→RG {c with E:=E' } ops rest {σ:=(t,.osl 1 nm)::zrb nm s.σ,S:=zgq nm H0::((nm,.arr ty ti2.size (n+m) (xs++ys) true)::zbA nm H1)::O,n:=s.n} k):GM c (.pause ops i rest o s k):=by
 refine⟨?_⟩;intro K ρ a w hi;simp only[wpOps,ho,zcq hi (show zaQ ops s o=some true by unfold zaQ;rw[hg]),if_true];have hok1:=hT _ _ h1;have hu:c.P.underlying t1=some (.slice ty):=by have:=hok1.kind;rw[hk1] at this;exact this
 have hh:=hi.h;rw[hS] at hh;have hob:zab (H0::H1::O) 1 nm=some (.arr ty ti2.size n xs true):=by simpa [zab] using hl
 have hrx:=hi.ev x;rw[hx] at hrx;have hvx:a.eval x=.slice (ρ 1 nm).base n (ρ 1 nm).cap:=zc6 (es:=ti2.size) hrx (by rw[hS];simp[shape,hob,Ob.sh]);have hry:=hi.ev y;rw[hy] at hry;have hnow:Now K w (a.eval y) ti2.size m ys:=by
  revert hry
  generalize a.eval y=vy;intro hr
  cases hr with
  |i r=>
   cases r with
   |@nil es p=>
    refine⟨rfl,by simp,p,0,rfl,?_⟩
    cases p with
    |none=>exact .inl ⟨rfl,rfl,rfl⟩
    |some ad=>exact .inr ⟨ad,[],rfl,.nil,fun j c hc=>by cases hc⟩
   |sl r e k' c' l=>exact⟨l,e,_,_,rfl,.inr ⟨_,_,rfl,r,fun j x hc=>by rw[Addr.add_lit];exact hi.h.holds _ _ _ (k' j x hc)⟩⟩
 have hown:=hh.own _ _ _ hob;obtain⟨l',w',hrun,hown',hap⟩:=zmH hu (hT _ _ h2) hown hnow hb.1 hb.2 o.type (fun o=>hh.K_fresh (Nat.le_refl _));have hKo:zaC (ρ 1 nm) (.arr ty ti2.size n xs true)→∀o,K (ρ 1 nm).block o=none:=by
  intro hbk;obtain⟨_,_,_,_,h5⟩:=hown;rcases h5 with ⟨_,h6⟩|⟨_,c,_,_,_,h9,_⟩
  ·exact absurd h6 hbk
  ·exact h9 rfl
 obtain⟨E',hM,hI,hbut⟩:=hh.renew1 hl hap Iff.rfl (ob':=.arr ty ti2.size (n+m) (xs++ys) true) Iff.rfl hKo hown';refine .inl ?_;have hexec:(execOp a.eval o).run c.P w=.ok (.value (.slice l'.base (n+m) l'.cap)) w':=by
  unfold execOp;simp only[hop,hc1,hc2,hc3,resolve,invoke,builtin,Sem.run_bind,Sem.run_pure,Result.andThen_ok,List.map_toArray,List.map_cons,List.map_nil,hvx,hrun]
 simp only[Oper.wp,hexec,Oper.upon];refine h E' hM K (upd1 ρ nm l') _ w' ?_;rw[hd];refine⟨hI,hi.defers,by simp[Act.put];exact hi.size,fun t' d' e'=>?_⟩;rw[zcB (by rw[hi.size];exact Nat.le_of_ble_eq_true hn)];simp only[zac] at e'
 split at e'
 ·rename_i e2;simp only[Option.some.injEq] at e';subst e';rw[if_pos e2];have hsh:shape (zgq nm H0::((nm,Ob.arr ty ti2.size (n+m) (xs++ys) true)::zbA nm H1)::O) 1 nm=some (.arr ti2.size (n+m)):=by simp[shape,zab,zac,Ob.sh]
  have:=RepD.osl (K:=K) (ρ:=upd1 ρ nm l') hsh;rwa [zdM] at this
 ·rename_i e2;rw[if_neg e2];rw[zis] at e'
  cases hls:look s.σ t' with
  |none=>simp[hls] at e'
  |some d0=>
   simp only[hls,Option.map_some,Option.some.injEq] at e';subst e';have hr:=hi.slots _ _ hls;rw[hS] at hr;exact hr.cut1 hbut
end
abbrev bools (sn:List Bool):Ob:=.arr 4 1 sn.length (sn.map fun b=>[.v (.bool b)]) true
end Go.AI
namespace Go.AI
open Go.Proofs
theorem zlO {w:World} {b:Nat} {d:Array Int} {c:Array Value} {ty:TypeId} {fr:Nat×Nat} (h:w.heap[b]? = some (.cells c ty fr)) :
  (Sort.putRow (Value.int .i64) w b 0 d).heap[b]? = some (.cells (Sort.putCells (Value.int .i64) 0 d c) ty fr)∧∀b',b' ≠ b→(Sort.putRow (Value.int .i64) w b 0 d).heap[b']? = w.heap[b']?:=by
 unfold Sort.putRow Sort.mapBlock;refine⟨?_,fun b' hb=>?_⟩
 ·simp[Array.getElem?_modify,h,Sort.onCells]
 ·simp only[Array.getElem?_modify];rw[if_neg (fun e=>hb e.symm)]
theorem zy8 (O:List Heap) (d nm:Nat) (l:List Int) (hpos:0<l.length) (hl:l.length<4611686018427387904) (ho:zab O d nm=some (zb5 l)):zan Tryz.prog 172 [.osl d nm] O (.tup []) [] (setAt O d nm (zb5 (zds l))):=by
 intro E K ρ w vs hw hrep;obtain rfl:vs=[.slice (ρ d nm).base l.length (ρ d nm).cap]:=by
  cases hrep with
  |cons r rs=>
   cases rs
   rw[zc6 (es:=1) (len:=l.length) r (by simp[shape,ho,Ob.sh])]
 obtain⟨ρ1,hρ1,hI⟩:=zdj hw;have ho1:zab (([]:Heap)::O) (d+1) nm=some (zb5 l):=zaz ho;have hown1:=zdX (s:={ σ:=[],S:=[]::O,n:=0}) hI ho1;have hsl:=zgT l;refine .inl ⟨Tryz.call172 _ _,?_⟩;obtain⟨h1,h2,h3,h4,h5⟩:=hown1;have hloc:ρ1 (d+1) nm=ρ d nm:=by rw[hρ1]
 rw[hloc] at h3 h4 h5;rcases h5 with ⟨h5,h6⟩|⟨h5,c,h6,h7,h8,h9,h10,h11⟩
 ·exfalso;omega
 ·have hcl:c.toList.take l.length=l.map (Value.int .i64):=by
   rw[Nat.mul_one] at h8;exact zg5 h8
  have hsz:l.length≤c.size:=by rw[h7,Nat.mul_one];exact h3
  have hblk:(ρ d nm).block<w.heap.size:=(Array.getElem?_eq_some_iff.1 h6).1;rw[h5];refine (Tryz.slices_Sort_int (ρ d nm).block 0 (ρ d nm).cap l w (fun j hj=>⟨?_,?_⟩) hblk hl).mono ?_
  ·have hj:j<l.length:=by simpa using hj
   rw[Nat.zero_add,cell_of_heap h6];have:(c.toList.take l.length)[j]? = some (.int .i64 l[j]):=by
    rw[hcl,List.getElem?_map,List.getElem?_eq_getElem hj];rfl
   rw[List.getElem?_take,if_pos hj] at this;have e:l.toArray[j]! = l[j]:=by simp[hj]
   rw[e];simpa using this
  ·simp[World.frozen?,h6]
  ·rintro e w' ⟨rfl,n,os,rfl⟩;have hh:(Sort.ahead w n).heap[(ρ d nm).block]? = some (.cells c 3 (0,0)):=h6;obtain⟨a1,a2⟩:=zlO (d:=(zds l).toArray) hh;have hbk:zaC (ρ1 (d+1) nm) (zb5 l):=by rw[hloc];show _≠none;rw[h5];simp
   have hfin:HInv (.of K ρ w) K ρ1 (setAt ([]::O) (d+1) nm (zb5 (zds l))) (Sort.putRow (Value.int .i64) (Sort.ahead w n) (ρ d nm).block 0 (zds l).toArray):=by
    refine hI.put ho1 (by simp[Ob.sh,hsl]) hbk (by rw[hloc];show _≠none;rw[h5];simp) (by simp[Sort.ahead]) (fun b hb=>a2 b (by rw[←hloc];exact hb)) ⟨rfl,rfl,rfl⟩ (fun o x hx=>?_) ?_
    ·rw[hloc] at hx ⊢;rw[h9 rfl] at hx;cases hx
    ·rw[hloc];refine⟨by simp[hsl],by simp,by simpa [hsl] using h3,h4,.inr ⟨h5,_,a1,by simp[Sort.putCells,h7],?_,fun _=>h9 rfl,fun o ho=>by rw[h9 rfl o],fun h=>by cases h⟩⟩;have e:(Sort.putCells (Value.int .i64) 0 (zds l).toArray c).toList.take ((zds l).length*1)=(zds l).map (Value.int .i64):=by
      apply List.ext_getElem?
      intro j;rw[List.getElem?_take,Nat.mul_one]
      by_cases hj:j<(zds l).length
      ·rw[if_pos hj];have hjc:j<c.size:=by omega
       simp[Sort.putCells,hj,hjc,Array.getElem?_mapIdx]
      ·rw[if_neg hj];simp at hj;simp[hj]
     rw[e];exact zhr _
   obtain⟨hI2,hst⟩:=HInv.grow (S:=setAt ([]::O) (d+1) nm (zb5 (zds l))) rfl hfin (fun _ _ _ e=>e) (fun _ h=>by simp[look] at h) (zkP hfin 0 os);exact⟨_,rfl,K,ρ1,hI2,.tup .nil⟩
end Go.AI
namespace Go.AI
open Go.Proofs
set_option maxRecDepth 20000
theorem zyv (O:List Heap):zan Tryz.prog 191 [.i (.v (.int .u64 0))] O (ii 0) [] O:=by
 refine zaa Tk Tryz.func191 rfl Tryz.call191 Tryz.ntmps191 (Nat.le_of_ble_eq_true rfl) fun E=>?_;refine zai Tk Tryz.func191 ?_;refine gcF Tk Tryz.func191 rfl ?_;refine gcF Tk Tryz.func191 rfl ?_;refine gcF Tk Tryz.func191 rfl ?_;refine zah Tk Tryz.func191 (by exact⟨by decide,by decide⟩) ?_;refine zaj Tk (r:=ii 0) rfl rfl rfl trivial rfl rfl ?_;rfl
theorem zzt (O:List Heap):zan Tryz.prog 141 [.i (.v (.int .u64 0))] O (ii 0) [] O:=by
 refine zaa Tk Tryz.func141 rfl Tryz.call141 Tryz.ntmps141 (Nat.le_of_ble_eq_true rfl) fun E=>?_;refine zai Tk Tryz.func141 ?_;refine gcF Tk Tryz.func141 rfl ?_;refine zak Tk Tryz.func141 (zyv _) rfl rfl rfl rfl rfl ?_;refine zaj Tk (r:=ii 0) rfl rfl rfl trivial rfl rfl ?_;rfl
theorem zyG (O:List Heap):zan Tryz.prog 253 [ints [],ii 0,ii 0] O (.tup []) [] O:=by
 refine zaa Tk Tryz.func253 rfl Tryz.call253 Tryz.ntmps253 (Nat.le_of_ble_eq_true rfl) fun E=>?_;refine zai Tk Tryz.func253 ?_;refine zad ?_;refine zai Tk Tryz.func253 ?_;refine gcF Tk Tryz.func253 rfl ?_;refine zaj Tk (r:=.tup []) rfl rfl rfl trivial rfl rfl ?_;rfl
theorem zzi (O:List Heap):zan Tryz.prog 227 [ints [],ii 0,ii 0,ii 0] O (.tup []) [] O:=by
 refine zaa Tk Tryz.func227 rfl Tryz.call227 Tryz.ntmps227 (Nat.le_of_ble_eq_true rfl) fun E=>?_;refine zai Tk Tryz.func227 ?_;refine zad ?_;refine zai Tk Tryz.func227 ?_;refine gcT Tk Tryz.func227 rfl ?_;refine zak Tk Tryz.func227 (zyG _) rfl rfl rfl rfl rfl ?_;refine zaj Tk (r:=.tup []) rfl rfl rfl trivial rfl rfl ?_;rfl
theorem zxH (O:List Heap):zan Tryz.prog 172 [ints []] O (.tup []) [] O:=by
 refine zaa Tk Tryz.func172 rfl Tryz.call172 Tryz.ntmps172 (Nat.le_of_ble_eq_true rfl) fun E=>?_;refine zai Tk Tryz.func172 ?_;refine zak Tk Tryz.func172 (zzt _) rfl rfl rfl rfl rfl ?_;refine zak Tk Tryz.func172 (zzi _) rfl rfl rfl rfl rfl ?_;refine zaj Tk (r:=.tup []) rfl rfl rfl trivial rfl rfl ?_;rfl
def tgtE (es:List Edg) (est:List Int) (ev:Int):List Int:=(es.filter fun e=>e.2.1==ev&&decide (e.1∈est)).map fun e=>e.2.2
def nxt (es:List Edg) (p:Int→Bool) (n:Nat) (est:List Int) (ev:Int):List Int:=clo es p n (tgtE es est ev)
section
variable {P:Program} {T:TT} {f:FuncId} {fn:Func} {code:Code}
end
section
variable {c:Cx} {s:St} {k:List Item} {ops:Array Oper} {rest:List Nat} {o:Oper}
end
def subs:Nat→List (List Int)
 |0=>[[]]
 |n+1=>subs n++(subs n).map (· ++ [(n:Int)])
structure estsOk (n:Nat) (sts:List (List Int)):Prop where
 nd:sts.Nodup
 el:∀s∈sts,s∈subs n∧s≠[]∧s.length≤n∧∀x∈s,0≤x∧x<(n:Int)
theorem zum (a:ByteArray):(a==a)=true:=(zrj a a).2 rfl
abbrev zz4 (a:Aut) (on:List Int):List Int:=a.alpha.filter fun x=>decide (x∈on)
structure smallA (a:Aut):Prop where
 ed:a.edges.length≤1000000
 al:a.alpha.length≤1000000
 mkd:a.marked.length≤1000000
end Go.AI
namespace Go.AI
open Go.Proofs
open Go.Shelf Go.RowKit Go.Lib Go.Sort
end Go.AI
namespace Go.AI
open Go.Proofs
set_option maxRecDepth 20000
def lowP (on un:List Int) (only:Bool) (ev:Int):Bool:=!decide (ev∈on)&&(!only||decide (ev∈un))
section
variable {c:Cx} {s:St} {k:List Item} {ops:Array Oper} {rest:List Nat} {o:Oper} {E0:Env} {H0 H1 H:Heap} {O:List Heap}
end
end Go.AI
namespace Go.AI
open Go.Proofs
section
variable {S:Type} [DecidableEq S]
structure bOk (V:List S) (l:List (S×List Int)):Prop where
 nd:(l.map (·.1)).Nodup
 el:∀z∈l,z.1∈V
 wl:∀(j:Nat) z,l[j]? = some z→z.2.length≤j
end
end Go.AI
namespace Go.AI
open Go.Proofs
set_option maxRecDepth 20000
theorem znT {c:Cx} {s:St} (nm:Nat) {ty es n:Nat} {xs ys:List (List I)} {wr:Bool} {H:Heap} {O:List Heap} (hS:s.S=H::O) (ho:look H nm=some (.arr ty es n xs wr)) (hl:ys.length=xs.length) (he:∀d∈ys,d.length=es) (hco:∀K vs,RepL K vs xs.flatten→RepL K vs ys.flatten) :
  Wk c s {σ:=s.σ,S:=((nm,.arr ty es n ys wr)::H)::O,n:=s.n}:=by
 intro K ρ a w hi;have hh:=hi.h;rw[hS] at hh;have hsh:shape (((nm,Ob.arr ty es n ys wr)::H)::O)=shape (H::O):=zbe ho rfl;refine⟨K,ρ,hh.reob ho rfl (fun h=>h) fun h=>?_,hi.defers,hi.size,fun t d e=>?_⟩
 ·obtain⟨h1,h2,h3,h4,h5⟩:=h;refine⟨he,by rw[hl];exact h2,h3,h4,?_⟩;rcases h5 with h5|⟨h5,c',h6,h7,h8,h9⟩
  ·exact .inl h5
  ·exact .inr ⟨h5,c',h6,h7,hco _ _ h8,h9⟩
 ·show RepD K ρ (shape (((nm,Ob.arr ty es n ys wr)::H)::O)) _ _;rw[hsh,←hS];exact hi.slots t d e
abbrev PS:=List Int×List Int
abbrev zoj (a:Aut) (l:List Int):Bool:=l.any fun x=>decide (x∈a.marked)
end Go.AI
namespace Go.AI
section
variable {c:Cx} {ops:Array Oper} {O:List Heap} {n:Nat} {F:SH→List Pl→Prop}
def frPl (p:Pl) (t ty es m:Nat) (xs:List (List I)):Pl:=⟨(t,.i (.sl es m xs))::p.sets,[(t,.arr ty es m xs false)],p.rem⟩
theorem ziY {o:Oper} {v:SH} {p:Pl} {t ty es m:Nat} {xs:List (List I)} (hs:look p.sets t=some (.osl 0 t)) (ha:p.adds=[(t,.arr ty es m xs true)]) (h:zec c ops O n o v p):zec c ops O n o v (frPl p t ty es m xs):=by
 rcases h with ⟨_,t',_,_,rfl⟩|⟨hw,h⟩
 ·cases ha
 ·refine .inr ⟨hw,fun E hE K ρ a w hi next Qe hn=>h E hE K ρ a w hi next Qe fun val w' σ' K' ρ' hle hk hi' hlk=>?_⟩;have hh:=hi'.h;have ho:look (p.adds++rmv p.rem v.2) t=some (.arr ty es m xs true):=by rw[ha];simp[zac]
  obtain⟨K2,hle2,hI⟩:=hh.freeze ho;have hl:∀nm,look ((t,Ob.arr ty es m xs false)::rmv p.rem v.2) nm=look ((t,Ob.arr ty es m xs false)::(p.adds++rmv p.rem v.2)) nm:=by
   intro nm;rw[ha];simp only[List.singleton_append,zac]
   by_cases e:t=nm
   ·simp[e]
   ·simp[e]
  have hI2:HInv E K2 ρ' (((t,Ob.arr ty es m xs false)::rmv p.rem v.2)::O) w':=hI.same hl;have hsh:shape (((t,Ob.arr ty es m xs false)::rmv p.rem v.2)::O)=shape ((p.adds++rmv p.rem v.2)::O):=by
   rw[zeh (O:=O) hl];exact zbe ho rfl
  have hS:(frPl p t ty es m xs).adds++rmv (frPl p t ty es m xs).rem v.2=(t,Ob.arr ty es m xs false)::rmv p.rem v.2:=rfl;refine hn val w' ((t,.i (.sl es m xs))::σ') K2 ρ' (Kn.le_trans hle hle2) ?_ ⟨?_,hi'.defers,hi'.size,fun t' d e=>?_⟩ fun t' d e=>?_
  ·rw[hS,hsh];exact hk
  ·rw[hS];exact hI2
  ·show RepD K2 ρ' (shape (((frPl p t ty es m xs).adds++rmv (frPl p t ty es m xs).rem v.2)::O)) _ d;rw[hS,hsh]
   replace e:look ((t,D.i (.sl es m xs))::σ') t'=some d:=e
   rw[zac] at e;rcases Nat.decEq t t' with h1|h1;rotate_left
   ·rw[if_pos h1] at e;subst h1;simp only[Option.some.injEq] at e;subst e;have hsl:look σ' t=some (.osl 0 t):=by
     rcases hlk t _ hs with h2|h2
     ·cases h2
     ·exact h2
    have h1:=hi'.slots t _ hsl;have hown:=hI.own 0 t (.arr ty es m xs false) (by simp[zab,zac]);have:=zc6 (es:=es) (len:=m) h1 (by
     show shape ((p.adds++rmv p.rem v.2)::O) 0 t=_;simp[shape,zab,ha,zac,Ob.sh])
    rw[this];exact .i (zdb hown)
   ·rw[if_neg h1] at e;exact (hi'.slots t' d e).stays ⟨hle2,fun _ _ _ h=>h,fun _ _ _ _=>rfl⟩
  ·replace e:look ((t,D.i (.sl es m xs))::p.sets) t'=some d:=e
   rw[zac] at e;rcases Nat.decEq t t' with h1|h1
   ·rw[if_neg h1] at e;rcases hlk t' d e with h2|h2
    ·exact .inl h2
    ·right;show look ((t,D.i (.sl es m xs))::σ') t'=some d;rw[zac,if_neg h1];exact h2
   ·rw[if_pos h1] at e;right;show look ((t,D.i (.sl es m xs))::σ') t'=some d;rw[zac,if_pos h1];exact e
theorem zzf (hT:TOk c.P c.T) {i:Nat} {o:Oper} {rest:List Oper} {x:SH} {acc:List Pl} (p:Pl) {t ty es m:Nat} {xs:List (List I)} (hs:look p.sets t=some (.osl 0 t)) (ha:p.adds=[(t,.arr ty es m xs true)])
  (h1:MDx c ops O n (fun _ ps=>ps=acc++[p]) (runD c.T ops O n [o] x acc)) (h2:GE c ops O n F (runS c.T ops O n (i+1) rest ((frPl p t ty es m xs).ap x) (acc++[frPl p t ty es m xs]))):GE c ops O n F (.old i o rest x acc):=by
 refine⟨fun _=>?_⟩;obtain⟨qs,hc,hq⟩:=zcf hT _ _ _ h1;have hq:qs=[p]:=by simpa using hq
 subst hq;exact zf0 (ziY hs ha hc.1) (zbp hT _ _ _ _ h2.h)
end
end Go.AI
namespace Go.AI
open Go.Proofs
set_option maxRecDepth 20000
def nxtL (es:List Edg) (p:Int→Bool) (n:Nat) (l:List Int) (obs:List Int):List Int:=obs.foldl (nxt es p n) l
end Go.AI
namespace Go.AI
open Go.Proofs
inductive FrzA (nm:Nat) (d:I):List D→List D→Prop
 |nil:FrzA nm d [] []
 |i {x:I} {l m:List D}:FrzA nm d l m→FrzA nm d (.i x::l) (.i x::m)
 |osl {l m:List D}:FrzA nm d l m→FrzA nm d (.osl 0 nm::l) (.i d::m)
def Shut (d:D):Prop:=∀K K' ρ ρ' sh sh' v,RepD K ρ sh v d→RepD K' ρ' sh' v d
theorem zex (x:Value):Shut (.i (.v x)):=fun _ _ _ _ _ _ v h=>by
 cases h with
 |i r=>cases r with
  |v e=>exact .i (.v e)
end Go.AI
namespace Go.AI
open Go.Proofs
set_option maxRecDepth 20000
end Go.AI
namespace Go.AI
open Go.Proofs
set_option maxRecDepth 100000
end Go.AI
namespace Go.AI
open Go.Proofs
set_option maxRecDepth 20000
structure gAut (a:Aut) (n:Nat):Prop where
 st:a.states=n
 sm:smallA a
 c:chkA a=0
def okX (y:PS):Bool:=decide (y.1.length>0)
section
variable {S:Type} [DecidableEq S]
end
end Go.AI
namespace Go.AI
section
variable {S:Type} [DecidableEq S]
end
section
variable {S:Type} [DecidableEq S]
end
section
variable {S T:Type} [DecidableEq S] [DecidableEq T]
end
end Go.AI
namespace Go.AI
open Go.Proofs
set_option maxRecDepth 20000
end Go.AI
namespace Go.AI
section
variable {S:Type} [DecidableEq S]
end
def hX (y:PS):Option PS:=if okX y=true then some y else none
section
variable {S:Type} [DecidableEq S]
end
def mrk (a:Aut) (n:Nat) (i:Int):Bool:=zoj a (clo a.edges (lowP [] [] false) n [i])
def swp (s x:Int):Int:=if x=0 then s else if x=s then 0 else x
structure Sm (n:Nat) (s:Int) (E A:List Int):Prop where
 rel:∀x,0≤x→x<(n:Int)→(x∈E↔swp s x∈A)
 rE:∀x∈E,0≤x∧x<(n:Int)
 rA:∀x∈A,0≤x∧x<(n:Int)
section
variable {a:Aut} {n:Nat} {s:Int} (h:gAut a n) (hn:n≤5) (hs:0≤s∧s<(n:Int))
include h hs
include hn
omit h hn
end
end Go.AI
namespace Go.AI
open Go.Proofs
section
variable {E0 E:Env} {K:Kn} {ρ:Nat→Nat→Loc} {H:Heap} {O:List Heap} {w:World}
end
section
variable {c:Cx} {s:St} {k:List Item} {ops:Array Oper} {rest:List Nat} {o:Oper} {E0:Env} {H:Heap} {O:List Heap}
end
section
variable {P:Program} {T:TT} {f:FuncId} {fn:Func} {code:Code}
end
section
variable {c:Cx} {s:St} {k:List Item} {ops:Array Oper} {rest:List Nat} {o:Oper} {g:Nat} {tab:Obj}
end
section
variable {c:Cx} {ops:Array Oper} {O:List Heap} {n:Nat} {F:SH→List Pl→Prop}
end
section
variable {c:Cx}
end
end Go.AI
namespace Go.AI
open Go.Proofs
set_option maxRecDepth 20000
end Go.AI
namespace Go.AI
structure PrjOk (b:Aut) (on:List Int) (n:Nat) (V:Unf (List Int)):Prop where
 fst:V.sts[0]? = some (clo b.edges (lowP on [] false) n [0])
 nd:V.sts.Nodup
 el:∀s∈V.sts,s∈subs n
 ne:∀s∈V.sts,s≠[]
 mrk:∀(i:Nat) E,V.sts[i]? = some E→decide ((i:Int)∈V.mkl)=zoj b E
 st:∀(i:Nat) E,V.sts[i]? = some E→∀ev∈zz4 b on,(nxt b.edges (lowP on [] false) n E ev=[]∧stp3 V.eds i ev = -1) ∨
  ∃j:Nat,stp3 V.eds i ev=(j:Int)∧V.sts[j]? = some (nxt b.edges (lowP on [] false) n E ev)∧nxt b.edges (lowP on [] false) n E ev≠[]
 len:V.sts.length≤32∧V.mkl.length≤32∧V.eds.length≤32*32
abbrev NP:=Nat×Nat
section
variable (b c:Aut) (lp:Int→Bool) (n:Nat) (kp:List Int) (V W:Unf (List Int))
def atW (t:List Int) (z:NP):Prop:=V.sts[z.1]? = some (nxtL b.edges lp n (clo b.edges lp n [0]) t)∧W.sts[z.2]? = some (nxtL c.edges lp n (clo c.edges lp n [0]) t)
def zz6 (l:List NP) (z:NP) (ev:Int):Prop:=∀E F,V.sts[z.1]? = some E→W.sts[z.2]? = some F→(nxt b.edges lp n E ev=[]↔nxt c.edges lp n F ev=[]) ∧
 (nxt b.edges lp n E ev≠[]→∃y∈l,V.sts[y.1]? = some (nxt b.edges lp n E ev)∧W.sts[y.2]? = some (nxt c.edges lp n F ev))
def zz5 (z:NP):Prop:=∀E F,V.sts[z.1]? = some E→W.sts[z.2]? = some F→zoj b E=zoj c F
structure prOk (i:Nat) (l:List NP):Prop where
 nd:l.Nodup
 zero:(0,0)∈l
 at_:∀z∈l,∃t,(∀ev∈t,ev∈kp)∧atW b c lp n V W t z
 mrk:∀(k:Nat) z,k<i→l[k]? = some z→zz5 b c V W z
 ev:∀(k:Nat) z,k<i→l[k]? = some z→∀ev∈kp,zz6 b c lp n V W l z ev
variable {b c lp n kp V W}
end
section
variable {b c:Aut} {on:List Int} {n:Nat} {kp:List Int} {V W:Unf (List Int)}
end
end Go.AI
namespace Go.AI
set_option maxRecDepth 20000
section
variable {σ τ:Type} {eq:σ→σ→Bool} {eq':τ→τ→Bool} {lim:Bool} {step:σ→Int→σ×Bool×Int} {step':τ→Int→τ×Bool×Int} {mkd:σ→Bool} {mkd':τ→Bool} {P:σ→Prop} {f:σ→τ} {alpha:List Int}
structure Sim (eq:σ→σ→Bool) (eq':τ→τ→Bool) (step:σ→Int→σ×Bool×Int) (step':τ→Int→τ×Bool×Int) (mkd:σ→Bool) (mkd':τ→Bool) (P:σ→Prop) (f:σ→τ) (alpha:List Int):Prop where
 st:∀s ev,P s→ev∈alpha→(step' (f s) ev).2=(step s ev).2∧((step s ev).2.1=true→(step' (f s) ev).1=f (step s ev).1∧P (step s ev).1)
 eq:∀a b,P a→P b→eq' (f a) (f b)=eq a b
 mark:∀s,P s→mkd' (f s)=mkd s
end
end Go.AI
namespace Go.AI
abbrev pk (x ev:Int):Value:=.agg ⟨[.int .i64 x,.int .i64 ev]⟩
def zzV (es:List Edg):List (Value×Int):=es.foldl (fun m e=>mset m (pk e.1 e.2.1) e.2.2) []
section
variable {σ:Type} [DecidableEq σ] {mkd:σ→Bool} {al:List Int} {P:σ→Prop} {step:σ→Int→σ×Bool×Int} {V:Unf σ}
end
end Go.AI
namespace Go.AI
open Go.Proofs
set_option maxRecDepth 20000
end Go.AI
namespace Go.AI
open Go.Proofs
section
variable {P:Program} {T:TT} {f:FuncId} {fn:Func} {code:Code}
end
section
variable {c:Cx} {s:St} {k:List Item} {ops:Array Oper} {rest:List Nat} {o:Oper}
end
section
variable {c:Cx} {s:St} {k:List Item} {ops:Array Oper} {rest:List Nat} {o:Oper} {H:Heap} {O:List Heap}
def zAc (ob:Obj) (m:MC):Prop:=∃es ck,ob=.map es ck∧es.toList.map (fun e=>(e.key,e.val))=m.vals
end
section
variable {c:Cx} {ops:Array Oper} {O:List Heap} {n:Nat} {F:SH→List Pl→Prop}
end
section
variable {c:Cx} {ops:Array Oper} {O:List Heap} {n:Nat} {F:SH→List Pl→Prop} {o:Oper} {rest:List Oper} {x:SH} {acc:List Pl} {i:Nat}
end
end Go.AI
namespace Go.AI
open Go.Proofs
set_option maxRecDepth 20000
abbrev Tb:=Nat×Obj
structure tbOk (l:List Aut) (bs:List Tb):Prop where
 len:bs.length=l.length
 is:∀(i:Nat) a b,l[i]? = some a→bs[i]? = some b→zAc b.2 (.i .i64 (zzV a.edges))
structure byt (b:Int):Prop where
 h0:0≤b
 h1:b≤255
def zul (m:Ext):Sta×Int:=if chk m≠0 then (zgK,chk m) else (zdP m,0)
theorem zyY (O:List Heap) (m:Ext) (hok:extOk m):zan Tryz.prog 79 [extD m] O (.tup [staD (zul m).1,ii (zul m).2]) [] O:=by
 have hv:chk m=0→m.vars.length≤16:=by
  intro h
  by_cases h2:m.vars.length≤16
  ·exact h2
  ·exfalso;have e:zby m.vars=3:=by
    unfold zby;rw[if_pos (by omega)]
   unfold chk at h;rw[e] at h
   revert h
   repeat' split
   all_goals omega
 generalize hR:zul m=R;unfold zul at hR;refine zaa Tk Tryz.func79 rfl Tryz.call79 Tryz.ntmps79 (Nat.le_of_ble_eq_true rfl) fun E=>?_;refine zai Tk Tryz.func79 ?_;refine zak Tk Tryz.func79 (zjN _ m hok) rfl rfl rfl rfl rfl ?_;refine zaf Tk Tryz.func79 rfl (fun h1=>?_) (fun h1=>?_)
 ·have h1:=bneT h1;rw[if_pos h1] at hR;subst hR;refine zaD Tk (r:=_) rfl rfl rfl trivial rfl rfl ?_
  repeat' (first|refine zbT ?_|refine zbB ?_|refine zcy ?_|refine CoDL.cons ?_ ?_|exact CoDL.nil|exact zbd|refine zcz ?_|refine CoLL.cons ?_ ?_|exact CoLL.nil|refine CoL.cons ?_ ?_|exact CoL.nil|exact CoI.refl _|exact CoL.refl _|exact CoLL.refl _|exact CoDL.refl _|exact CoD.refl _)
 have h1:=bneF h1;rw[if_neg (by simpa using h1)] at hR;subst hR;refine zak Tk Tryz.func79 (zxD _ m (hv (by simpa using h1))) rfl rfl rfl rfl rfl ?_;refine zaj Tk (r:=.tup [staD (zdP m),ii 0]) rfl rfl rfl trivial rfl rfl ?_;rfl
def ckS (m:Ext) (s:Sta):Int:=
 if chk m≠0 then chk m else if s.loc<0∨s.loc≥m.locs then 2 else if s.vals.length≠m.vars.length then 4 else if within m.vars s.vals=false then 2 else 0
theorem zgg (O:List Heap) (m:Ext) (s:Sta) (hok:extOk m):zan Tryz.prog 34 [extD m,staD s] O (ii (ckS m s)) [] O:=by
 generalize hR:ckS m s=R;unfold ckS at hR;obtain⟨sl,sv⟩:=s;simp only at hR;have hw:=fun O=>zvh O m.vars sv hok.va;generalize within m.vars sv=W at hw hR;refine zaa Tk Tryz.func34 rfl Tryz.call34 Tryz.ntmps34 (Nat.le_of_ble_eq_true rfl) fun E=>?_;refine zai Tk Tryz.func34 ?_;refine zak Tk Tryz.func34 (zjN _ m hok) rfl rfl rfl rfl rfl ?_;refine zaf Tk Tryz.func34 rfl (fun h1=>?_) (fun h1=>?_)
 ·have h1:=bneT h1;rw[if_pos h1] at hR;refine zaj Tk (r:=ii (chk m)) rfl rfl rfl trivial rfl rfl ?_;exact congrArg ii hR
 have h1:=bneF h1;rw[if_neg (by simpa using h1)] at hR;refine zaG Tk Tryz.func34 rfl (fun h2=>?_) (fun h2=>?_)
 ·have h2:sl<0:=by simpa using h2
  rw[if_pos (.inl h2)] at hR;refine gcT Tk Tryz.func34 rfl ?_;refine zaj Tk (r:=ii 2) rfl rfl rfl trivial rfl rfl ?_;exact congrArg ii hR
 have h2:¬sl<0:=by simpa using h2
 refine zaf Tk Tryz.func34 rfl (fun h3=>?_) (fun h3=>?_)
 ·have h3:m.locs≤sl:=by simpa using h3
  rw[if_pos (.inr h3)] at hR;refine zaj Tk (r:=ii 2) rfl rfl rfl trivial rfl rfl ?_;exact congrArg ii hR
 have h3:¬m.locs≤sl:=by simpa using h3
 rw[if_neg (by rintro (h|h);exact h2 h;exact h3 h)] at hR;refine zaf Tk Tryz.func34 rfl (fun h4=>?_) (fun h4=>?_)
 ·have h4:=bneT h4;rw[if_pos (by intro e;exact h4 (by rw[e]))] at hR;refine zaj Tk (r:=ii 4) rfl rfl rfl trivial rfl rfl ?_;exact congrArg ii hR
 have h4:=bneF h4;have h4:sv.length=m.vars.length:=by
  have:((sv.length:Nat):Int)=m.vars.length:=by simpa using h4
  omega
 rw[if_neg (by rw[h4];simp)] at hR;refine zak Tk Tryz.func34 (hw _) rfl rfl rfl rfl rfl ?_
 cases W with
 |false=>
  refine gcT Tk Tryz.func34 rfl ?_;refine zaj Tk (r:=ii 2) rfl rfl rfl trivial rfl rfl ?_;exact congrArg ii hR
 |true=>
  refine gcF Tk Tryz.func34 rfl ?_;refine zaj Tk (r:=ii 0) rfl rfl rfl trivial rfl rfl ?_;exact congrArg ii hR
def stpR (m:Ext) (s:Sta) (ev:Int):Sta×Bool×Int:=if ckS m s≠0 then (zgK,false,ckS m s) else if ev ∉ m.alpha then (zgK,false,9) else zhU m s ev
theorem zlh {m:Ext} {s:Sta} (h:ckS m s=0):chk m=0∧s.vals.length=m.vars.length∧within m.vars s.vals=true∧0≤s.loc∧s.loc<m.locs:=by
 unfold ckS at h
 by_cases h1:chk m≠0
 ·rw[if_pos h1] at h;exact absurd h h1
 rw[if_neg h1] at h
 by_cases h2:s.loc<0∨s.loc≥m.locs
 ·rw[if_pos h2] at h;cases h
 rw[if_neg h2] at h
 by_cases h3:s.vals.length≠m.vars.length
 ·rw[if_pos h3] at h;cases h
 rw[if_neg h3] at h
 by_cases h4:within m.vars s.vals=false
 ·rw[if_pos h4] at h;cases h
 exact⟨by simpa using h1,by simpa using h3,by simpa using h4,by omega,by omega⟩
theorem zy6 (O:List Heap) (m:Ext) (s:Sta) (ev:Int) (hok:extOk m):zan Tryz.prog 83 [extD m,staD s,ii ev] O (.tup [staD (stpR m s ev).1,bb (stpR m s ev).2.1,ii (stpR m s ev).2.2]) [] O:=by
 have hck:=fun O=>zgg O m s hok;have hs:=@zlh m s;have hst:=fun O hr hl=>zy5 O m s ev hok hr hl;generalize hR:stpR m s ev=R;unfold stpR at hR;generalize ckS m s=c at *;refine zaa Tk Tryz.func83 rfl Tryz.call83 Tryz.ntmps83 (Nat.le_of_ble_eq_true rfl) fun E=>?_;refine zai Tk Tryz.func83 ?_;refine zak Tk Tryz.func83 (hck _) rfl rfl rfl rfl rfl ?_;refine zaf Tk Tryz.func83 rfl (fun h1=>?_) (fun h1=>?_)
 ·have h1:=bneT h1;rw[if_pos h1] at hR;subst hR;refine zaD Tk (r:=_) rfl rfl rfl trivial rfl rfl ?_;exact coZ
 have h1:=bneF h1;rw[if_neg (by simpa using h1)] at hR;obtain⟨h2,h3,-⟩:=hs h1;have hr:=zhM h2;refine zak Tk Tryz.func83 (ziJ _ m.alpha ev hok.al (zcP hr.alpha).1) rfl rfl rfl rfl rfl ?_;refine zaf Tk Tryz.func83 rfl (fun h4=>?_) (fun h4=>?_)
 ·have h4:ev ∉ m.alpha:=by simpa using h4
  rw[if_pos h4] at hR;subst hR;refine zaD Tk (r:=_) rfl rfl rfl trivial rfl rfl ?_;exact coZ
 have h4:ev∈m.alpha:=by simpa using h4
 rw[if_neg (by simpa using h4)] at hR;subst hR;have hst:=fun O=>hst O hr h3;generalize zhU m s ev=n at *;obtain⟨⟨nl,nv⟩,np,ne⟩:=n;refine zak Tk Tryz.func83 (hst _) rfl rfl rfl rfl rfl ?_;refine zaj Tk (r:=.tup [staD ⟨nl,nv⟩,bb np,ii ne]) rfl rfl rfl trivial rfl rfl ?_;rfl
theorem zfE {n:Int}:∀{l:List Int} {y:Int},zaM n l (some y)=0→y+1≤n→(l.length:Int)≤n-1-y
 |[],y,_,h=>by simp only[List.length_nil];omega
 |x::r,y,h,hy=>by
  simp only[zaM] at h
  by_cases h1:x<0∨x≥n
  ·rw[if_pos h1] at h;exact absurd h (by decide)
  rw[if_neg h1] at h
  by_cases h2:(some y).any (x ≤ ·)=true
  ·rw[if_pos h2] at h;exact absurd h (by decide)
  rw[if_neg h2] at h;have hxy:y<x:=by simpa using h2
  have:=zfE h (by omega);simp only[List.length_cons];omega
theorem zfD {n:Int} (hn:0≤n):∀{l:List Int},zaM n l none=0→(l.length:Int)≤n
 |[],_=>by simpa using hn
 |x::r,h=>by
  simp only[zaM] at h
  by_cases h1:x<0∨x≥n
  ·rw[if_pos h1] at h;exact absurd h (by decide)
  rw[if_neg h1] at h;have h':zaM n r (some x)=0:=by simpa using h
  have:=zfE h' (by omega);simp only[List.length_cons];omega
def zzh (lo hi:Int):List Int:=(List.range (hi-lo+1).toNat).map fun (k:Nat)=>lo+k
def zyZ (out:List (List Int)) (v:Vr):List (List Int):=out.flatMap fun vals=>(zzh v.low v.high).map fun n=>vals++[n]
def allV (l:List Vr):List (List Int):=l.foldl zyZ [[]]
end Go.AI
namespace Go.AI
set_option maxRecDepth 20000
structure Bx where
 low:List Int
 high:List Int
def inV:List Vr→List Int→Prop
 |[],[]=>True
 |v::r,x::xs=>(v.low≤x∧x≤v.high)∧inV r xs
 |_,_=>False
structure DomOk (l:List Vr) (out:List (List Int)):Prop where
 mem:∀v,v∈out↔inV l v
 nd:out.Nodup
end Go.AI
namespace Go.AI
open Go.Proofs
set_option maxRecDepth 20000
structure domOk (l:List Vr):Prop where
 len:l.length≤16
 b:∀v∈l,(-65536≤v.low∧v.high≤65536)∧v.low≤v.high
 cnt:∀j,(allV (l.take j)).length≤4096
structure valsB (l:List Vr) (dom:List (List Int)):Prop where
 vb:∀a∈l,-65536≤a.low∧a.high≤65536
 ll:l.length≤16
 len:dom.length≤4096
 vl:∀v∈dom,v.length=l.length
 b:∀v∈dom,∀j,-65536≤v.getD j 0∧v.getD j 0≤65536
abbrev obyJ (T:List UInt8):Ob:=.arr 5 1 T.length (u8l T) true
theorem zoc (T s:List UInt8):Ob.arr 5 1 (T.length+s.length) (u8l T++u8l s) true=obyJ (T++s):=by rw[zxx];simp[obyJ]
theorem zj4 (K:Kn) (s:ByteArray):RepL K (Lib.strCells s) (u8l s.data.toList).flatten:=zlA K s.data.toList
theorem zfK (s:ByteArray):s.data.toList.length=s.size:=by rw[Array.length_toList];rfl
theorem zwA {c:Cx} (hP:c.P=Tryz.prog) {s:St} {o:Oper} {t nm nm2:Nat} {dp:D} {H:Heap} {O:List Heap} (sb:ByteArray) (T:List UInt8) (hdp:dp=.i (.v (.pointer none))∨dp=.own 0 nm 0 0) (hlim:T.length+sb.size≤140737488355328) (ht:o.dst=some t) (hn:t<s.n) (hS:s.S=H::O)
  (hb:look H nm=some (.tb 277 [dp,.osl 0 nm2])) (ha:look H nm2=some (obyJ T)) (hne:nm≠nm2) :
  Wp c o s 155 [.own 0 nm 0 0,.i (.v (.string sb))] {σ:=(t,.tup [ii sb.size,.i (.v .nilIface)])::zhq nm2 s.σ,S:=((nm,.tb 277 [.own 0 nm 0 0,.osl 0 nm2])::(nm2,obyJ (T++sb.data.toList))::zbA nm2 ((nm,.tb 277 [.own 0 nm 0 0,.osl 0 nm2])::H))::O,n:=s.n}:=by
 have h:=ziH (c:=c) (s:=s) (o:=o) (ys:=u8l sb.data.toList) (m:=sb.data.toList.length) (T:=277) (ty:=5) (rd:=.tup [ii sb.size,.i (.v .nilIface)]) (dx:=.i (.v (.string sb))) (x:=.string sb) (res:=.tuple #[.int .i64 sb.size,.nilIface]) (xs:=u8l T) (n:=T.length) (by rw[hP];exact zxs sb) (by rw[hP];exact Tryz.call155)
  (fun K ρ sh v h=>zaS h) (fun K ρ sh=>.tup (.cons (.i (.v rfl)) (.cons (.i (.v rfl)) .nil))) hdp ht hn hS hb ha hne (fun K=>zj4 K sb) (zwT _) (by simp[u8l]) (by rw[zfK];exact hlim)
 rwa [zoc] at h
theorem zwB {c:Cx} (hP:c.P=Tryz.prog) {s:St} {o:Oper} {t nm nm2:Nat} {dp:D} {H:Heap} {O:List Heap} {T:List UInt8} (h0:T≠[]) (ht:o.dst=some t) (hn:t<s.n) (hS:s.S=H::O)
  (hb:look H nm=some (.tb 277 [dp,.osl 0 nm2])) (ha:look H nm2=some (obyJ T)) :
  Wp c o s 157 [.own 0 nm 0 0] {σ:=(t,.i (.v (.string ⟨T.toArray⟩)))::zhq nm2 s.σ,S:=((nm2,.arr 5 1 0 [] true)::zbA nm2 H)::O,n:=s.n}:=
 zt3 (c:=c) (s:=s) (o:=o) (T:=277) (ty:=5) (by rw[hP];exact zxE) (by rw[hP];exact Tryz.call157) h0 ht hn hS hb ha
end Go.AI
