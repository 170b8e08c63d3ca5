/- The layer of abstract runs, part 25. -/
import Derived.Test.YtnojpbbaohoadaaGreatDoorKobX
import Derived.KernelRfl
import Derived.Lib.SlicesCompact
import Derived.Lib.SliceRun
set_option linter.unusedSimpArgs false
set_option linter.unusedVariables false
set_option linter.all false
set_option maxHeartbeats 4000000
namespace Go.AI
open Go.Proofs
set_option maxRecDepth 20000
section
variable {E:Env} {K:Kn} {ρ:Nat→Nat→Loc} {w w':World}
theorem zpW {sh:Nat→Nat→Option Sh} {w3:World} {l:Loc} {ty n m:Nat} {xs ys:List (List I)} {olds news:List Value} {v':Value} (h:OwnAt K ρ sh w l (.arr ty 1 n xs true)) (ho:RepL K olds xs.flatten) (hn:RepL K news ys.flatten)
  (hy:∀ d∈ys,d.length=1) (hm:ys.length=m) (hrow:w3.ownsRow 0 ty 1 v' (n+m) (olds++news)) (hg:w.grownBy w3 (Value.slice l.base n l.cap).ownBlock) (hat:zqz w (.slice l.base n l.cap) v')
  (hfresh:∀ b o,w.heap.size≤b→K b o=none) :
  ∃ l':Loc,v' = .slice l'.base (n+m) l'.cap∧(∀ (ρ':Nat→Nat→Loc) (sh':Nat→Nat→Option Sh),OwnAt K ρ' sh' w3 l' (.arr ty 1 (n+m) (xs++ys) true))∧Apnd K w w3 l l':=by
 have hel:∀ d∈xs++ys,d.length=1:=fun d hd=>by
  rcases List.mem_append.1 hd with h1 | h1
  ·exact h.1 d h1
  ·exact hy d h1
 have hlen:(xs++ys).length=n+m:=by simp[h.2.1,hm]
 have hbase:l.base=none∨l.base=some ⟨l.block,0,none⟩:=by
  rcases h.2.2.2.2 with ⟨_,h1⟩ | ⟨h1,_⟩
  ·exact .inl h1
  ·exact .inr h1
 have hold:∀ b,b<w.heap.size→(l.base≠none→b≠l.block)→w3.heap[b]? = w.heap[b]?:=fun b hb hne=>hg.block b hb fun e=>by
  rcases hbase with h1 | h1
  ·rw[h1] at e;simp[Value.ownBlock] at e
  ·rw[h1] at e
   simp only[Value.ownBlock,Option.some.injEq] at e
   exact hne (by rw[h1];simp) e
 rcases hrow.2 with ⟨rfl,h0⟩ | ⟨g,cap,cur,rfl,_,hg3,hnc,hcm,hcs,htake⟩
 ·refine⟨⟨0,0,none⟩,by rw[h0],fun ρ' sh'=>⟨hel,hlen,by simp only;omega,Nat.zero_le _,.inl ⟨rfl,rfl⟩⟩,⟨hg.size,hold,⟨hg.tape,hg.os,hg.output⟩,fun e=>absurd rfl e⟩⟩
 ·have hKg:∀ o,K g o=none:=by
   rcases hat with h1 | h1
   ·rcases hbase with h2 | h2
    ·rw[h2] at h1;simp[Value.ownBlock] at h1
    ·rw[h2] at h1
     simp only[Value.ownBlock,Option.some.injEq] at h1
     subst h1
     rcases h.2.2.2.2 with ⟨_,h3⟩ | ⟨_,c,_,_,_,h4,_⟩
     ·rw[h2] at h3;cases h3
     ·exact h4 rfl
   ·exact fun o=>hfresh g o (h1 g rfl)
  have htk:cur.toList.take ((n+m) * 1)=olds++news:=htake
  refine⟨⟨g,cap,some ⟨g,0,none⟩⟩,rfl,fun ρ' sh'=>⟨hel,hlen,hnc,hcm,.inr ⟨rfl,cur,hg3,hcs,?_,fun _ o=>hKg o,fun o _=>hKg o,fun e=>by cases e⟩⟩,⟨hg.size,hold,⟨hg.tape,hg.os,hg.output⟩,fun _=>?_⟩⟩
  ·rw[htk,List.flatten_append]
   exact ho.append hn
  ·rcases hat with h1 | h1
   ·rcases hbase with h2 | h2
    ·rw[h2] at h1;simp[Value.ownBlock] at h1
    ·rw[h2] at h1
     simp only[Value.ownBlock,Option.some.injEq] at h1
     exact .inr ⟨by rw[h2];simp,h1⟩
   ·exact .inl (h1 g rfl)
def zxC (P:Program) (f:FuncId) (T ty:TypeId) (res x:Value) (news:List Value):Prop:=∀ (b:Nat) (p v0:Value) (bs:List Value) (w:World),(p = .pointer none∨p = .pointer (some ⟨b,0,none⟩)) →
 w.heap[b]? = some (.cells #[p,v0] T (0,0))→w.ownsRow 0 ty 1 v0 bs.length bs→v0.ownBlock≠some b→bs.length+news.length≤140737488355328 →
 Calls P f #[.pointer (some ⟨b,0,none⟩),x] w fun e w'=>e = .returned res∧zsU T ty b p v0 bs news w w'
def Wp (c:Cx) (o:Oper) (s:St) (f:FuncId) (args:List D) (s':St):Prop:=∀ K ρ a w,Inv c.E K ρ s a w→(∃ vs,(execOp a.eval o).run c.P w=(callFunc f vs.toArray).run c.P w∧RepDL K ρ (shape s.S) vs args) →
 ∀ (next:Act→World→Prop) (Qe:Exit→Act→World→Prop),(∀ v w' K' ρ',Inv c.E K' ρ' s' (a.put o.dst v) w' → next (a.put o.dst v) w')→o.wp c.P a w next Qe
theorem zh0 {c:Cx} {s:St} {o:Oper} {f:FuncId} {t nm nm2 n m T ty:Nat} {dp dx rd:D} {x res:Value} {news:List Value} {xs ys:List (List I)} {H:Heap} {O:List Heap}
  (hspec:zxC c.P f T ty res x news) (hent:∀ args w,(callFunc f args).run c.P w = .ok (.enter f args) w) (hx:∀ K ρ sh v,RepD K ρ sh v dx→v=x) (hr:∀ K ρ sh,RepD K ρ sh res rd)
  (hdp:dp = .i (.v (.pointer none))∨dp = .own 0 nm 0 0) (ht:o.dst=some t) (hn:t<s.n) (hS:s.S=H::O) (hb:look H nm=some (.tb T [dp,.osl 0 nm2])) (ha:look H nm2=some (.arr ty 1 n xs true))
  (hne:nm≠nm2) (hnews:∀ K,RepL K news ys.flatten) (hy:∀ d∈ys,d.length=1) (hm:ys.length=m) (hlim:n+m≤140737488355328) :
  Wp c o s f [.own 0 nm 0 0,dx] { σ:=(t,rd)::zhp nm2 s.σ,S:=((nm,.tb T [.own 0 nm 0 0,.osl 0 nm2])::(nm2,.arr ty 1 (n+m) (xs++ys) true)::zcU nm2 ((nm,.tb T [.own 0 nm 0 0,.osl 0 nm2])::H))::O,n:=s.n }:=by
 intro K ρ a w hi ⟨vs,hrun,hrep⟩ next Qe hnext
 have hh:=hi.h
 rw[hS] at hh hrep
 have hob:zab (H::O) 0 nm=some (.tb T [dp,.osl 0 nm2]):=by simpa [zab] using hb
 have hoa:zab (H::O) 0 nm2=some (.arr ty 1 n xs true):=by simpa [zab] using ha
 have e0:(fun d n=>ρ (0+d) n)=ρ:=by funext d n;rw[Nat.zero_add]
 have s0:∀ S:List Heap,shape (S.drop 0)=shape S:=fun S=>by rw[List.drop_zero]
 have hwb:=hh.own _ _ _ hob
 rw[e0,s0] at hwb
 obtain⟨cur,hc,hrc,hKb⟩:=hwb
 have hwa:=hh.own _ _ _ hoa
 rw[e0,s0] at hwa
 obtain⟨olds,hro,hrow⟩:=zkL hwa
 have hol:olds.length=n:=by simpa using hrow.1
 have hshb:shape (H::O) 0 nm=some .box:=by simp[shape,hob,Ob.sh]
 have hsha:shape (H::O) 0 nm2=some (.arr 1 n):=by simp[shape,hoa,Ob.sh]
 obtain⟨p,v0,hcur,hp,hv0⟩:∃ p v0,cur = #[p,v0]∧RepD K ρ (shape (H::O)) p dp∧RepD K ρ (shape (H::O)) v0 (.osl 0 nm2):=by
  generalize hL:cur.toList=L at hrc
  cases hrc with
  | cons h1 h2=>cases h2 with
   | cons h3 h4=>cases h4;exact⟨_,_,Array.ext' (by rw[hL]),h1,h3⟩
 subst hcur
 have hv0:=zev hv0 hsha
 subst hv0
 have hpp:p = .pointer none∨p = .pointer (some ⟨(ρ 0 nm).block,0,none⟩):=by
  rcases hdp with rfl | rfl
  ·exact .inl (zaQ hp)
  ·exact .inr (zgQ hp hshb)
 have hnb:(Value.slice (ρ 0 nm2).base n (ρ 0 nm2).cap).ownBlock≠some (ρ 0 nm).block:=by
  intro e
  rcases hwa.2.2.2.2 with ⟨_,h1⟩ | ⟨h1,_⟩
  ·rw[h1] at e;simp[Value.ownBlock] at e
  ·rw[h1] at e
   simp only[Value.ownBlock,Option.some.injEq] at e
   exact hne (hh.inj 0 nm _ 0 nm2 _ hob hoa trivial (by show _≠none;rw[h1];simp) e.symm).2
 obtain⟨rfl⟩:vs=[.pointer (some ⟨(ρ 0 nm).block,0,none⟩),x]:=by
  cases hrep with
  | cons h1 h2=>cases h2 with
   | cons h3 h4=>cases h4;rw[zgQ h1 hshb,hx _ _ _ _ h3]
 rw[hent] at hrun
 simp only[Oper.wp,hrun,Oper.upon]
 have hml:news.length=m:=by
  have:=(hnews K).length
  rw[this,zbD ys hy,hm];omega
 refine (hspec _ p _ olds w hpp hc (by rw[hol];exact hrow) hnb (by rw[hol,hml];exact hlim)).mono ?_
 rintro e w' ⟨rfl,w1,w2,w3,v',h1,h2,hrow3,hgb,hat,rfl⟩
 rw[hol,hml] at hrow3
 have e1:(fun d n=>shape (H::O) (0+d) n)=shape (H::O):=by funext d n;rw[Nat.zero_add]
 have hcells:RepDL K (fun d n=>ρ (0+d) n) (fun d n=>shape (H::O) (0+d) n) [.pointer (some ⟨(ρ 0 nm).block,0,none⟩),.slice (ρ 0 nm2).base n (ρ 0 nm2).cap] [.own 0 nm 0 0,.osl 0 nm2]:=by
  rw[e0,e1]
  exact .cons (.box hshb) (.cons (.osl hsha) .nil)
 have hI1:HInv c.E K ρ (setAt (H::O) 0 nm (.tb T [.own 0 nm 0 0,.osl 0 nm2])) w1∧w1.heap[(ρ 0 nm).block]? = some (.cells #[.pointer (some ⟨(ρ 0 nm).block,0,none⟩),.slice (ρ 0 nm2).base n (ρ 0 nm2).cap] T (0,0)):=by
  rcases h1 with ⟨rfl,rfl⟩ | ⟨rfl,rfl⟩
  ·exact⟨hh.put hob rfl trivial trivial rfl (fun _ _=>rfl) ⟨rfl,rfl,rfl⟩ (fun o' x' hx'=>by rw[hKb] at hx';cases hx') ⟨_,hc,hcells,hKb⟩,hc⟩
  ·exact⟨hh.put hob rfl trivial trivial (by simp[World.setCell]) (fun b hb=>Go.Deep.blk_setCell_other w _ _ b hb) ⟨rfl,rfl,rfl⟩ (fun o' x' hx'=>by rw[hKb] at hx';cases hx') ⟨_,zgV hc,hcells,hKb⟩,zgV hc⟩
 obtain⟨hI1,hc1⟩:=hI1
 have hI1:HInv c.E K ρ (((nm,.tb T [.own 0 nm 0 0,.osl 0 nm2])::H)::O) w1:=hI1
 have hlt1:(ρ 0 nm).block<w1.heap.size:=by
  rcases Nat.lt_or_ge (ρ 0 nm).block w1.heap.size with h' | h'
  ·exact h'
  ·simp[Array.getElem?_eq_none h'] at hc1
 have hI2:HInv c.E K ρ (((nm,.tb T [.own 0 nm 0 0,.osl 0 nm2])::H)::O) w2∧w2.heap[(ρ 0 nm).block]? = some (.cells #[.pointer (some ⟨(ρ 0 nm).block,0,none⟩),.slice (ρ 0 nm2).base n (ρ 0 nm2).cap] T (0,0))∧w1.heap.size≤w2.heap.size:=by
  rcases h2 with rfl | ⟨o',rfl⟩
  ·exact⟨hI1,hc1,Nat.le_refl _⟩
  ·exact⟨(HInv.grow (S:=((nm,.tb T [.own 0 nm 0 0,.osl 0 nm2])::H)::O) rfl hI1 (fun _ _ _ e=>e) (fun _ h=>by simp[look] at h) (zr3 hI1 (.inl rfl) o')).1,by rw[heap_alloc_old w1 o' hlt1];exact hc1,by simp[World.size_alloc]⟩
 obtain⟨hI2,hc2,hsz2⟩:=hI2
 have hc3:w3.heap[(ρ 0 nm).block]? = some (.cells #[.pointer (some ⟨(ρ 0 nm).block,0,none⟩),.slice (ρ 0 nm2).base n (ρ 0 nm2).cap] T (0,0)):=by
  rw[hgb.block _ (by omega) (fun e=>hnb e.symm)]
  exact hc2
 have hlk:look ((nm,Ob.tb T [.own 0 nm 0 0,.osl 0 nm2])::H) nm2=some (.arr ty 1 n xs true):=by
  rw[zac,if_neg hne];exact ha
 have hoa2:zab (((nm,Ob.tb T [.own 0 nm 0 0,.osl 0 nm2])::H)::O) 0 nm2=some (.arr ty 1 n xs true):=by simpa [zab] using hlk
 have hob2:zab (((nm,Ob.tb T [.own 0 nm 0 0,.osl 0 nm2])::H)::O) 0 nm=some (.tb T [.own 0 nm 0 0,.osl 0 nm2]):=by simp[zab,zac]
 have hwa2:=hI2.own _ _ _ hoa2
 rw[e0,s0] at hwa2
 obtain⟨l',rfl,hown',hap⟩:=zpW hwa2 hro (hnews K) hy hm hrow3 hgb hat (fun b o hb=>hI2.K_fresh hb)
 have hKo:zaD (ρ 0 nm2) (.arr ty 1 n xs true)→∀ o,K (ρ 0 nm2).block o=none:=by
  intro hbk
  obtain⟨_,_,_,_,h5⟩:=hwa
  rcases h5 with ⟨_,h6⟩ | ⟨_,c,_,_,_,h9,_⟩
  ·exact absurd h6 hbk
  ·exact h9 rfl
 obtain⟨hI3,hbut⟩:=hI2.renew (nm:=nm2) (dst:=nm2) hlk (by rw[zcv];simp) hap Iff.rfl (ob':=.arr ty 1 (n+m) (xs++ys) true) Iff.rfl hKo hown'
 generalize hS3:(((nm2,Ob.arr ty 1 (n+m) (xs++ys) true)::zcU nm2 ((nm,Ob.tb T [.own 0 nm 0 0,.osl 0 nm2])::H))::O)=S3 at hI3 hbut
 have hob3:zab S3 0 nm=some (Ob.kill nm2 (.tb T [.own 0 nm 0 0,.osl 0 nm2])):=by
  rw[← hS3]
  simp only[zab,List.getElem?_cons_zero,zac,if_neg (Ne.symm hne),zcv,if_neg hne,if_true,Option.map_some]
 obtain⟨hb1,hb2⟩:=hbut 0 nm .box (.inr hne) (by simp[shape,hob2,Ob.sh])
 have hsh3:shape S3 0 nm2=some (.arr 1 (n+m)):=by
  rw[← hS3]
  simp[shape,zab,zac,Ob.sh]
 have f0:(fun d n=>upd ρ nm2 l' (0+d) n)=upd ρ nm2 l':=by funext d n;rw[Nat.zero_add]
 have f1:(fun d n=>shape S3 (0+d) n)=shape S3:=by funext d n;rw[Nat.zero_add]
 have hcells3:RepDL K (fun d n=>upd ρ nm2 l' (0+d) n) (fun d n=>shape S3 (0+d) n) [.pointer (some ⟨(ρ 0 nm).block,0,none⟩),.slice l'.base (n+m) l'.cap] [.own 0 nm 0 0,.osl 0 nm2]:=by
  rw[f0,f1]
  have g1:=RepD.box (K:=K) (ρ:=upd ρ nm2 l') (off:=0) hb1
  rw[hb2] at g1
  have g2:=RepD.osl (K:=K) (ρ:=upd ρ nm2 l') hsh3
  rw[zaP] at g2
  exact .cons g1 (.cons g2 .nil)
 have hI4:HInv c.E K (upd ρ nm2 l') (setAt S3 0 nm (.tb T [.own 0 nm 0 0,.osl 0 nm2])) (w3.setCell ⟨(ρ 0 nm).block,1,none⟩ (.slice l'.base (n+m) l'.cap)):=by
  refine hI3.put hob3 rfl trivial trivial (by simp[World.setCell]) (fun b hb=>Go.Deep.blk_setCell_other w3 _ _ b (by rw[hb2] at hb;exact hb)) ⟨rfl,rfl,rfl⟩ (fun o' x' hx'=>by rw[hb2,hKb] at hx';cases hx') ⟨_,by rw[hb2];exact zr0 hc3,hcells3,fun o=>by rw[hb2];exact hKb o⟩
 have hS4:setAt S3 0 nm (.tb T [.own 0 nm 0 0,.osl 0 nm2])=((nm,.tb T [.own 0 nm 0 0,.osl 0 nm2])::(nm2,.arr ty 1 (n+m) (xs++ys) true)::zcU nm2 ((nm,.tb T [.own 0 nm 0 0,.osl 0 nm2])::H))::O:=by rw[← hS3];rfl
 have hsh4:shape (setAt S3 0 nm (.tb T [.own 0 nm 0 0,.osl 0 nm2]))=shape S3:=zbA hob3 rfl
 have hsh2:shape (((nm,Ob.tb T [.own 0 nm 0 0,.osl 0 nm2])::H)::O)=shape (H::O):=zbA (S:=H::O) hob rfl
 rw[hS4] at hI4 hsh4
 rw[hsh2] at hbut
 refine hnext _ _ K (upd ρ nm2 l') ?_
 ·rw[ht]
  refine⟨hI4,hi.defers,by simp[Act.put];exact hi.size,fun t' d' e'=>?_⟩
  rw[zdP (by rw[hi.size];exact hn)]
  simp only[zac] at e'
  split at e'
  ·rename_i e2
   simp only[Option.some.injEq] at e'
   subst e'
   rw[if_pos e2]
   exact hr _ _ _
  ·rename_i e2
   rw[if_neg e2]
   rw[zd2] at e'
   cases hls:look s.σ t' with
   | none=>simp[hls] at e'
   | some d0=>
    simp only[hls,Option.map_some,Option.some.injEq] at e'
    subst e'
    have hr:=hi.slots _ _ hls
    rw[hS] at hr
    show RepD _ _ (shape _) _ _
    rw[hsh4]
    exact hr.kill hbut
end
section
variable {c:Cx} {s:St} {k:List Item} {ops:Array Oper} {rest:List Nat} {o:Oper}
theorem zcm (hT:TOk c.P c.T) (hfn:c.P.funcs[c.f]? = some c.fn) {i t:Nat} {f:FuncId} {args:List D} {s':St} (ho:ops[i]? = some o) (hg:o.guard=none) (hd:o.dst=some t) (hex:exec c.T s o = .call f args) (hw:Wp c o s f args s')
  (h:GM c (run c.T c.stop 1000 (.inRegion ops rest::k) s')):GM c (.pause ops i rest o s k):=by
 have hk:RG c ops rest s' k:=zba hT hfn 1000 (.inRegion ops rest::k) _ h.h
 refine⟨?_⟩
 intro K ρ a w hi
 simp only[wpOps,ho,zcX hi (show zaY ops s o=some true by unfold zaY;rw[hg]),if_true]
 refine .inl (hw K ρ a w hi ?_ _ _ fun v w' K' ρ' hi'=>hk K' ρ' _ w' hi')
 have:=ziV hT hi.h (.inl hd) fun x _=>hi.ev x
 rw[hex] at this
 exact this
end
section
def u8l (l:List UInt8):List (List I):=l.map fun b=>[.v (.int .u8 b.toNat)]
theorem zif:∀ l:List UInt8,(u8l l).flatten=l.map fun b=>I.v (.int .u8 b.toNat)
 | []=>rfl
 | b::r=>by
  have:=zif r
  unfold u8l at this ⊢
  rw[List.map_cons,List.flatten_cons,this]
  rfl
theorem zvo (l:List UInt8):∀ d∈u8l l,d.length=1:=fun d hd=>by
 unfold u8l at hd
 obtain⟨b,_,rfl⟩:=List.mem_map.1 hd
 rfl
theorem zky (K:Kn):∀ l:List UInt8,RepL K (l.map fun b=>Value.int .u8 b.toNat) (u8l l).flatten
 | []=>.nil
 | b::r=>by
  have:=zky K r
  rw[zif] at this ⊢
  exact .cons (.v rfl) this
theorem zjt {K:Kn}:∀ {vs:List Value} {l:List Value},RepL K vs (l.map I.v)→vs=l
 | _,[],h=>by cases h;rfl
 | _,x::r,h=>by
  cases h with
  | cons h1 h2=>
   rw[zjt h2]
   cases h1
   rfl
theorem zv1 (a b:List UInt8):u8l a++u8l b=u8l (a++b):=by simp[u8l]
def zyu (P:Program) (f:FuncId) (T ty:TypeId):Prop:=∀ (b:Nat) (p v:Value) (l:List UInt8) (w:World),w.heap[b]? = some (.cells #[p,v] T (0,0))→w.ownsRow 0 ty 1 v l.length (Lib.byteCells l)→l≠[] →
 Calls P f #[.pointer (some ⟨b,0,none⟩)] w fun e w'=>e = .returned (.string ⟨l.toArray⟩)∧∃ g,v.ownBlock=some g∧w' = w.drew.freeze ⟨g,0,none⟩ l.length
theorem zj0 (w:World) (g n k:Nat) (h:k≠g):(w.freeze ⟨g,0,none⟩ n).heap[k]? = w.heap[k]?:=by
 unfold World.freeze
 split <;> simp[Array.getElem?_modify,Array.getElem?_setIfInBounds,Ne.symm h]
theorem zk1 (w:World) (g n:Nat):(w.freeze ⟨g,0,none⟩ n).tape=w.tape∧(w.freeze ⟨g,0,none⟩ n).os=w.os∧(w.freeze ⟨g,0,none⟩ n).output=w.output∧(w.freeze ⟨g,0,none⟩ n).heap.size=w.heap.size:=by
 unfold World.freeze
 split <;> simp
theorem zsv {c:Cx} {s:St} {o:Oper} {f:FuncId} {t nm nm2 T ty:Nat} {dp:D} {l:List UInt8} {H:Heap} {O:List Heap}
  (hspec:zyu c.P f T ty) (hent:∀ args w,(callFunc f args).run c.P w = .ok (.enter f args) w) (h0:l≠[])
  (ht:o.dst=some t) (hn:t<s.n) (hS:s.S=H::O) (hb:look H nm=some (.tb T [dp,.osl 0 nm2])) (ha:look H nm2=some (.arr ty 1 l.length (u8l l) true)) :
  Wp c o s f [.own 0 nm 0 0] { σ:=(t,.i (.v (.string ⟨l.toArray⟩)))::zhp nm2 s.σ,S:=((nm2,.arr ty 1 0 [] true)::zcU nm2 H)::O,n:=s.n }:=by
 intro K ρ a w hi ⟨vs,hrun,hrep⟩ next Qe hnext
 have hh:=hi.h
 rw[hS] at hh hrep
 have hob:zab (H::O) 0 nm=some (.tb T [dp,.osl 0 nm2]):=by simpa [zab] using hb
 have hoa:zab (H::O) 0 nm2=some (.arr ty 1 l.length (u8l l) true):=by simpa [zab] using ha
 have e0:(fun d n=>ρ (0+d) n)=ρ:=by funext d n;rw[Nat.zero_add]
 have s0:∀ S:List Heap,shape (S.drop 0)=shape S:=fun S=>by rw[List.drop_zero]
 have hwb:=hh.own _ _ _ hob
 rw[e0,s0] at hwb
 obtain⟨cur,hc,hrc,hKb⟩:=hwb
 have hwa:=hh.own _ _ _ hoa
 rw[e0,s0] at hwa
 obtain⟨olds,hro,hrow⟩:=zkL hwa
 have hold:olds=Lib.byteCells l:=by
  rw[zif] at hro
  have:(l.map fun b=>I.v (.int .u8 b.toNat))=(l.map fun b=>Value.int .u8 b.toNat).map I.v:=by rw[List.map_map];rfl
  rw[this] at hro
  exact zjt hro
 subst hold
 have hshb:shape (H::O) 0 nm=some .box:=by simp[shape,hob,Ob.sh]
 have hsha:shape (H::O) 0 nm2=some (.arr 1 l.length):=by simp[shape,hoa,Ob.sh]
 obtain⟨p,v0,hcur,hv0⟩:∃ p v0,cur = #[p,v0]∧RepD K ρ (shape (H::O)) v0 (.osl 0 nm2):=by
  generalize hL:cur.toList=L at hrc
  cases hrc with
  | cons h1 h2=>cases h2 with
   | cons h3 h4=>cases h4;exact⟨_,_,Array.ext' (by rw[hL]),h3⟩
 subst hcur
 have hv0:=zev hv0 hsha
 subst hv0
 obtain⟨rfl⟩:vs=[.pointer (some ⟨(ρ 0 nm).block,0,none⟩)]:=by
  cases hrep with
  | cons h1 h2=>cases h2;rw[zgQ h1 hshb]
 rw[hent] at hrun
 simp only[Oper.wp,hrun,Oper.upon]
 refine (hspec _ p _ l w hc hrow h0).mono ?_
 rintro e w' ⟨rfl,g,hgb,rfl⟩
 obtain⟨r1,r2,r3,r4⟩:=zk1 w.drew g l.length
 have hbase:(ρ 0 nm2).base=some ⟨(ρ 0 nm2).block,0,none⟩:=by
  rcases hwa.2.2.2.2 with ⟨_,h1⟩ | ⟨h1,_⟩
  ·rw[h1] at hgb;simp[Value.ownBlock] at hgb
  ·exact h1
 have hgb:(ρ 0 nm2).block=g:=by rw[hbase] at hgb;simpa [Value.ownBlock] using hgb
 subst hgb
 have hKo:zaD (ρ 0 nm2) (.arr ty 1 l.length (u8l l) true)→∀ o,K (ρ 0 nm2).block o=none:=by
  intro hbk
  obtain⟨_,_,_,_,h5⟩:=hwa
  rcases h5 with ⟨_,h6⟩ | ⟨_,c,_,_,_,h9,_⟩
  ·exact absurd h6 hbk
  ·exact h9 rfl
 let l0:Loc:=⟨0,0,none⟩
 have hap:Apnd K w (w.drew.freeze ⟨(ρ 0 nm2).block,0,none⟩ l.length) (ρ 0 nm2) l0:=by
  refine⟨Nat.le_of_eq r4.symm,fun b _ hne=>?_,⟨r1,r2,r3⟩,fun e=>absurd rfl e⟩
  exact zj0 w.drew _ _ _ (hne (by rw[hbase];simp))
 obtain⟨hI3,hbut⟩:=hh.renew (nm:=nm2) (dst:=nm2) ha (by rw[zcv];simp) hap Iff.rfl (ob':=.arr ty 1 0 [] true) Iff.rfl hKo (fun ρ' sh'=>⟨by simp,rfl,Nat.le_refl _,by simp[l0],.inl ⟨rfl,rfl⟩⟩)
 refine hnext _ _ K (upd ρ nm2 l0) ?_
 ·rw[ht]
  refine⟨hI3,hi.defers,by simp[Act.put];exact hi.size,fun t' d' e'=>?_⟩
  rw[zdP (by rw[hi.size];exact hn)]
  simp only[zac] at e'
  split at e'
  ·rename_i e2
   simp only[Option.some.injEq] at e'
   subst e'
   rw[if_pos e2]
   exact .i (.v rfl)
  ·rename_i e2
   rw[if_neg e2]
   rw[zd2] at e'
   cases hls:look s.σ t' with
   | none=>simp[hls] at e'
   | some d0=>
    simp only[hls,Option.map_some,Option.some.injEq] at e'
    subst e'
    have hr:=hi.slots _ _ hls
    rw[hS] at hr
    exact hr.kill hbut
end
end Go.AI
namespace Go.AI
open Go.Proofs
section
variable {P:Program} {T:TT} {E:Env} {K:Kn} {ρ:Nat→Nat→Loc} {S:List Heap} {w:World} {dst:Nat}
theorem zx3 (hw:HInv E K ρ S w) (hf:zab S 0 dst=none) {cs:List Value} {ds:List D} (hr:RepDL K ρ (shape S) cs ds) (ty:TypeId) :
  ∃ l,Grow K ρ S w [(dst,.tb ty ds)] K (upd ρ dst l) (w.alloc (.cells cs.toArray ty))∧RepD K (upd ρ dst l) (shape (addS S [(dst,.tb ty ds)])) (.pointer (some ⟨w.heap.size,0,none⟩)) (.own 0 dst 0 0):=by
 have hst:=zjj (K:=K) (ρ:=ρ) hf (.tb ty ds) ⟨w.heap.size,0,none⟩
 refine⟨⟨w.heap.size,0,none⟩,zfq hw hf (.inl rfl) (fun _=>rfl) ⟨cs.toArray,heap_alloc_new w _,by simpa using hr.stays hst,fun o=>hw.K_fresh (Nat.le_refl _)⟩,?_⟩
 have hsh:shape (addS S [(dst,.tb ty ds)]) 0 dst=some .box:=by
  cases S with
  | nil=>simp[shape,addS,zab,zac,Ob.sh]
  | cons H O=>simp[shape,zbw,zac,Ob.sh]
 have:=RepD.box (K:=K) (ρ:=upd ρ dst ⟨w.heap.size,0,none⟩) (off:=0) hsh
 rwa [zaP] at this
end
section
variable {c:Cx} {s:St} {k:List Item} {ops:Array Oper} {rest:List Nat} {o:Oper}
theorem g_tb (hT:TOk c.P c.T) (hfn:c.P.funcs[c.f]? = some c.fn) {i t nm:Nat} {ti:TI} {H:Heap} {O:List Heap} (ho:ops[i]? = some o) (hop:o.op = .alloc t) (hd:o.dst=some nm) (hg:o.guard=none) (hn:Nat.ble (nm+1) s.n=true) (hi:look c.T t=some ti)
  (hS:s.S=H::O) (hf:look H nm=none) (h:GM c (run c.T c.stop 1000 (.inRegion ops rest::k) { σ:=(nm,.own 0 nm 0 0)::s.σ,S:=((nm,.tb t (ti.zero.map fun v=>.i (.v v)))::H)::O,n:=s.n })) :
  GM c (.pause ops i rest o s k):=by
 refine⟨?_⟩
 have hk:RG c ops rest { σ:=(nm,.own 0 nm 0 0)::s.σ,S:=((nm,.tb t (ti.zero.map fun v=>.i (.v v)))::H)::O,n:=s.n } k:=zba hT hfn 1000 (.inRegion ops rest::k) _ h.h
 refine zwv ho (by unfold zaY;rw[hg]) ?_
 intro K ρ a w hinv next Qe hnext
 have hok:=hT _ _ hi
 have hh:=hinv.h
 rw[hS] at hh
 obtain⟨inf,h1,h2,h3,z,h4,h5,-⟩:=hok.info
 have hf':zab (H::O) 0 nm=none:=by simpa [zab] using hf
 obtain⟨l,g,r⟩:=zx3 (dst:=nm) hh hf' (ziv hok.one) t
 have hz:z.cells=ti.zero.toArray:=by rw[← h5]
 have hrun:(execOp a.eval o).run c.P w = .ok (.value (.pointer (some ⟨w.heap.size,0,none⟩))) (w.alloc (.cells ti.zero.toArray t)):=by
  simp[execOp,hop,Instr.alloc,zeroValue,typeInfo,h1,h4,newVar,newRow,hz]
 simp only[Oper.wp,hrun,Oper.upon]
 obtain⟨hI,hst⟩:=HInv.grow (S:=H::O) rfl hh (fun _ _ _ e=>e) (fun n' h=>by
  cases hl:look [(nm,Ob.tb t (ti.zero.map fun v=>.i (.v v)))] n' with
  | none=>exact absurd hl h
  | some ob=>obtain⟨rfl,rfl⟩:=zaO hl;exact hf) g
 refine hnext _ _ _ _ _ hst.le (fun d n x _ e=>⟨hst.shp _ _ _ (by rw[hS] at e;exact e),hst.loc _ _ _ (by rw[hS] at e;exact e)⟩) ?_ hk
 rw[hd]
 refine zeu hinv (Nat.le_of_ble_eq_true hn) hI ?_ r
 rw[hS];exact hst
theorem ztJ (b nm e z:Nat) {T:Nat} {x:D} {H:Heap} {O:List Heap} (hS:s.S=H::O) (hb:look H b=some (.tb T [x,.i (.v (.slice none 0 0))])) (hf:look H nm=none):Wk c s { σ:=s.σ,S:=((b,.tb T [x,.osl 0 nm])::(nm,.arr e z 0 [] true)::H)::O,n:=s.n }:=by
 intro K ρ a w hi
 have hh:=hi.h
 rw[hS] at hh
 let l0:Loc:=⟨0,0,none⟩
 have hown:∀ ρ' sh',OwnAt K ρ' sh' w l0 (.arr e z 0 [] true):=fun ρ' sh'=>⟨by simp,rfl,Nat.le_refl _,by simp[l0],.inl ⟨rfl,rfl⟩⟩
 have hg:Grow K ρ (H::O) w [(nm,.arr e z 0 [] true)] K (upd ρ nm l0) w:=by
  refine⟨K.le_refl,fun _ _ _ h=>.inl h,Nat.le_refl _,fun _ _=>rfl,⟨rfl,rfl,rfl⟩,fun d n' h=>?_,hh.holds,fun n' ob e'=>?_,fun n1 o1 n2 o2 e1 e2 b1 b2 _=>?_⟩
  ·refine zaL _ _ _ (h.imp id fun h e'=>?_)
   subst e'
   simp[zac] at h
  ·obtain⟨rfl,rfl⟩:=zaO e'
   rw[zaP]
   exact⟨hown _ _,fun hb=>absurd rfl hb⟩
  ·obtain⟨rfl,rfl⟩:=zaO e1
   obtain⟨rfl,rfl⟩:=zaO e2
   rfl
 obtain⟨hI,hst⟩:=HInv.grow (S:=H::O) rfl hh (fun _ _ _ e=>e) (fun n' h=>by
  cases hl:look [(nm,Ob.arr e z 0 [] true)] n' with
  | none=>exact absurd hl h
  | some ob=>obtain⟨rfl,rfl⟩:=zaO hl;exact hf) hg
 have hbn:nm≠b:=fun e'=>by subst e';rw[hf] at hb;cases hb
 have hI:HInv c.E K (upd ρ nm l0) (((nm,.arr e z 0 [] true)::H)::O) w:=hI
 have hob:zab (((nm,.arr e z 0 [] true)::H)::O) 0 b=some (.tb T [x,.i (.v (.slice none 0 0))]):=by
  simp only[zab,List.getElem?_cons_zero,zac,if_neg hbn];exact hb
 have hwb:=hI.own _ _ _ hob
 have e0:(fun d n=>upd ρ nm l0 (0+d) n)=upd ρ nm l0:=by funext d n;rw[Nat.zero_add]
 have e1:(fun d n=>shape (((nm,Ob.arr e z 0 [] true)::H)::O) (0+d) n)=shape (((nm,Ob.arr e z 0 [] true)::H)::O):=by funext d n;rw[Nat.zero_add]
 obtain⟨cur,hc,hrc,hKb⟩:=hwb
 rw[e0,List.drop_zero] at hrc
 have hnew:RepDL K (fun d n=>upd ρ nm l0 (0+d) n) (fun d n=>shape (((nm,Ob.arr e z 0 [] true)::H)::O) (0+d) n) cur.toList [x,.osl 0 nm]:=by
  rw[e0,e1]
  generalize cur.toList=L at hrc
  cases hrc with
  | cons h1 h2=>cases h2 with
   | cons h3 h4=>
    cases h4
    rw[zaQ h3]
    have:=RepD.osl (K:=K) (ρ:=upd ρ nm l0) (sh:=shape (((nm,Ob.arr e z 0 [] true)::H)::O)) (dep:=0) (nm:=nm) (es:=z) (len:=0) (by simp[shape,zab,zac,Ob.sh])
    rw[zaP] at this
    exact .cons h1 (.cons this .nil)
 have hI2:=hI.put (ob':=.tb T [x,.osl 0 nm]) hob rfl trivial trivial (w':=w) rfl (fun _ _=>rfl) ⟨rfl,rfl,rfl⟩ (fun o' x' hx'=>by rw[hKb] at hx';cases hx') ⟨cur,hc,hnew,hKb⟩
 have hsh:shape (setAt (((nm,Ob.arr e z 0 [] true)::H)::O) 0 b (.tb T [x,.osl 0 nm]))=shape (((nm,Ob.arr e z 0 [] true)::H)::O):=zbA hob rfl
 refine⟨K,upd ρ nm l0,hI2,hi.defers,hi.size,fun t' d e'=>?_⟩
 have:=hi.slots _ _ e'
 rw[hS] at this
 show RepD K _ (shape (((b,.tb T [x,.osl 0 nm])::(nm,.arr e z 0 [] true)::H)::O)) _ _
 have hsh:shape (((b,.tb T [x,.osl 0 nm])::(nm,.arr e z 0 [] true)::H)::O)=shape (((nm,Ob.arr e z 0 [] true)::H)::O):=hsh
 rw[hsh]
 exact this.stays hst
end
end Go.AI
namespace Go.Proofs
open Go.Shelf Go.RowKit
theorem zxR:(Tryz.prog.info? 277).map (·.size)=some 2:=by kernel_rfl
theorem zyE:liesAt Tryz.prog Tryz.prog.depth 277 (2 / Tryz.prog.cellsOf 277) 0 277 1=true:=by kernel_rfl
set_option maxRecDepth 100000 in
theorem zvf (b:Nat) (w:World) (h0:w.cell? ⟨b,0,none⟩=some (.pointer (some ⟨b,0,none⟩))) :
  Calls Tryz.prog 218 #[.pointer (some ⟨b,0,none⟩)] w fun e w'=>e = .returned (.tuple #[])∧w' = w:=by
 obtain⟨j,hj,_⟩:=Option.map_eq_some_iff.1 zxR
 have u72:=run_underlying Tryz.underlying277
 have u70:=run_underlying Tryz.underlying275
 have u4:=run_underlying Tryz.underlying4
 have u164:=run_underlying Tryz.underlying371
 go_enter Tryz.func218,Tryz.ntmps218
 go_wp2
 rw[Lib.run_neq_ptr_same w _ Tryz.underlying275 hj]
 go_wp2
 go_end0
 exact⟨rfl,rfl⟩
set_option maxRecDepth 100000 in
theorem zsF (b:Nat) (w:World) (h0:w.cell? ⟨b,0,none⟩=some (.pointer none)) (hsh:w.shape? b=some (277,2)) (hfz:w.frozen? ⟨b,0,none⟩=false) :
  Calls Tryz.prog 218 #[.pointer (some ⟨b,0,none⟩)] w fun e w'=>e = .returned (.tuple #[])∧w' = w.setCell ⟨b,0,none⟩ (.pointer (some ⟨b,0,none⟩)):=by
 obtain⟨j,hj,hjs⟩:=Option.map_eq_some_iff.1 zxR
 have u72:=run_underlying Tryz.underlying277
 have u70:=run_underlying Tryz.underlying275
 have u4:=run_underlying Tryz.underlying4
 have u164:=run_underlying Tryz.underlying371
 go_enter Tryz.func218,Tryz.ntmps218
 go_wp2
 rw[Lib.run_to_unsafe w ⟨b,0,none⟩ Tryz.underlying275 Tryz.underlying371 hj (by rw[hjs];decide) hsh (Nat.zero_lt_succ 1)]
 simp only[Result.andThen]
 rw[Oper.upon_value]
 go_wp2
 rw[run_callFunc_extern Tryz.func251 (by kernel_rfl) (by kernel_rfl) (by kernel_rfl) (e:=Extern.AbiNoEscape.same) (by kernel_rfl)]
 rw[Lib.run_noEscape]
 simp only[Result.andThen]
 rw[Oper.upon_value]
 go_wp2
 rw[Lib.run_from_unsafe w ⟨b,0,none⟩ Tryz.underlying371 Tryz.underlying275 hj hsh zyE]
 simp only[Result.andThen]
 rw[Oper.upon_value]
 go_wp2
 go_end0
 exact⟨rfl,rfl⟩
theorem zfQ (b:Nat) (p v:Value) (bs:List Value) (w:World) (hp:p = .pointer none∨p = .pointer (some ⟨b,0,none⟩)) (hbk:w.heap[b]? = some (.cells #[p,v] 277 (0,0)))
  (hrow:w.ownsRow 0 5 1 v bs.length bs) (hne:v.ownBlock≠some b) :
  Calls Tryz.prog 218 #[.pointer (some ⟨b,0,none⟩)] w fun e w'=>e = .returned (.tuple #[])∧(w'.heap[b]? = some (.cells #[.pointer (some ⟨b,0,none⟩),v] 277 (0,0))∧w'.ownsRow 0 5 1 v bs.length bs) ∧
   ((w' = w∧p = .pointer (some ⟨b,0,none⟩))∨(w' = w.setCell ⟨b,0,none⟩ (.pointer (some ⟨b,0,none⟩))∧p = .pointer none)):=by
 have hc:w.cell? ⟨b,0,none⟩=some p:=by rw[Lib.cell_of_heap hbk];rfl
 rcases hp with rfl | rfl
 ·have hsh:w.shape? b=some (277,2):=by simp[World.shape?,hbk]
  refine (zsF b w hc hsh (Lib.frozen_of_heap hbk 0)).mono ?_
  rintro e w' ⟨rfl,rfl⟩
  exact⟨rfl,⟨zgV hbk,zpk hrow fun k hk=>Go.Deep.blk_setCell_other w _ _ k fun e=>hne (by rw[hk,e])⟩,.inr ⟨rfl,rfl⟩⟩
 ·refine (zvf b w hc).mono ?_
  rintro e w' ⟨rfl,rfl⟩
  exact⟨rfl,⟨hbk,hrow⟩,.inl ⟨rfl,rfl⟩⟩
set_option maxRecDepth 100000 in
theorem zsL (b:Nat) (p v0:Value) (bs:List Value) (s:ByteArray) (w:World) (hp:p = .pointer none∨p = .pointer (some ⟨b,0,none⟩)) (hbk0:w.heap[b]? = some (.cells #[p,v0] 277 (0,0)))
  (hrow:w.ownsRow 0 5 1 v0 bs.length bs) (hne:v0.ownBlock≠some b) (hlen:bs.length+s.size≤140737488355328) :
  Calls Tryz.prog 155 #[.pointer (some ⟨b,0,none⟩),.string s] w fun e w'=>e = .returned (.tuple #[.int .i64 s.size,.nilIface])∧zsU 277 5 b p v0 bs (Lib.strCells s) w w':=by
 obtain⟨i0,hi,hz0,hz1,hz2⟩:=info_parts Tryz.Builder_Extra_169.infoByte
 have u72:=run_underlying Tryz.underlying277
 have u70:=run_underlying Tryz.underlying275
 have u37:=run_underlying Tryz.underlying71
 have u9:=run_underlying Tryz.underlying9
 have u4:=run_underlying Tryz.underlying4
 have u5:=run_underlying Tryz.underlying5
 have u3:=run_underlying Tryz.underlying3
 have e240:∀ args w,(callFunc 218 args).run Tryz.prog w = .ok (.enter 218 args) w:=Tryz.call218
 go_enter Tryz.func155,Tryz.ntmps155
 go_wp2_with (go_at_fn 218;refine (zfQ b p v0 bs _ hp hbk0 hrow hne).mono ?_)
 rintro e w1 ⟨rfl,⟨hbk,hown⟩,hb1⟩
 have c0:w1.cell? ⟨b,0,none⟩=some (.pointer (some ⟨b,0,none⟩)):=by rw[Lib.cell_of_heap hbk];rfl
 have c1:w1.cell? ⟨b,1,none⟩=some v0:=by rw[Lib.cell_of_heap hbk];rfl
 have hlt:b<w1.heap.size:=by
  rcases Nat.lt_or_ge b w1.heap.size with h' | h'
  ·exact h'
  ·simp[Array.getElem?_eq_none h'] at hbk
 go_wp2_with (at_builtin;refine zhf _ rfl _ _ 71 9 rfl 5 i0 Tryz.underlying71 Tryz.underlying9 hi hz0 hz1 hz2 _ _ _ rfl hown s rfl ?c3 ?c4 ?_)
 case c3=>unfold maxLen;omega
 case c4=>omega
 intro v' w2 hown' hgrow hat
 have hb2:w2.heap[b]? = some (.cells #[.pointer (some ⟨b,0,none⟩),v0] 277 (0,0)):=by
  rw[hgrow.block b hlt (fun e=>hne e.symm)]
  exact hbk
 have d0:w2.cell? ⟨b,0,none⟩=some (.pointer (some ⟨b,0,none⟩)):=by rw[Lib.cell_of_heap hb2];rfl
 have d1:w2.cell? ⟨b,1,none⟩=some v0:=by rw[Lib.cell_of_heap hb2];rfl
 have f1:w2.frozen? ⟨b,1,none⟩=false:=Lib.frozen_of_heap hb2 1
 have hfin:zsU 277 5 b p v0 bs (Lib.strCells s) w (w2.setCell ⟨b,1,none⟩ v'):=⟨w1,w1,w2,v',hb1,.inl rfl,by simpa [Lib.strCells_length] using hown',hgrow,hat,rfl⟩
 obtain⟨ao,n',cap,rfl⟩:∃ ao n' cap,v' = .slice ao n' cap:=by
  rcases hown'.2 with ⟨hv,_⟩ | ⟨g,cap,cur,hv,_⟩
  ·exact⟨_,_,_,hv⟩
  ·exact⟨_,_,_,hv⟩
 go_wp2
 go_ret2
 exact⟨rfl,hfin⟩
set_option maxRecDepth 100000 in
theorem zlq (b:Nat) (p v0:Value) (bs:List Value) (c:Int) (w:World) (hp:p = .pointer none∨p = .pointer (some ⟨b,0,none⟩)) (hbk0:w.heap[b]? = some (.cells #[p,v0] 277 (0,0)))
  (hrow:w.ownsRow 0 5 1 v0 bs.length bs) (hne:v0.ownBlock≠some b) (hlen:bs.length+1≤140737488355328) :
  Calls Tryz.prog 156 #[.pointer (some ⟨b,0,none⟩),.int .u8 c] w fun e w'=>e = .returned .nilIface∧zsU 277 5 b p v0 bs [.int .u8 c] w w':=by
 obtain⟨i0,hi,hz0,hz1,hz2⟩:=info_parts Tryz.Builder_Extra_169.infoByte
 have u72:=run_underlying Tryz.underlying277
 have u70:=run_underlying Tryz.underlying275
 have u37:=run_underlying Tryz.underlying71
 have u4:=run_underlying Tryz.underlying4
 have u5:=run_underlying Tryz.underlying5
 have e240:∀ args w,(callFunc 218 args).run Tryz.prog w = .ok (.enter 218 args) w:=Tryz.call218
 go_enter Tryz.func156,Tryz.ntmps156
 go_wp2_with (go_at_fn 218;refine (zfQ b p v0 bs _ hp hbk0 hrow hne).mono ?_)
 rintro e w1 ⟨rfl,⟨hbk,hown⟩,hb1⟩
 have c0:w1.cell? ⟨b,0,none⟩=some (.pointer (some ⟨b,0,none⟩)):=by rw[Lib.cell_of_heap hbk];rfl
 have c1:w1.cell? ⟨b,1,none⟩=some v0:=by rw[Lib.cell_of_heap hbk];rfl
 have hlt:b<w1.heap.size:=by
  rcases Nat.lt_or_ge b w1.heap.size with h' | h'
  ·exact h'
  ·simp[Array.getElem?_eq_none h'] at hbk
 go_wp2_with (at_builtin;refine zhg _ rfl _ _ 71 rfl 5 i0 Tryz.underlying71 hi hz0 hz1 hz2 _ _ _ rfl (hown.alloc _) ⟨w1.heap.size,0,none⟩ 1 1 [.int .u8 c] rfl rfl ?c1 ?c2 ?c3 ?c4 ?_)
 case c1=>
  intro j u hj
  match j,hj with
  | 0,hj=>simp at hj;subst hj;simp[Addr.add]
 case c2=>intro u hu;simp at hu;subst hu;rfl
 case c3=>unfold maxLen;omega
 case c4=>omega
 intro v' w2 hown' hgrow hat
 have hb2:w2.heap[b]? = some (.cells #[.pointer (some ⟨b,0,none⟩),v0] 277 (0,0)):=by
  rw[hgrow.block b (by simp;omega) (fun e=>hne e.symm),Lib.alloc_old w1 _ b hlt]
  exact hbk
 have d0:w2.cell? ⟨b,0,none⟩=some (.pointer (some ⟨b,0,none⟩)):=by rw[Lib.cell_of_heap hb2];rfl
 have d1:w2.cell? ⟨b,1,none⟩=some v0:=by rw[Lib.cell_of_heap hb2];rfl
 have f1:w2.frozen? ⟨b,1,none⟩=false:=Lib.frozen_of_heap hb2 1
 have hfin:zsU 277 5 b p v0 bs [.int .u8 c] w (w2.setCell ⟨b,1,none⟩ v'):=⟨w1,_,w2,v',hb1,.inr ⟨_,rfl⟩,by simpa using hown',hgrow,hat,rfl⟩
 obtain⟨g,cap,rfl⟩:∃ g cap,v' = .slice (some ⟨g,0,none⟩) (bs.length+1) cap:=by
  rcases hown'.2 with ⟨_,h0⟩ | ⟨g,cap,cur,hv,_⟩
  ·omega
  ·exact⟨g,cap,hv⟩
 go_wp2
 go_ret
 exact⟨rfl,hfin⟩
end Go.Proofs
namespace Go.AI
open Go.Proofs
theorem zvW (s:ByteArray):zxC Tryz.prog 155 277 5 (.tuple #[.int .i64 s.size,.nilIface]) (.string s) (Lib.strCells s):=
 fun b p v0 bs w hp hbk hrow hne hlen=>zsL b p v0 bs s w hp hbk hrow hne (by rw[Lib.strCells_length] at hlen;exact hlen)
theorem ztH (c:Int):zxC Tryz.prog 156 277 5 .nilIface (.int .u8 c) [.int .u8 c]:=
 fun b p v0 bs w hp hbk hrow hne hlen=>zlq b p v0 bs c w hp hbk hrow hne (by simpa using hlen)
theorem zv8:zyu Tryz.prog 157 277 5:=fun b p v l w hbk hown h0=>zpS Tryz.lays169 Tryz.Builder_Extra_169 b p v l w hbk hown h0
end Go.AI
namespace Go.Proofs
open Go.Shelf Go.RowKit
end Go.Proofs
namespace Go.Proofs
open Go.Shelf Go.RowKit
end Go.Proofs
namespace Go.AI
open Go.Proofs
end Go.AI
namespace Go.AI
open Go.Proofs
set_option maxRecDepth 20000
def zkD (l:List Int) (n:Nat):List Int:=((List.range n).map fun (i:Nat)=>(i:Int)).filter fun x=>decide (x∈l)
def stp3 (es:List Edg) (s ev:Int):Int:=match es with
 | []=>-1
 | x::r=>if x.1=s∧x.2.1=ev then x.2.2 else stp3 r s ev
end Go.AI
namespace Go.AI
structure autOk (a:Aut):Prop where
 ed:a.edges.length≤1000000
 al:a.alpha.length≤1000000
 mkd:a.marked.length≤1000000
 chk:chkA a=0
end Go.AI
namespace Go.AI
open Go.Proofs
set_option maxRecDepth 20000
structure fOk (n:Int) (out:List Int):Prop where
 nd:out.Nodup
 b:∀ x∈out,0≤x∧x<n
end Go.AI
namespace Go.AI
def rvB (p:Int→Bool) (s:Int):List Edg→List Int→List Int
 | [],l=>l
 | e::r,l=>rvB p s r (if e.1=s∧p e.2.1=true∧e.2.2 ∉ l then l++[e.2.2] else l)
def rlB (es:List Edg) (p:Int→Bool):Nat→Nat→List Int→List Int
 | 0,_,l=>l
 | f+1,i,l=>match l[i]? with
  | none=>l
  | some s=>rlB es p f (i+1) (rvB p s es l)
def zxV (es:List Edg) (p:Int→Bool) (n:Nat) (l:List Int):List Int:=rlB es p (l.length+n) 0 l
def clo (es:List Edg) (p:Int→Bool) (n:Nat) (l:List Int):List Int:=zkD (zxV es p n l) n
structure grOk (n:Nat) (fr l:List Int):Prop where
 ex:∃ ad,l=fr++ad∧fOk n ad
inductive Rc (es:List Edg) (p:Int→Bool) (l:List Int):Int→Prop
 | base {x:Int}:x∈l→Rc es p l x
 | step {e:Edg}:Rc es p l e.1→e∈es→p e.2.1=true→Rc es p l e.2.2
def zc9 (l:List Int):List Int:=l.mergeSort fun x y=>decide (x≤y)
theorem zgn (l:List Int):(zc9 l).length=l.length:=by unfold zc9;exact List.length_mergeSort l
theorem ztT (l:List Int):(zc9 l).Pairwise (· ≤ ·):=by
 unfold zc9
 have:=List.pairwise_mergeSort (le:=fun x y:Int=>decide (x≤y)) (fun a b c h1 h2=>by simp only[decide_eq_true_eq] at *;omega) (fun a b=>by simp only[Bool.or_eq_true,decide_eq_true_eq];omega) l
 exact this.imp fun {a b} h=>of_decide_eq_true h
end Go.AI
namespace Go.AI
open Go.Proofs
set_option maxRecDepth 20000
structure Moved (E0 E:Env) (nm:Nat):Prop where
 K0:E.K0=E0.K0
 w0:E.w0=E0.w0
 ρ:∀ d n,(d≠0∨n≠nm)→E.ρ0 d n=E0.ρ0 d n
 sub:∀ b,E.pr b→E0.pr b
 pr:∀ b,E0.pr b→((E0.ρ0 0 nm).base≠none→b≠(E0.ρ0 0 nm).block)→E.pr b
 blk:(E.ρ0 0 nm).base≠none→E0.w0.heap.size≤(E.ρ0 0 nm).block∨((E0.ρ0 0 nm).base≠none∧(E.ρ0 0 nm).block=(E0.ρ0 0 nm).block)
section
variable {P:Program} {T:TT} {f:FuncId} {fn:Func} {code:Code}
end
section
variable {c:Cx} {s:St} {k:List Item} {ops:Array Oper} {rest:List Nat} {o:Oper} {E0:Env} {H:Heap} {O:List Heap}
end
section
variable {P:Program} {T:TT} {E:Env} {K:Kn} {ρ ρ':Nat→Nat→Loc} {S:List Heap} {w:World} {sh sh':Nat→Nat→Option Sh} {m:Nat}
end
section
variable {c:Cx} {s:St} {k:List Item} {ops:Array Oper} {rest:List Nat} {o:Oper} {E0:Env} {H0 H1 H:Heap} {O:List Heap}
end
abbrev bools (sn:List Bool):Ob:=.arr 4 1 sn.length (sn.map fun b=>[.v (.bool b)]) true
end Go.AI
namespace Go.AI
open Go.Proofs
theorem zkJ {w:World} {b:Nat} {d:Array Int} {c:Array Value} {ty:TypeId} {fr:Nat × Nat} (h:w.heap[b]? = some (.cells c ty fr)) :
  (Sort.putRow (Value.int .i64) w b 0 d).heap[b]? = some (.cells (Sort.putCells (Value.int .i64) 0 d c) ty fr)∧∀ b',b' ≠ b→(Sort.putRow (Value.int .i64) w b 0 d).heap[b']? = w.heap[b']?:=by
 unfold Sort.putRow Sort.mapBlock
 refine⟨?_,fun b' hb=>?_⟩
 ·simp[Array.getElem?_modify,h,Sort.onCells]
 ·simp only[Array.getElem?_modify]
  rw[if_neg (fun e=>hb e.symm)]
theorem zxN (O:List Heap) (d nm:Nat) (l:List Int) (hpos:0<l.length) (hl:l.length<4611686018427387904) (ho:zab O d nm=some (zbV l)):zan Tryz.prog 172 [.osl d nm] O (.tup []) [] (setAt O d nm (zbV (zc9 l))):=by
 intro E K ρ w vs hw hrep
 obtain rfl:vs=[.slice (ρ d nm).base l.length (ρ d nm).cap]:=by
  cases hrep with
  | cons r rs=>
   cases rs
   rw[zev (es:=1) (len:=l.length) r (by simp[shape,ho,Ob.sh])]
 obtain⟨ρ1,hρ1,hI⟩:=zc5 hw
 have ho1:zab (([]:Heap)::O) (d+1) nm=some (zbV l):=zav ho
 have hown1:=zeg (s:={ σ:=[],S:=[]::O,n:=0 }) hI ho1
 have hsl:=zgn l
 refine .inl ⟨Tryz.call172 _ _,?_⟩
 obtain⟨h1,h2,h3,h4,h5⟩:=hown1
 have hloc:ρ1 (d+1) nm=ρ d nm:=by rw[hρ1]
 rw[hloc] at h3 h4 h5
 rcases h5 with ⟨h5,h6⟩ | ⟨h5,c,h6,h7,h8,h9,h10,h11⟩
 ·exfalso;omega
 ·have hcl:c.toList.take l.length=l.map (Value.int .i64):=by
   rw[Nat.mul_one] at h8
   exact zgz h8
  have hsz:l.length≤c.size:=by rw[h7,Nat.mul_one];exact h3
  have hblk:(ρ d nm).block<w.heap.size:=(Array.getElem?_eq_some_iff.1 h6).1
  rw[h5]
  refine (Tryz.slices_Sort_int (ρ d nm).block 0 (ρ d nm).cap l w (fun j hj=>⟨?_,?_⟩) hblk hl).mono ?_
  ·have hj:j<l.length:=by simpa using hj
   rw[Nat.zero_add,cell_of_heap h6]
   have:(c.toList.take l.length)[j]? = some (.int .i64 l[j]):=by
    rw[hcl,List.getElem?_map,List.getElem?_eq_getElem hj]
    rfl
   rw[List.getElem?_take,if_pos hj] at this
   have e:l.toArray[j]! = l[j]:=by simp[hj]
   rw[e]
   simpa using this
  ·simp[World.frozen?,h6]
  ·rintro e w' ⟨rfl,n,os,rfl⟩
   have hh:(Sort.ahead w n).heap[(ρ d nm).block]? = some (.cells c 3 (0,0)):=h6
   obtain⟨a1,a2⟩:=zkJ (d:=(zc9 l).toArray) hh
   have hbk:zaD (ρ1 (d+1) nm) (zbV l):=by rw[hloc];show _≠none;rw[h5];simp
   have hfin:HInv (.of K ρ w) K ρ1 (setAt ([]::O) (d+1) nm (zbV (zc9 l))) (Sort.putRow (Value.int .i64) (Sort.ahead w n) (ρ d nm).block 0 (zc9 l).toArray):=by
    refine hI.put ho1 (by simp[Ob.sh,hsl]) hbk (by rw[hloc];show _≠none;rw[h5];simp) (by simp[Sort.ahead]) (fun b hb=>a2 b (by rw[← hloc];exact hb)) ⟨rfl,rfl,rfl⟩ (fun o x hx=>?_) ?_
    ·rw[hloc] at hx ⊢
     rw[h9 rfl] at hx;cases hx
    ·rw[hloc]
     refine⟨by simp[hsl],by simp,by simpa [hsl] using h3,h4,.inr ⟨h5,_,a1,by simp[Sort.putCells,h7],?_,fun _=>h9 rfl,fun o ho=>by rw[h9 rfl o],fun h=>by cases h⟩⟩
     have e:(Sort.putCells (Value.int .i64) 0 (zc9 l).toArray c).toList.take ((zc9 l).length * 1)=(zc9 l).map (Value.int .i64):=by
      apply List.ext_getElem?
      intro j
      rw[List.getElem?_take,Nat.mul_one]
      by_cases hj:j<(zc9 l).length
      ·rw[if_pos hj]
       have hjc:j<c.size:=by omega
       simp[Sort.putCells,hj,hjc,Array.getElem?_mapIdx]
      ·rw[if_neg hj]
       simp at hj
       simp[hj]
     rw[e]
     exact zgR _
   obtain⟨hI2,hst⟩:=HInv.grow (S:=setAt ([]::O) (d+1) nm (zbV (zc9 l))) rfl hfin (fun _ _ _ e=>e) (fun _ h=>by simp[look] at h) (zjX hfin 0 os)
   exact⟨_,rfl,K,ρ1,hI2,.tup .nil⟩
end Go.AI
namespace Go.AI
open Go.Proofs
set_option maxRecDepth 20000
theorem zw7 (O:List Heap):zan Tryz.prog 191 [.i (.v (.int .u64 0))] O (ii 0) [] O:=by
 refine zaa Tk Tryz.func191 rfl Tryz.call191 Tryz.ntmps191 (Nat.le_of_ble_eq_true rfl) fun E=>?_
 refine zag Tk Tryz.func191 ?_
 refine gcF Tk Tryz.func191 rfl ?_
 refine gcF Tk Tryz.func191 rfl ?_
 refine gcF Tk Tryz.func191 rfl ?_
 refine zaf Tk Tryz.func191 (by exact⟨by decide,by decide⟩) ?_
 refine zah Tk (r:=ii 0) rfl rfl rfl trivial rfl rfl ?_
 rfl
theorem zya (O:List Heap):zan Tryz.prog 141 [.i (.v (.int .u64 0))] O (ii 0) [] O:=by
 refine zaa Tk Tryz.func141 rfl Tryz.call141 Tryz.ntmps141 (Nat.le_of_ble_eq_true rfl) fun E=>?_
 refine zag Tk Tryz.func141 ?_
 refine gcF Tk Tryz.func141 rfl ?_
 refine zak Tk Tryz.func141 (zw7 _) rfl rfl rfl rfl rfl ?_
 refine zah Tk (r:=ii 0) rfl rfl rfl trivial rfl rfl ?_
 rfl
theorem zxh (O:List Heap):zan Tryz.prog 253 [ints [],ii 0,ii 0] O (.tup []) [] O:=by
 refine zaa Tk Tryz.func253 rfl Tryz.call253 Tryz.ntmps253 (Nat.le_of_ble_eq_true rfl) fun E=>?_
 refine zag Tk Tryz.func253 ?_
 refine zae ?_
 refine zag Tk Tryz.func253 ?_
 refine gcF Tk Tryz.func253 rfl ?_
 refine zah Tk (r:=.tup []) rfl rfl rfl trivial rfl rfl ?_
 rfl
theorem zxX (O:List Heap):zan Tryz.prog 227 [ints [],ii 0,ii 0,ii 0] O (.tup []) [] O:=by
 refine zaa Tk Tryz.func227 rfl Tryz.call227 Tryz.ntmps227 (Nat.le_of_ble_eq_true rfl) fun E=>?_
 refine zag Tk Tryz.func227 ?_
 refine zae ?_
 refine zag Tk Tryz.func227 ?_
 refine gcT Tk Tryz.func227 rfl ?_
 refine zak Tk Tryz.func227 (zxh _) rfl rfl rfl rfl rfl ?_
 refine zah Tk (r:=.tup []) rfl rfl rfl trivial rfl rfl ?_
 rfl
theorem zwb (O:List Heap):zan Tryz.prog 172 [ints []] O (.tup []) [] O:=by
 refine zaa Tk Tryz.func172 rfl Tryz.call172 Tryz.ntmps172 (Nat.le_of_ble_eq_true rfl) fun E=>?_
 refine zag Tk Tryz.func172 ?_
 refine zak Tk Tryz.func172 (zya _) rfl rfl rfl rfl rfl ?_
 refine zak Tk Tryz.func172 (zxX _) rfl rfl rfl rfl rfl ?_
 refine zah Tk (r:=.tup []) rfl rfl rfl trivial rfl rfl ?_
 rfl
def tgtE (es:List Edg) (est:List Int) (ev:Int):List Int:=(es.filter fun e=>e.2.1==ev && decide (e.1∈est)).map fun e=>e.2.2
def nxt (es:List Edg) (p:Int→Bool) (n:Nat) (est:List Int) (ev:Int):List Int:=clo es p n (tgtE es est ev)
section
variable {P:Program} {T:TT} {f:FuncId} {fn:Func} {code:Code}
end
section
variable {c:Cx} {s:St} {k:List Item} {ops:Array Oper} {rest:List Nat} {o:Oper}
end
def subs:Nat→List (List Int)
 | 0=>[[]]
 | n+1=>subs n++(subs n).map (· ++ [(n:Int)])
structure estsOk (n:Nat) (sts:List (List Int)):Prop where
 nd:sts.Nodup
 el:∀ s∈sts,s∈subs n∧s≠[]∧s.length≤n∧∀ x∈s,0≤x∧x<(n:Int)
theorem zsN (a:ByteArray):(a==a)=true:=(zpU a a).2 rfl
abbrev zyI (a:Aut) (on:List Int):List Int:=a.alpha.filter fun x=>decide (x∈on)
structure smallA (a:Aut):Prop where
 ed:a.edges.length≤1000000
 al:a.alpha.length≤1000000
 mkd:a.marked.length≤1000000
end Go.AI
namespace Go.AI
open Go.Proofs
open Go.Shelf Go.RowKit Go.Lib Go.Sort
end Go.AI
namespace Go.AI
open Go.Proofs
set_option maxRecDepth 20000
def lowP (on un:List Int) (only:Bool) (ev:Int):Bool:=!decide (ev∈on) && (!only || decide (ev∈un))
section
variable {c:Cx} {s:St} {k:List Item} {ops:Array Oper} {rest:List Nat} {o:Oper} {E0:Env} {H0 H1 H:Heap} {O:List Heap}
end
end Go.AI
namespace Go.AI
open Go.Proofs
section
variable {S:Type} [DecidableEq S]
structure bOk (V:List S) (l:List (S × List Int)):Prop where
 nd:(l.map (·.1)).Nodup
 el:∀ z∈l,z.1∈V
 wl:∀ (j:Nat) z,l[j]? = some z→z.2.length≤j
end
end Go.AI
namespace Go.AI
open Go.Proofs
set_option maxRecDepth 20000
theorem ztK {c:Cx} {s:St} (nm:Nat) {ty es n:Nat} {xs ys:List (List I)} {wr:Bool} {H:Heap} {O:List Heap} (hS:s.S=H::O) (ho:look H nm=some (.arr ty es n xs wr)) (hl:ys.length=xs.length) (he:∀ d∈ys,d.length=es) (hco:∀ K vs,RepL K vs xs.flatten→RepL K vs ys.flatten) :
  Wk c s { σ:=s.σ,S:=((nm,.arr ty es n ys wr)::H)::O,n:=s.n }:=by
 intro K ρ a w hi
 have hh:=hi.h
 rw[hS] at hh
 have hsh:shape (((nm,Ob.arr ty es n ys wr)::H)::O)=shape (H::O):=zbc ho rfl
 refine⟨K,ρ,hh.reob ho rfl (fun h=>h) fun h=>?_,hi.defers,hi.size,fun t d e=>?_⟩
 ·obtain⟨h1,h2,h3,h4,h5⟩:=h
  refine⟨he,by rw[hl];exact h2,h3,h4,?_⟩
  rcases h5 with h5 | ⟨h5,c',h6,h7,h8,h9⟩
  ·exact .inl h5
  ·exact .inr ⟨h5,c',h6,h7,hco _ _ h8,h9⟩
 ·show RepD K ρ (shape (((nm,Ob.arr ty es n ys wr)::H)::O)) _ _
  rw[hsh,← hS]
  exact hi.slots t d e
abbrev PS:=List Int × List Int
abbrev zm7 (a:Aut) (l:List Int):Bool:=l.any fun x=>decide (x∈a.marked)
end Go.AI
namespace Go.AI
section
variable {c:Cx} {ops:Array Oper} {O:List Heap} {n:Nat} {F:SH→List Pl→Prop}
def frPl (p:Pl) (t ty es m:Nat) (xs:List (List I)):Pl:=⟨(t,.i (.sl es m xs))::p.sets,[(t,.arr ty es m xs false)],p.rem⟩
theorem zik {o:Oper} {v:SH} {p:Pl} {t ty es m:Nat} {xs:List (List I)} (hs:look p.sets t=some (.osl 0 t)) (ha:p.adds=[(t,.arr ty es m xs true)]) (h:zdO c ops O n o v p):zdO c ops O n o v (frPl p t ty es m xs):=by
 rcases h with ⟨_,t',_,_,rfl⟩ | ⟨hw,h⟩
 ·cases ha
 ·refine .inr ⟨hw,fun E hE K ρ a w hi next Qe hn=>h E hE K ρ a w hi next Qe fun val w' σ' K' ρ' hle hk hi' hlk=>?_⟩
  have hh:=hi'.h
  have ho:look (p.adds++rmv p.rem v.2) t=some (.arr ty es m xs true):=by rw[ha];simp[zac]
  obtain⟨K2,hle2,hI⟩:=hh.freeze ho
  have hl:∀ nm,look ((t,Ob.arr ty es m xs false)::rmv p.rem v.2) nm=look ((t,Ob.arr ty es m xs false)::(p.adds++rmv p.rem v.2)) nm:=by
   intro nm
   rw[ha]
   simp only[List.singleton_append,zac]
   by_cases e:t=nm
   ·simp[e]
   ·simp[e]
  have hI2:HInv E K2 ρ' (((t,Ob.arr ty es m xs false)::rmv p.rem v.2)::O) w':=hI.same hl
  have hsh:shape (((t,Ob.arr ty es m xs false)::rmv p.rem v.2)::O)=shape ((p.adds++rmv p.rem v.2)::O):=by
   rw[zdS (O:=O) hl]
   exact zbc ho rfl
  have hS:(frPl p t ty es m xs).adds++rmv (frPl p t ty es m xs).rem v.2=(t,Ob.arr ty es m xs false)::rmv p.rem v.2:=rfl
  refine hn val w' ((t,.i (.sl es m xs))::σ') K2 ρ' (Kn.le_trans hle hle2) ?_ ⟨?_,hi'.defers,hi'.size,fun t' d e=>?_⟩ fun t' d e=>?_
  ·rw[hS,hsh];exact hk
  ·rw[hS];exact hI2
  ·show RepD K2 ρ' (shape (((frPl p t ty es m xs).adds++rmv (frPl p t ty es m xs).rem v.2)::O)) _ d
   rw[hS,hsh]
   replace e:look ((t,D.i (.sl es m xs))::σ') t' = some d:=e
   rw[zac] at e
   rcases Nat.decEq t t' with h1 | h1
   rotate_left
   ·rw[if_pos h1] at e
    subst h1
    simp only[Option.some.injEq] at e
    subst e
    have hsl:look σ' t=some (.osl 0 t):=by
     rcases hlk t _ hs with h2 | h2
     ·cases h2
     ·exact h2
    have h1:=hi'.slots t _ hsl
    have hown:=hI.own 0 t (.arr ty es m xs false) (by simp[zab,zac])
    have:=zev (es:=es) (len:=m) h1 (by
     show shape ((p.adds++rmv p.rem v.2)::O) 0 t=_
     simp[shape,zab,ha,zac,Ob.sh])
    rw[this]
    exact .i (zdV hown)
   ·rw[if_neg h1] at e
    exact (hi'.slots t' d e).stays ⟨hle2,fun _ _ _ h=>h,fun _ _ _ _=>rfl⟩
  ·replace e:look ((t,D.i (.sl es m xs))::p.sets) t' = some d:=e
   rw[zac] at e
   rcases Nat.decEq t t' with h1 | h1
   ·rw[if_neg h1] at e
    rcases hlk t' d e with h2 | h2
    ·exact .inl h2
    ·right
     show look ((t,D.i (.sl es m xs))::σ') t' = some d
     rw[zac,if_neg h1]
     exact h2
   ·rw[if_pos h1] at e
    right
    show look ((t,D.i (.sl es m xs))::σ') t' = some d
    rw[zac,if_pos h1]
    exact e
theorem zxU (hT:TOk c.P c.T) {i:Nat} {o:Oper} {rest:List Oper} {x:SH} {acc:List Pl} (p:Pl) {t ty es m:Nat} {xs:List (List I)} (hs:look p.sets t=some (.osl 0 t)) (ha:p.adds=[(t,.arr ty es m xs true)])
  (h1:MDx c ops O n (fun _ ps=>ps=acc++[p]) (runD c.T ops O n [o] x acc)) (h2:GE c ops O n F (runS c.T ops O n (i+1) rest ((frPl p t ty es m xs).ap x) (acc++[frPl p t ty es m xs]))):GE c ops O n F (.old i o rest x acc):=by
 refine⟨fun _=>?_⟩
 obtain⟨qs,hc,hq⟩:=zbN hT _ _ _ h1
 have hq:qs=[p]:=by simpa using hq
 subst hq
 exact zfr (zik hs ha hc.1) (zbm hT _ _ _ _ h2.h)
end
end Go.AI
namespace Go.AI
open Go.Proofs
set_option maxRecDepth 20000
def nxtL (es:List Edg) (p:Int→Bool) (n:Nat) (l:List Int) (obs:List Int):List Int:=obs.foldl (nxt es p n) l
end Go.AI
namespace Go.AI
open Go.Proofs
inductive FrzA (nm:Nat) (d:I):List D→List D→Prop
 | nil:FrzA nm d [] []
 | i {x:I} {l m:List D}:FrzA nm d l m→FrzA nm d (.i x::l) (.i x::m)
 | osl {l m:List D}:FrzA nm d l m→FrzA nm d (.osl 0 nm::l) (.i d::m)
def Shut (d:D):Prop:=∀ K K' ρ ρ' sh sh' v,RepD K ρ sh v d→RepD K' ρ' sh' v d
theorem zfF (x:Value):Shut (.i (.v x)):=fun _ _ _ _ _ _ v h=>by
 cases h with
 | i r=>cases r with
  | v e=>exact .i (.v e)
end Go.AI
namespace Go.AI
open Go.Proofs
set_option maxRecDepth 20000
end Go.AI
namespace Go.AI
open Go.Proofs
set_option maxRecDepth 100000
end Go.AI
namespace Go.AI
open Go.Proofs
set_option maxRecDepth 20000
structure gAut (a:Aut) (n:Nat):Prop where
 st:a.states=n
 sm:smallA a
 c:chkA a=0
def okX (y:PS):Bool:=decide (y.1.length>0)
section
variable {S:Type} [DecidableEq S]
end
end Go.AI
namespace Go.AI
section
variable {S:Type} [DecidableEq S]
end
section
variable {S:Type} [DecidableEq S]
end
section
variable {S T:Type} [DecidableEq S] [DecidableEq T]
end
end Go.AI
namespace Go.AI
open Go.Proofs
set_option maxRecDepth 20000
end Go.AI
namespace Go.AI
section
variable {S:Type} [DecidableEq S]
end
def hX (y:PS):Option PS:=if okX y=true then some y else none
section
variable {S:Type} [DecidableEq S]
end
def mrk (a:Aut) (n:Nat) (i:Int):Bool:=zm7 a (clo a.edges (lowP [] [] false) n [i])
def swp (s x:Int):Int:=if x=0 then s else if x=s then 0 else x
structure Sm (n:Nat) (s:Int) (E A:List Int):Prop where
 rel:∀ x,0≤x→x<(n:Int)→(x∈E ↔ swp s x∈A)
 rE:∀ x∈E,0≤x∧x<(n:Int)
 rA:∀ x∈A,0≤x∧x<(n:Int)
section
variable {a:Aut} {n:Nat} {s:Int} (h:gAut a n) (hn:n≤5) (hs:0≤s∧s<(n:Int))
include h hs
include hn
omit h hn
end
end Go.AI
namespace Go.AI
open Go.Proofs
section
variable {E0 E:Env} {K:Kn} {ρ:Nat→Nat→Loc} {H:Heap} {O:List Heap} {w:World}
end
section
variable {c:Cx} {s:St} {k:List Item} {ops:Array Oper} {rest:List Nat} {o:Oper} {E0:Env} {H:Heap} {O:List Heap}
end
section
variable {P:Program} {T:TT} {f:FuncId} {fn:Func} {code:Code}
end
section
variable {c:Cx} {s:St} {k:List Item} {ops:Array Oper} {rest:List Nat} {o:Oper} {g:Nat} {tab:Obj}
end
section
variable {c:Cx} {ops:Array Oper} {O:List Heap} {n:Nat} {F:SH→List Pl→Prop}
end
section
variable {c:Cx}
end
end Go.AI
namespace Go.AI
open Go.Proofs
set_option maxRecDepth 20000
end Go.AI
namespace Go.AI
structure PrjOk (b:Aut) (on:List Int) (n:Nat) (V:Unf (List Int)):Prop where
 fst:V.sts[0]? = some (clo b.edges (lowP on [] false) n [0])
 nd:V.sts.Nodup
 el:∀ s∈V.sts,s∈subs n
 ne:∀ s∈V.sts,s≠[]
 mrk:∀ (i:Nat) E,V.sts[i]? = some E→decide ((i:Int)∈V.mkl)=zm7 b E
 st:∀ (i:Nat) E,V.sts[i]? = some E→∀ ev∈zyI b on,(nxt b.edges (lowP on [] false) n E ev=[]∧stp3 V.eds i ev = -1) ∨
  ∃ j:Nat,stp3 V.eds i ev=(j:Int)∧V.sts[j]? = some (nxt b.edges (lowP on [] false) n E ev)∧nxt b.edges (lowP on [] false) n E ev≠[]
 len:V.sts.length≤32∧V.mkl.length≤32∧V.eds.length≤32 * 32
abbrev NP:=Nat × Nat
section
variable (b c:Aut) (lp:Int→Bool) (n:Nat) (kp:List Int) (V W:Unf (List Int))
def atW (t:List Int) (z:NP):Prop:=V.sts[z.1]? = some (nxtL b.edges lp n (clo b.edges lp n [0]) t)∧W.sts[z.2]? = some (nxtL c.edges lp n (clo c.edges lp n [0]) t)
def zyK (l:List NP) (z:NP) (ev:Int):Prop:=∀ E F,V.sts[z.1]? = some E→W.sts[z.2]? = some F→(nxt b.edges lp n E ev=[] ↔ nxt c.edges lp n F ev=[]) ∧
 (nxt b.edges lp n E ev≠[]→∃ y∈l,V.sts[y.1]? = some (nxt b.edges lp n E ev)∧W.sts[y.2]? = some (nxt c.edges lp n F ev))
def zyJ (z:NP):Prop:=∀ E F,V.sts[z.1]? = some E→W.sts[z.2]? = some F→zm7 b E=zm7 c F
structure prOk (i:Nat) (l:List NP):Prop where
 nd:l.Nodup
 zero:(0,0)∈l
 at_:∀ z∈l,∃ t,(∀ ev∈t,ev∈kp)∧atW b c lp n V W t z
 mrk:∀ (k:Nat) z,k<i→l[k]? = some z→zyJ b c V W z
 ev:∀ (k:Nat) z,k<i→l[k]? = some z→∀ ev∈kp,zyK b c lp n V W l z ev
variable {b c lp n kp V W}
end
section
variable {b c:Aut} {on:List Int} {n:Nat} {kp:List Int} {V W:Unf (List Int)}
end
end Go.AI
namespace Go.AI
set_option maxRecDepth 20000
section
variable {σ τ:Type} {eq:σ→σ→Bool} {eq':τ→τ→Bool} {lim:Bool} {step:σ→Int→σ × Bool × Int} {step':τ→Int→τ × Bool × Int} {mkd:σ→Bool} {mkd':τ→Bool} {P:σ→Prop} {f:σ→τ} {alpha:List Int}
structure Sim (eq:σ→σ→Bool) (eq':τ→τ→Bool) (step:σ→Int→σ × Bool × Int) (step':τ→Int→τ × Bool × Int) (mkd:σ→Bool) (mkd':τ→Bool) (P:σ→Prop) (f:σ→τ) (alpha:List Int):Prop where
 st:∀ s ev,P s→ev∈alpha→(step' (f s) ev).2=(step s ev).2∧((step s ev).2.1=true→(step' (f s) ev).1=f (step s ev).1∧P (step s ev).1)
 eq:∀ a b,P a→P b→eq' (f a) (f b)=eq a b
 mark:∀ s,P s→mkd' (f s)=mkd s
end
end Go.AI
namespace Go.AI
abbrev pk (x ev:Int):Value:=.agg ⟨[.int .i64 x,.int .i64 ev]⟩
def zyz (es:List Edg):List (Value × Int):=es.foldl (fun m e=>mset m (pk e.1 e.2.1) e.2.2) []
section
variable {σ:Type} [DecidableEq σ] {mkd:σ→Bool} {al:List Int} {P:σ→Prop} {step:σ→Int→σ × Bool × Int} {V:Unf σ}
end
end Go.AI
namespace Go.AI
open Go.Proofs
set_option maxRecDepth 20000
end Go.AI
namespace Go.AI
open Go.Proofs
section
variable {P:Program} {T:TT} {f:FuncId} {fn:Func} {code:Code}
end
section
variable {c:Cx} {s:St} {k:List Item} {ops:Array Oper} {rest:List Nat} {o:Oper}
end
section
variable {c:Cx} {s:St} {k:List Item} {ops:Array Oper} {rest:List Nat} {o:Oper} {H:Heap} {O:List Heap}
def zyQ (ob:Obj) (m:MC):Prop:=∃ es ck,ob = .map es ck∧es.toList.map (fun e=>(e.key,e.val))=m.vals
end
section
variable {c:Cx} {ops:Array Oper} {O:List Heap} {n:Nat} {F:SH→List Pl→Prop}
end
section
variable {c:Cx} {ops:Array Oper} {O:List Heap} {n:Nat} {F:SH→List Pl→Prop} {o:Oper} {rest:List Oper} {x:SH} {acc:List Pl} {i:Nat}
end
end Go.AI
namespace Go.AI
open Go.Proofs
set_option maxRecDepth 20000
abbrev Tb:=Nat × Obj
structure tbOk (l:List Aut) (bs:List Tb):Prop where
 len:bs.length=l.length
 is:∀ (i:Nat) a b,l[i]? = some a→bs[i]? = some b→zyQ b.2 (.i .i64 (zyz a.edges))
structure byt (b:Int):Prop where
 h0:0≤b
 h1:b≤255
def zsM (m:Ext):Sta × Int:=if chk m≠0 then (zgd,chk m) else (zdt m,0)
theorem zxz (O:List Heap) (m:Ext) (hok:extOk m):zan Tryz.prog 79 [extD m] O (.tup [staD (zsM m).1,ii (zsM m).2]) [] O:=by
 have hv:chk m=0→m.vars.length≤16:=by
  intro h
  by_cases h2:m.vars.length≤16
  ·exact h2
  ·exfalso
   have e:zbx m.vars=3:=by
    unfold zbx
    rw[if_pos (by omega)]
   unfold chk at h
   rw[e] at h
   revert h
   repeat' split
   all_goals omega
 generalize hR:zsM m=R
 unfold zsM at hR
 refine zaa Tk Tryz.func79 rfl Tryz.call79 Tryz.ntmps79 (Nat.le_of_ble_eq_true rfl) fun E=>?_
 refine zag Tk Tryz.func79 ?_
 refine zak Tk Tryz.func79 (zlo _ m hok) rfl rfl rfl rfl rfl ?_
 refine zai Tk Tryz.func79 rfl (fun h1=>?_) (fun h1=>?_)
 ·have h1:=bneT h1
  rw[if_pos h1] at hR
  subst hR
  refine zaz Tk (r:=_) rfl rfl rfl trivial rfl rfl ?_
  repeat' (first | refine zbE ?_ | refine zby ?_ | refine zco ?_ | refine CoDL.cons ?_ ?_ | exact CoDL.nil | exact zbb | refine zcp ?_ | refine CoLL.cons ?_ ?_ | exact CoLL.nil | refine CoL.cons ?_ ?_ | exact CoL.nil | exact CoI.refl _ | exact CoL.refl _ | exact CoLL.refl _ | exact CoDL.refl _ | exact CoD.refl _)
 have h1:=bneF h1
 rw[if_neg (by simpa using h1)] at hR
 subst hR
 refine zak Tk Tryz.func79 (zv7 _ m (hv (by simpa using h1))) rfl rfl rfl rfl rfl ?_
 refine zah Tk (r:=.tup [staD (zdt m),ii 0]) rfl rfl rfl trivial rfl rfl ?_
 rfl
def ckS (m:Ext) (s:Sta):Int:=
 if chk m≠0 then chk m else if s.loc<0∨s.loc ≥ m.locs then 2 else if s.vals.length≠m.vars.length then 4 else if within m.vars s.vals=false then 2 else 0
theorem zfN (O:List Heap) (m:Ext) (s:Sta) (hok:extOk m):zan Tryz.prog 34 [extD m,staD s] O (ii (ckS m s)) [] O:=by
 generalize hR:ckS m s=R
 unfold ckS at hR
 obtain⟨sl,sv⟩:=s
 simp only at hR
 have hw:=fun O=>ztL O m.vars sv hok.va
 generalize within m.vars sv=W at hw hR
 refine zaa Tk Tryz.func34 rfl Tryz.call34 Tryz.ntmps34 (Nat.le_of_ble_eq_true rfl) fun E=>?_
 refine zag Tk Tryz.func34 ?_
 refine zak Tk Tryz.func34 (zlo _ m hok) rfl rfl rfl rfl rfl ?_
 refine zai Tk Tryz.func34 rfl (fun h1=>?_) (fun h1=>?_)
 ·have h1:=bneT h1
  rw[if_pos h1] at hR
  refine zah Tk (r:=ii (chk m)) rfl rfl rfl trivial rfl rfl ?_
  exact congrArg ii hR
 have h1:=bneF h1
 rw[if_neg (by simpa using h1)] at hR
 refine zaC Tk Tryz.func34 rfl (fun h2=>?_) (fun h2=>?_)
 ·have h2:sl<0:=by simpa using h2
  rw[if_pos (.inl h2)] at hR
  refine gcT Tk Tryz.func34 rfl ?_
  refine zah Tk (r:=ii 2) rfl rfl rfl trivial rfl rfl ?_
  exact congrArg ii hR
 have h2:¬ sl<0:=by simpa using h2
 refine zai Tk Tryz.func34 rfl (fun h3=>?_) (fun h3=>?_)
 ·have h3:m.locs≤sl:=by simpa using h3
  rw[if_pos (.inr h3)] at hR
  refine zah Tk (r:=ii 2) rfl rfl rfl trivial rfl rfl ?_
  exact congrArg ii hR
 have h3:¬ m.locs≤sl:=by simpa using h3
 rw[if_neg (by rintro (h | h);exact h2 h;exact h3 h)] at hR
 refine zai Tk Tryz.func34 rfl (fun h4=>?_) (fun h4=>?_)
 ·have h4:=bneT h4
  rw[if_pos (by intro e;exact h4 (by rw[e]))] at hR
  refine zah Tk (r:=ii 4) rfl rfl rfl trivial rfl rfl ?_
  exact congrArg ii hR
 have h4:=bneF h4
 have h4:sv.length=m.vars.length:=by
  have:((sv.length:Nat):Int)=m.vars.length:=by simpa using h4
  omega
 rw[if_neg (by rw[h4];simp)] at hR
 refine zak Tk Tryz.func34 (hw _) rfl rfl rfl rfl rfl ?_
 cases W with
 | false=>
  refine gcT Tk Tryz.func34 rfl ?_
  refine zah Tk (r:=ii 2) rfl rfl rfl trivial rfl rfl ?_
  exact congrArg ii hR
 | true=>
  refine gcF Tk Tryz.func34 rfl ?_
  refine zah Tk (r:=ii 0) rfl rfl rfl trivial rfl rfl ?_
  exact congrArg ii hR
def stpR (m:Ext) (s:Sta) (ev:Int):Sta × Bool × Int:=if ckS m s≠0 then (zgd,false,ckS m s) else if ev ∉ m.alpha then (zgd,false,9) else zhj m s ev
theorem zkj {m:Ext} {s:Sta} (h:ckS m s=0):chk m=0∧s.vals.length=m.vars.length∧within m.vars s.vals=true∧0≤s.loc∧s.loc<m.locs:=by
 unfold ckS at h
 by_cases h1:chk m≠0
 ·rw[if_pos h1] at h;exact absurd h h1
 rw[if_neg h1] at h
 by_cases h2:s.loc<0∨s.loc ≥ m.locs
 ·rw[if_pos h2] at h;cases h
 rw[if_neg h2] at h
 by_cases h3:s.vals.length≠m.vars.length
 ·rw[if_pos h3] at h;cases h
 rw[if_neg h3] at h
 by_cases h4:within m.vars s.vals=false
 ·rw[if_pos h4] at h;cases h
 exact⟨by simpa using h1,by simpa using h3,by simpa using h4,by omega,by omega⟩
theorem zxL (O:List Heap) (m:Ext) (s:Sta) (ev:Int) (hok:extOk m):zan Tryz.prog 83 [extD m,staD s,ii ev] O (.tup [staD (stpR m s ev).1,bb (stpR m s ev).2.1,ii (stpR m s ev).2.2]) [] O:=by
 have hck:=fun O=>zfN O m s hok
 have hs:=@zkj m s
 have hst:=fun O hr hl=>zxK O m s ev hok hr hl
 generalize hR:stpR m s ev=R
 unfold stpR at hR
 generalize ckS m s=c at *
 refine zaa Tk Tryz.func83 rfl Tryz.call83 Tryz.ntmps83 (Nat.le_of_ble_eq_true rfl) fun E=>?_
 refine zag Tk Tryz.func83 ?_
 refine zak Tk Tryz.func83 (hck _) rfl rfl rfl rfl rfl ?_
 refine zai Tk Tryz.func83 rfl (fun h1=>?_) (fun h1=>?_)
 ·have h1:=bneT h1
  rw[if_pos h1] at hR
  subst hR
  refine zaz Tk (r:=_) rfl rfl rfl trivial rfl rfl ?_
  exact coZ
 have h1:=bneF h1
 rw[if_neg (by simpa using h1)] at hR
 obtain⟨h2,h3,-⟩:=hs h1
 have hr:=zhb h2
 refine zak Tk Tryz.func83 (zh3 _ m.alpha ev hok.al (zcD hr.alpha).1) rfl rfl rfl rfl rfl ?_
 refine zai Tk Tryz.func83 rfl (fun h4=>?_) (fun h4=>?_)
 ·have h4:ev ∉ m.alpha:=by simpa using h4
  rw[if_pos h4] at hR
  subst hR
  refine zaz Tk (r:=_) rfl rfl rfl trivial rfl rfl ?_
  exact coZ
 have h4:ev∈m.alpha:=by simpa using h4
 rw[if_neg (by simpa using h4)] at hR
 subst hR
 have hst:=fun O=>hst O hr h3
 generalize zhj m s ev=n at *
 obtain⟨⟨nl,nv⟩,np,ne⟩:=n
 refine zak Tk Tryz.func83 (hst _) rfl rfl rfl rfl rfl ?_
 refine zah Tk (r:=.tup [staD ⟨nl,nv⟩,bb np,ii ne]) rfl rfl rfl trivial rfl rfl ?_
 rfl
theorem zfe {n:Int}:∀ {l:List Int} {y:Int},zaK n l (some y)=0→y+1≤n→(l.length:Int)≤n - 1 - y
 | [],y,_,h=>by simp only[List.length_nil];omega
 | x::r,y,h,hy=>by
  simp only[zaK] at h
  by_cases h1:x<0∨x ≥ n
  ·rw[if_pos h1] at h;exact absurd h (by decide)
  rw[if_neg h1] at h
  by_cases h2:(some y).any (x ≤ ·)=true
  ·rw[if_pos h2] at h;exact absurd h (by decide)
  rw[if_neg h2] at h
  have hxy:y<x:=by simpa using h2
  have:=zfe h (by omega)
  simp only[List.length_cons]
  omega
theorem zfd {n:Int} (hn:0≤n):∀ {l:List Int},zaK n l none=0→(l.length:Int)≤n
 | [],_=>by simpa using hn
 | x::r,h=>by
  simp only[zaK] at h
  by_cases h1:x<0∨x ≥ n
  ·rw[if_pos h1] at h;exact absurd h (by decide)
  rw[if_neg h1] at h
  have h':zaK n r (some x)=0:=by simpa using h
  have:=zfe h' (by omega)
  simp only[List.length_cons]
  omega
def zxW (lo hi:Int):List Int:=(List.range (hi - lo+1).toNat).map fun (k:Nat)=>lo+k
def zxB (out:List (List Int)) (v:Vr):List (List Int):=out.flatMap fun vals=>(zxW v.low v.high).map fun n=>vals++[n]
def allV (l:List Vr):List (List Int):=l.foldl zxB [[]]
end Go.AI
namespace Go.AI
set_option maxRecDepth 20000
structure Bx where
 low:List Int
 high:List Int
def inV:List Vr→List Int→Prop
 | [],[]=>True
 | v::r,x::xs=>(v.low≤x∧x≤v.high)∧inV r xs
 | _,_=>False
structure DomOk (l:List Vr) (out:List (List Int)):Prop where
 mem:∀ v,v∈out ↔ inV l v
 nd:out.Nodup
end Go.AI
namespace Go.AI
open Go.Proofs
set_option maxRecDepth 20000
structure domOk (l:List Vr):Prop where
 len:l.length≤16
 b:∀ v∈l,(-65536≤v.low∧v.high≤65536)∧v.low≤v.high
 cnt:∀ j,(allV (l.take j)).length≤4096
structure valsB (l:List Vr) (dom:List (List Int)):Prop where
 vb:∀ a∈l,-65536≤a.low∧a.high≤65536
 ll:l.length≤16
 len:dom.length≤4096
 vl:∀ v∈dom,v.length=l.length
 b:∀ v∈dom,∀ j,-65536≤v.getD j 0∧v.getD j 0≤65536
abbrev obyJ (T:List UInt8):Ob:=.arr 5 1 T.length (u8l T) true
theorem zm0 (T s:List UInt8):Ob.arr 5 1 (T.length+s.length) (u8l T++u8l s) true=obyJ (T++s):=by rw[zv1];simp[obyJ]
theorem zji (K:Kn) (s:ByteArray):RepL K (Lib.strCells s) (u8l s.data.toList).flatten:=zky K s.data.toList
theorem zfi (s:ByteArray):s.data.toList.length=s.size:=by rw[Array.length_toList];rfl
theorem zu3 {c:Cx} (hP:c.P=Tryz.prog) {s:St} {o:Oper} {t nm nm2:Nat} {dp:D} {H:Heap} {O:List Heap} (sb:ByteArray) (T:List UInt8) (hdp:dp = .i (.v (.pointer none))∨dp = .own 0 nm 0 0) (hlim:T.length+sb.size≤140737488355328) (ht:o.dst=some t) (hn:t<s.n) (hS:s.S=H::O)
  (hb:look H nm=some (.tb 277 [dp,.osl 0 nm2])) (ha:look H nm2=some (obyJ T)) (hne:nm≠nm2) :
  Wp c o s 155 [.own 0 nm 0 0,.i (.v (.string sb))] { σ:=(t,.tup [ii sb.size,.i (.v .nilIface)])::zhp nm2 s.σ,S:=((nm,.tb 277 [.own 0 nm 0 0,.osl 0 nm2])::(nm2,obyJ (T++sb.data.toList))::zcU nm2 ((nm,.tb 277 [.own 0 nm 0 0,.osl 0 nm2])::H))::O,n:=s.n }:=by
 have h:=zh0 (c:=c) (s:=s) (o:=o) (ys:=u8l sb.data.toList) (m:=sb.data.toList.length) (T:=277) (ty:=5) (rd:=.tup [ii sb.size,.i (.v .nilIface)]) (dx:=.i (.v (.string sb))) (x:=.string sb) (res:=.tuple #[.int .i64 sb.size,.nilIface]) (xs:=u8l T) (n:=T.length) (by rw[hP];exact zvW sb) (by rw[hP];exact Tryz.call155)
  (fun K ρ sh v h=>zaQ h) (fun K ρ sh=>.tup (.cons (.i (.v rfl)) (.cons (.i (.v rfl)) .nil))) hdp ht hn hS hb ha hne (fun K=>zji K sb) (zvo _) (by simp[u8l]) (by rw[zfi];exact hlim)
 rwa [zm0] at h
theorem zu4 {c:Cx} (hP:c.P=Tryz.prog) {s:St} {o:Oper} {t nm nm2:Nat} {dp:D} {H:Heap} {O:List Heap} {T:List UInt8} (h0:T≠[]) (ht:o.dst=some t) (hn:t<s.n) (hS:s.S=H::O)
  (hb:look H nm=some (.tb 277 [dp,.osl 0 nm2])) (ha:look H nm2=some (obyJ T)) :
  Wp c o s 157 [.own 0 nm 0 0] { σ:=(t,.i (.v (.string ⟨T.toArray⟩)))::zhp nm2 s.σ,S:=((nm2,.arr 5 1 0 [] true)::zcU nm2 H)::O,n:=s.n }:=
 zsv (c:=c) (s:=s) (o:=o) (T:=277) (ty:=5) (by rw[hP];exact zv8) (by rw[hP];exact Tryz.call157) h0 ht hn hS hb ha
theorem znw {c:Cx} (hP:c.P=Tryz.prog) {s:St} {o:Oper} {t nm nm2:Nat} {dp:D} {H:Heap} {O:List Heap} (b:UInt8) (T:List UInt8) (hdp:dp = .i (.v (.pointer none))∨dp = .own 0 nm 0 0) (hlim:T.length+1≤140737488355328) (ht:o.dst=some t) (hn:t<s.n) (hS:s.S=H::O)
  (hb:look H nm=some (.tb 277 [dp,.osl 0 nm2])) (ha:look H nm2=some (obyJ T)) (hne:nm≠nm2) :
  Wp c o s 156 [.own 0 nm 0 0,.i (.v (.int .u8 b.toNat))] { σ:=(t,.i (.v .nilIface))::zhp nm2 s.σ,S:=((nm,.tb 277 [.own 0 nm 0 0,.osl 0 nm2])::(nm2,obyJ (T++[b]))::zcU nm2 ((nm,.tb 277 [.own 0 nm 0 0,.osl 0 nm2])::H))::O,n:=s.n }:=by
 have h:=zh0 (c:=c) (s:=s) (o:=o) (ys:=u8l [b]) (m:=1) (T:=277) (ty:=5) (rd:=.i (.v .nilIface)) (dx:=.i (.v (.int .u8 b.toNat))) (x:=.int .u8 b.toNat) (res:=.nilIface) (xs:=u8l T) (n:=T.length) (by rw[hP];exact ztH b.toNat) (by rw[hP];exact Tryz.call156)
  (fun K ρ sh v h=>zaQ h) (fun K ρ sh=>.i (.v rfl)) hdp ht hn hS hb ha hne (fun K=>zky K [b]) (zvo _) (by simp[u8l]) hlim
 rwa [show T.length+1=T.length+[b].length from rfl,zm0] at h
def zjQ:List UInt8→List Int→List UInt8
 | T,[]=>T
 | T,n::r=>zjQ (T++(zcs n).data.toList++[32]) r
def zhQ:List UInt8→List (List Int)→List UInt8
 | T,[]=>T
 | T,l::r=>zhQ (zjQ T l++[59]) r
def zj6 (ls:List (List Int)):ByteArray:=⟨(zhQ [] ls).toArray⟩
abbrev dp3J (p:Bool):D:=bif p then .own 0 3 0 0 else .i (.v (.pointer none))
theorem zsu (p:Bool):dp3J p = .i (.v (.pointer none))∨dp3J p = .own 0 3 0 0:=by cases p;exact .inl rfl;exact .inr rfl
theorem zyd {g:Nat} (hg:zfA g) {ty:TypeId} {fr:Nat × Nat} (O:List Heap) (ls:List (List Int)) (h0:ls≠[]) (hn:ls.length≤4096) (hl:∀ l∈ls,l.length≤4096∧∀ v∈l,i64B v) :
  zbg g (ptab ty fr) Tryz.prog 81 [.i (zrS ls)] O (.i (.v (.string (zj6 ls)))) [] O:=by
 have hno:zj6 ls=⟨(zhQ [] (ls.drop 0)).toArray⟩:=rfl
 have hpos:0<ls.length:=List.length_pos_iff.2 h0
 generalize zj6 ls=R at *
 refine za4 [200003,200022,200023,200025,200027] Tk Tryz.func81 rfl Tryz.call81 Tryz.ntmps81 (Nat.le_of_ble_eq_true rfl) fun E hE=>?_
 refine zag Tk Tryz.func81 ?_
 refine g_tb Tk Tryz.func81 rfl rfl rfl rfl rfl rfl rfl rfl ?_
 refine zae ?_
 refine zas (ztJ 3 60 5 1 rfl rfl rfl) ?_
 refine zaj (fun x:Nat × List UInt8 × Bool=>[(3,.own 0 3 0 0),(8,.i (zrS ls)),(9,ii ls.length),(10,ii x.1)]) (fun x=>[(3,.tb 277 [dp3J x.2.2,.osl 0 60]),(60,obyJ x.2.1)]) (fun _=>O) 28
  (fun x=>x.1≤ls.length∧x.2.1.length≤100000 * x.1∧(x.1=0∨x.2.1≠[])∧R=⟨(zhQ x.2.1 (ls.drop x.1)).toArray⟩) (fun x=>ls.length - x.1) (0,[],false)
  ⟨Nat.zero_le _,by simp,.inl rfl,hno⟩ ⟨rfl,rfl,rfl,rfl,trivial⟩ rfl ⟨rfl,rfl,trivial⟩ rfl rfl ?_
 clear hno
 rintro ⟨i,T,p⟩ ⟨hi,hTl,hT0,hno⟩ ih
 simp only at hi hTl hT0 hno
 refine zag Tk Tryz.func81 ?_
 refine zai Tk Tryz.func81 rfl (fun g1=>?_) (fun g1=>?_)
 ·have h2:i<ls.length:=by simpa using g1
  clear g1
  have gb:(ls.map fun x=>[zdo x])[(i:Int).toNat]? = some [zdo ls[i]]:=zam (f:=fun x=>[zdo x]) h2
  have db:ls.drop i=ls[i]::ls.drop (i+1):=List.drop_eq_getElem_cons h2
  have hll:=hl _ (List.getElem_mem h2)
  rw[db] at hno
  simp only[zhQ] at hno
  clear db
  generalize ls[i]=l at *
  have hi1:ii (IntKind.i64.wrap ((i:Int)+1))=ii ((i+1:Nat):Int):=congrArg ii (zaB (n:=4096) (by omega) (by decide))
  refine zaf Tk Tryz.func81 (by exact⟨by omega,by show (i:Int)<(ls.length:Int);omega⟩) ?_
  refine zaq Tk Tryz.func81 (gb) ?_
  have hF0:zjQ T l=zjQ T (l.drop 0):=rfl
  generalize zjQ T l=F at *
  refine zae ?_
  refine zaj (fun x:Nat × List UInt8 × Bool=>[(3,.own 0 3 0 0),(8,.i (zrS ls)),(9,ii ls.length),(10,ii i),(14,ints l),(15,ii l.length),(16,ii x.1)]) (fun x=>[(3,.tb 277 [dp3J x.2.2,.osl 0 60]),(60,obyJ x.2.1)]) (fun _=>O) 28
   (fun x=>x.1≤l.length∧x.2.1.length≤T.length+22 * x.1∧F=zjQ x.2.1 (l.drop x.1)) (fun x=>l.length - x.1) (0,T,p)
   ⟨Nat.zero_le _,by simp,hF0⟩ ⟨rfl,rfl,rfl,rfl,rfl,rfl,rfl,trivial⟩ rfl ⟨rfl,rfl,trivial⟩ (by cases p <;> rfl) rfl ?_
  clear hF0
  rintro ⟨k,U,q⟩ ⟨hk,hUl,hF⟩ ih2
  simp only at hk hUl hF
  refine zag Tk Tryz.func81 ?_
  refine zai Tk Tryz.func81 rfl (fun g2=>?_) (fun g2=>?_)
  ·have h3:k<l.length:=by simpa using g2
   clear g2
   have gl:(l.map fun x=>[vi x])[(k:Int).toNat]? = some [vi l[k]]:=zam (f:=fun x=>[vi x]) h3
   have dl:l.drop k=l[k]::l.drop (k+1):=List.drop_eq_getElem_cons h3
   have hv:=hll.2 _ (List.getElem_mem h3)
   rw[dl] at hF
   simp only[zjQ] at hF
   clear dl
   generalize l[k]=n at *
   have hz:=zcw hv.1 hv.2
   have hk1:ii (IntKind.i64.wrap ((k:Int)+1))=ii ((k+1:Nat):Int):=congrArg ii (zaB (n:=4096) (by omega) (by decide))
   refine zaf Tk Tryz.func81 (by exact⟨by omega,by show (k:Int)<(l.length:Int);omega⟩) ?_
   refine zaq Tk Tryz.func81 (gl) ?_
   refine zbr Tk Tryz.func81 hE (zjR hg _ n hv.1 hv.2) rfl rfl rfl rfl rfl rfl ?_
   generalize zcs n=W at *
   refine zcm Tk Tryz.func81 rfl rfl rfl rfl (zu3 rfl W U (zsu q) (by omega) rfl (show 22<28 by decide) rfl rfl rfl (by decide)) ?_
   refine zcm Tk Tryz.func81 rfl rfl rfl rfl (znw rfl 32 (U++W.data.toList) (.inr rfl) (by rw[List.length_append,zfi];omega) rfl (show 23<28 by decide) rfl rfl rfl (by decide)) ?_
   refine zae ?_
   refine ih2 (k+1,U++W.data.toList++[32],true) _ _ ⟨h3,by simp only[List.length_append,zfi,List.length_singleton];omega,hF⟩ (by simp only;omega) ⟨rfl,rfl,rfl,rfl,rfl,rfl,hk1,trivial⟩ rfl ⟨rfl,rfl,trivial⟩ rfl rfl
  ·have h3:l.length≤k:=by simpa using g2
   rw[List.drop_eq_nil_of_le h3] at hF
   simp only[zjQ] at hF
   subst hF
   refine zcm Tk Tryz.func81 rfl rfl rfl rfl (znw rfl 59 F (zsu q) (by omega) rfl (show 25<28 by decide) rfl rfl rfl (by decide)) ?_
   refine zae ?_
   refine ih (i+1,F++[59],true) _ _ ⟨h2,by simp only[List.length_append,List.length_singleton];omega,.inr (by simp),hno⟩ (by simp only;omega) ⟨rfl,rfl,rfl,hi1,trivial⟩ rfl ⟨rfl,rfl,trivial⟩ rfl rfl
 ·have h2:ls.length≤i:=by simpa using g1
  rw[List.drop_eq_nil_of_le h2] at hno
  simp only[zhQ] at hno
  subst hno
  have hT0:T≠[]:=hT0.resolve_left (by omega)
  refine zcm Tk Tryz.func81 rfl rfl rfl rfl (zu4 rfl hT0 rfl (show 27<28 by decide) rfl rfl rfl) ?_
  refine zah Tk (r:=.i (.v (.string ⟨T.toArray⟩))) rfl rfl rfl trivial rfl rfl ?_
  rfl
def zgU (x:Int):List Int→Nat→Int
 | [],_=>-1
 | y::r,i=>if x=y then i else zgU x r (i+1)
theorem zjW (x:Int):∀ (l:List Int) (i:Nat),zgU x l i ≥ 0 ↔ x∈l
 | [],_=>by simp[zgU]
 | y::r,i=>by
  simp only[zgU]
  by_cases h:x=y
  ·simp only[if_pos h,h]
   simp
  ·simp only[if_neg h]
   rw[zjW x r (i+1)]
   simp[h]
theorem zrZ (x:Int) (l:List Int) (i:Nat):decide (zgU x l i ≥ 0)=decide (x∈l):=decide_eq_decide.2 (zjW x l i)
theorem zrY (O:List Heap) (l:List Int) (x:Int) (hl:l.length≤zao):zan Tryz.prog 152 [ints l,ii x] O (ii (zgU x l 0)) [] O:=by
 generalize hR:zgU x l 0=R
 refine zaa Tk Tryz.func152 rfl Tryz.call152 Tryz.ntmps152 (Nat.le_of_ble_eq_true rfl) fun E=>?_
 refine zag Tk Tryz.func152 ?_
 refine zae ?_
 refine zaj (fun i:Nat=>[(0,ints l),(1,ii x),(7,ii l.length),(8,ii i)]) (fun _=>[]) (fun _=>O) 19
  (fun i=>i≤l.length∧zgU x (l.drop i) i=R) (fun i=>l.length - i) 0 ⟨Nat.zero_le _,hR⟩ ⟨rfl,rfl,rfl,rfl,trivial⟩ rfl trivial rfl rfl ?_
 rintro i ⟨hi,hno⟩ ih
 clear hR
 refine zag Tk Tryz.func152 ?_
 refine zai Tk Tryz.func152 rfl (fun g1=>?_) (fun g1=>?_)
 ·have h1:i<l.length:=by simpa using g1
  have gl:(l.map fun x=>[vi x])[(i:Int).toNat]? = some [vi l[i]]:=zam (f:=fun x=>[vi x]) h1
  have dl:l.drop i=l[i]::l.drop (i+1):=List.drop_eq_getElem_cons h1
  rw[dl] at hno
  simp only[zgU] at hno
  clear dl
  generalize l[i]=y at *
  refine zaf Tk Tryz.func152 (by exact⟨by omega,by show (i:Int)<(l.length:Int);omega⟩) ?_
  refine zaq Tk Tryz.func152 (gl) ?_
  refine zai Tk Tryz.func152 rfl (fun g2=>?_) (fun g2=>?_)
  ·have g2:x=y:=beqT g2
   rw[if_pos g2] at hno
   subst hno
   refine zah Tk (r:=ii (i:Int)) rfl rfl rfl trivial rfl rfl ?_
   rfl
  ·have g2:x≠y:=beqF g2
   rw[if_neg g2] at hno
   refine zae ?_
   exact ih (i+1) _ _ ⟨h1,hno⟩ (by omega) ⟨rfl,rfl,rfl,congrArg ii (zaB h1 hl),trivial⟩ rfl trivial rfl rfl
 ·have h1:l.length≤i:=by simpa using g1
  rw[List.drop_eq_nil_of_le h1] at hno
  simp only[zgU] at hno
  subst hno
  refine zah Tk (r:=ii (-1)) rfl rfl rfl trivial rfl rfl ?_
  rfl
theorem zkg (O:List Heap) (l:List Int) (x:Int) (hl:l.length≤zao):zan Tryz.prog 75 [ints l,ii x] O (bb (decide (x∈l))) [] O:=by
 rw[← zrZ x l 0]
 have h:=fun O=>zrY O l x hl
 refine zaa Tk Tryz.func75 rfl Tryz.call75 Tryz.ntmps75 (Nat.le_of_ble_eq_true rfl) fun E=>?_
 refine zag Tk Tryz.func75 ?_
 refine zak Tk Tryz.func75 (h _) rfl rfl rfl rfl rfl ?_
 refine zah Tk (r:=bb (decide (zgU x l 0 ≥ 0))) rfl rfl rfl trivial rfl rfl ?_
 rfl
theorem znA (O:List Heap) (l:List Int) (hl:l.length * 8≤big):zan Tryz.prog 86 [ints l] O (ints l) [] O:=by
 refine zaa Tk Tryz.func86 rfl Tryz.call86 Tryz.ntmps86 (Nat.le_of_ble_eq_true rfl) fun E=>?_
 refine zag Tk Tryz.func86 ?_
 refine znk Tk Tryz.func86 rfl rfl fun b hb=>?_
 refine zai Tk Tryz.func86 rfl (fun h1=>?_) (fun h1=>?_)
 ·have hl0:l=[]:=List.eq_nil_of_length_eq_zero (hb h1)
  subst hl0
  refine zaz Tk (r:=.i (.v (.slice none 0 0))) rfl rfl rfl trivial rfl rfl ?_
  exact zco zbb
 ·refine zaf Tk Tryz.func86 (by exact⟨by show (0+l.length) * 8≤140737488355328;simp only[big] at hl;omega,by show 0+l.length≤9223372036854775807;simp only[big] at hl;omega⟩) ?_
  refine za8 (zcW (l:=[(2,.osl 0 7)]) (Hv:=[(7,.arr 3 1 (0+l.length) ([]++l.map fun x=>[vi x]) true)]) ⟨rfl,trivial⟩ rfl ⟨rfl,trivial⟩ rfl rfl) ?_
  rw[Nat.zero_add,List.nil_append]
  refine za8 (zap 7 rfl rfl) ?_
  refine zah Tk (r:=ints l) rfl rfl rfl trivial rfl rfl ?_
  rfl
def fkey (s:Sta):ByteArray:=zj6 [[s.loc],s.vals]
structure keyOkJ (s:Sta):Prop where
 loc:i64B s.loc
 len:s.vals.length≤4096
 vals:∀ v∈s.vals,i64B v
theorem zfo {g:Nat} (hg:zfA g) {ty:TypeId} {fr:Nat × Nat} (O:List Heap) (s:Sta) (hs:keyOkJ s):zbg g (ptab ty fr) Tryz.prog 80 [staD s] O (.i (.v (.string (fkey s)))) [] O:=by
 have hk:=fun O=>zyd hg (ty:=ty) (fr:=fr) O [[s.loc],s.vals] (by simp) (by simp) (by
  intro l hl
  simp only[List.mem_cons,List.mem_nil_iff,or_false] at hl
  rcases hl with rfl | rfl
  ·exact⟨by simp,fun v hv=>by simp only[List.mem_singleton] at hv;subst hv;exact hs.loc⟩
  ·exact⟨hs.len,hs.vals⟩)
 unfold fkey
 generalize zj6 [[s.loc],s.vals]=K at *
 obtain⟨l,v⟩:=s
 refine za4 [] Tk Tryz.func80 rfl Tryz.call80 Tryz.ntmps80 (Nat.le_of_ble_eq_true rfl) fun E hE=>?_
 refine zag Tk Tryz.func80 ?_
 refine zbr Tk Tryz.func80 hE (hk _) rfl rfl rfl rfl rfl rfl ?_
 refine zah Tk (r:=.i (.v (.string K))) rfl rfl rfl trivial rfl rfl ?_
 rfl
theorem zpy (O:List Heap) (m:Ext) (s:Sta) (ev:Int) (d nm:Nat) (ho:zab O d nm=some (.box (extC m))) (hok:extOk m):zan Tryz.prog 82 [staD s,ii ev,.own d nm 0 0] O (.tup [staD (stpR m s ev).1,bb (stpR m s ev).2.1,ii (stpR m s ev).2.2]) [] O:=by
 have h:=fun O=>zxL O m s ev hok
 generalize stpR m s ev=R at *
 obtain⟨⟨a,b⟩,p,e⟩:=R
 obtain⟨l,v⟩:=s
 refine zaa Tk Tryz.func82 rfl Tryz.call82 Tryz.ntmps82 (Nat.le_of_ble_eq_true rfl) fun E=>?_
 refine zag Tk Tryz.func82 ?_
 refine zbz Tk Tryz.func82 (zav ho) ?_
 refine zak Tk Tryz.func82 (h _) rfl rfl rfl rfl rfl ?_
 refine zah Tk (r:=.tup [staD ⟨a,b⟩,bb p,ii e]) rfl rfl rfl trivial rfl rfl ?_
 rfl
theorem zpz (O:List Heap) (m:Ext) (s:Sta) (d nm:Nat) (ho:zab O d nm=some (.box (extC m))) (hok:extOk m):zan Tryz.prog 84 [staD s,.own d nm 0 0] O (bb (decide (s.loc∈m.marked))) [] O:=by
 have h:=fun O=>zkg O m.marked s.loc hok.ma
 obtain⟨l,v⟩:=s
 refine zaa Tk Tryz.func84 rfl Tryz.call84 Tryz.ntmps84 (Nat.le_of_ble_eq_true rfl) fun E=>?_
 refine zag Tk Tryz.func84 ?_
 refine zbz Tk Tryz.func84 (zav ho) ?_
 refine zak Tk Tryz.func84 (h _) rfl rfl rfl rfl rfl ?_
 refine zah Tk (r:=bb (decide (l∈m.marked))) rfl rfl rfl trivial rfl rfl ?_
 rfl
end Go.AI
