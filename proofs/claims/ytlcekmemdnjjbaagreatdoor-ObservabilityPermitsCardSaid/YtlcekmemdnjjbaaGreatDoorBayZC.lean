/- The layer of abstract runs, part 29. -/
import Derived.Test.YtlcekmemdnjjbaaGreatDoorBayZB
import Derived.WideKeyArgs
import Derived.Lib.SmallJoins
import Derived.Deep.Slices
set_option linter.unusedSimpArgs false
set_option linter.unusedVariables false
set_option linter.all false

set_option maxHeartbeats 4000000
namespace Go.Proofs.YtlcekmemdnjjbaaGreatDoor
open Go.ChangeShapes Go.WideShapes Go.ChangeAt Go.RowKit Go.Deep Go.WideElems
set_option maxRecDepth 100000
def KW (W:World):AI.Kn:=fun b o=>W.cell? ⟨b,o,none⟩
theorem zwm (W:World):∀ bl o x,KW W bl o=some x→W.cell? ⟨bl,o,none⟩=some x:=fun _ _ _ h=>h
section
variable {H:Type} {enc:TypeId × Value→H} {P:Program} {W:World}
def Opn (enc:TypeId × Value→H) (P:Program) (W:World) (t:TypeId) (R:List AI.I→Prop):Prop:=
 ∀ n cs x,DataW.trod enc P W 0 (fun _=>true) true n t cs=some x→∃ is,AI.RepL (KW W) cs is∧R is
theorem zeA {K:AI.Kn} {a b:List Value} {c d:List AI.I} (h:AI.RepL K a c) (h':AI.RepL K b d):AI.RepL K (a++b) (c++d):=h.append h'
theorem ze5 {t:TypeId} {k:IntKind} (ht:P.underlying t=some (.int k)):Opn enc P W t fun is=>∃ z,is=[.v (.int k z)]∧(Lit.int k z).wf=true:=by
 intro n cs x h
 obtain⟨z,rfl,rfl,hw⟩:=DataW.trod_int ht h
 exact⟨[.v (.int k z)],.cons (.v rfl) .nil,z,rfl,hw⟩
theorem zl9 {K:AI.Kn} {k:IntKind}:∀ {cs:List Value},(∀ i,i<cs.length→∃ z,cs[i]? = some (.int k z)∧(Lit.int k z).wf=true)→∃ zs:List Int,zs.length=cs.length∧AI.RepL K cs (zs.map fun z=>.v (.int k z))∧∀ z∈zs,(Lit.int k z).wf=true
 | [],_=>⟨[],rfl,.nil,by simp⟩
 | c::cs,h=>by
  obtain⟨z,hz,hw⟩:=h 0 (by simp)
  simp only[List.getElem?_cons_zero,Option.some.injEq] at hz
  subst hz
  obtain⟨zs,h1,h2,h3⟩:=zl9 (cs:=cs) fun i hi=>by
   have:=h (i+1) (by simp;omega)
   simpa using this
  exact⟨z::zs,by simp[h1],.cons (.v rfl) h2,fun y hy=>by
   rcases List.mem_cons.1 hy with rfl | hy
   ·exact hw
   ·exact h3 y hy⟩
theorem zpn {t e:TypeId} {k:IntKind} {m:Nat} (ht:P.underlying t=some (.array m e)) (he:P.underlying e=some (.int k)) (hc:P.cellsOf e=1) (hct:P.cellsOf t=m) :
  Opn enc P W t fun is=>∃ zs:List Int,zs.length=m∧is=zs.map (fun z=>.v (.int k z))∧∀ z∈zs,(Lit.int k z).wf=true:=by
 intro n cs x h
 obtain⟨xs,f,rfl,rfl,hl,hlen,hx⟩:=DataW.trod_array ht h
 rw[hct] at hl
 obtain⟨zs,h1,h2,h3⟩:=zl9 (K:=KW W) (k:=k) (cs:=cs) fun i hi=>by
  have h0:=hx i (by omega)
  rw[hc,Nat.mul_one,List.getElem?_eq_getElem (by omega)] at h0
  obtain⟨z,hz,_,hw⟩:=DataW.trod_int he h0
  refine⟨z,?_,hw⟩
  have:=congrArg (fun l=>l[0]?) hz
  simpa [List.getElem?_take,List.getElem?_drop] using this
 exact⟨_,h2,zs,by omega,rfl,h3⟩
theorem zpm {t e:TypeId} {z:Nat} {R:List AI.I→Prop} (ht:P.underlying t=some (.slice e)) (hc:P.cellsOf e=z) (hz:0<z) (he:Opn enc P W e R) :
  Opn enc P W t fun is=>∃ xs:List (List AI.I),is=[.sl z xs.length xs]∧(∀ d∈xs,R d)∧xs.length≤maxLen:=by
 intro n cs x h
 rcases open_slice ht h with ⟨rfl,_⟩ | ⟨a,len,cap,m,f,D,Pl,rfl,_,hle,hm,hmm,_,hx⟩
 ·exact⟨[.sl z 0 []],.cons .nil .nil,[],rfl,by simp,Nat.zero_le _⟩
 ·simp only[if_true] at hmm
  subst hmm
  rw[hc] at hx
  by_cases h0:m=0
  ·subst h0
   obtain rfl:len=0:=by omega
   exact⟨[.sl z 0 []],.cons .nil .nil,[],rfl,by simp,Nat.zero_le _⟩
  ·have hspot:a.spot=none:=by
    obtain⟨cs',h1,_⟩:=hx 0 (by omega)
    obtain⟨_,hl,hcell⟩:=World.cells?_some h1
    have:=hcell 0 hz
    rw[Nat.zero_mul] at this
    have ha:(a.add 0).add 0=a:=by simp[Addr.add]
    rw[ha,List.getElem?_eq_getElem (by omega)] at this
    unfold World.cell? at this
    cases hsp:a.spot with
    | none=>rfl
    | some s=>
     rw[hsp] at this
     split at this <;> simp at this
   obtain⟨bl,o,sp⟩:=a
   simp only at hspot
   subst hspot
   have build:∀ k,k≤len→∃ (xs:List (List AI.I)) (vs:List Value),xs.length=k∧vs.length=k * z∧AI.RepL (KW W) vs xs.flatten∧(∀ d∈xs,R d)∧(∀ d∈xs,d.length=z)∧∀ j c,vs[j]? = some c→KW W bl (o+j)=some c:=by
    intro k
    induction k with
    | zero=>intro _;exact⟨[],[],rfl,by simp,.nil,by simp,by simp,by simp⟩
    | succ k ih=>
     intro hk
     obtain⟨xs,vs,h1,h2,h3,h4,h5,h6⟩:=ih (by omega)
     obtain⟨cs',hc1,hc2⟩:=hx k (by omega)
     obtain⟨_,hl,hcell⟩:=World.cells?_some hc1
     obtain⟨is,hr,hR⟩:=he f cs' _ hc2
     refine⟨xs++[is],vs++cs',by simp[h1],by simp[h2,hl,Nat.add_mul],?_,?_,?_,?_⟩
     ·rw[List.flatten_append]
      simpa using zeA h3 hr
     ·intro d hd
      rcases List.mem_append.1 hd with h | h
      ·exact h4 d h
      ·simp only[List.mem_singleton] at h
       subst h
       exact hR
     ·intro d hd
      rcases List.mem_append.1 hd with h | h
      ·exact h5 d h
      ·simp only[List.mem_singleton] at h
       subst h
       rw[← hr.length,hl]
     ·intro j c hj
      rw[List.getElem?_append] at hj
      split at hj
      ·exact h6 j c hj
      ·rename_i hge
       have hlt:j - vs.length<cs'.length:=(List.getElem?_eq_some_iff.1 hj).1
       have:=hcell (j - vs.length) (by omega)
       rw[hj] at this
       unfold KW
       rw[← this]
       have e:((⟨bl,o,none⟩:Addr).add (k * z)).add (j - vs.length)=⟨bl,o+j,none⟩:=by
        have e1:(⟨bl,o,none⟩:Addr).add (k * z)=⟨bl,o+k * z,none⟩:=by unfold Addr.add;split <;> simp_all
        rw[e1]
        unfold Addr.add
        split
        ·simp <;> omega
        ·simp <;> omega
       rw[e]
   obtain⟨xs,vs,h1,h2,h3,h4,h5,h6⟩:=build len (Nat.le_refl _)
   refine⟨[.sl z xs.length xs],.cons ?_ .nil,xs,rfl,h4,by omega⟩
   rw[h1]
   exact .sl h3 h5 h6 hle h1
theorem zj3 {t:TypeId} {f0 f1 f2:Field} {R0 R1 R2:List AI.I→Prop} {z0 z1 z2:Nat} (ht:P.underlying t=some (.struct #[f0,f1,f2])) (hc:P.cellsOf t=z0+z1+z2)
  (c0:P.cellsOf f0.type=z0) (c1:P.cellsOf f1.type=z1) (c2:P.cellsOf f2.type=z2) (o0:f0.offset=0) (o1:f1.offset=z0) (o2:f2.offset=z0+z1)
  (h0:Opn enc P W f0.type R0) (h1:Opn enc P W f1.type R1) (h2:Opn enc P W f2.type R2):Opn enc P W t fun is=>∃ a b c,is=a++b++c∧R0 a∧R1 b∧R2 c:=by
 intro n cs x h
 obtain⟨y0,y1,y2,m,_,hl,g0,g1,g2⟩:=trod_struct3 ht h
 obtain⟨a,ra,ha⟩:=h0 _ _ _ g0
 obtain⟨b,rb,hb⟩:=h1 _ _ _ g1
 obtain⟨c,rc,hcc⟩:=h2 _ _ _ g2
 refine⟨a++b++c,?_,a,b,c,rfl,ha,hb,hcc⟩
 have e:cs=(cs.drop f0.offset).take (P.cellsOf f0.type)++(cs.drop f1.offset).take (P.cellsOf f1.type)++(cs.drop f2.offset).take (P.cellsOf f2.type):=by
  rw[c0,c1,c2,o0,o1,o2,List.drop_zero]
  have e1:(cs.drop (z0+z1)).take z2=cs.drop (z0+z1):=List.take_of_length_le (by simp;omega)
  rw[e1]
  have e2:cs.drop (z0+z1)=(cs.drop z0).drop z1:=by rw[List.drop_drop]
  rw[e2,List.append_assoc,List.take_append_drop,List.take_append_drop]
 rw[e]
 exact zeA (zeA ra rb) rc
theorem zhB {t:TypeId} (hl:laidOutB P=true) (hr:P.readableRec t=true) (hrow:decide (t<P.types.size)=true) {W':World} {v:Value} {d:DataW H} {ps:List MemPlace}
  (h:DataW.Trod enc P W 0 (fun _=>true) true t v d ps) (hold:∀ i,i<W.heap.size→W'.heap[i]? = W.heap[i]?):DataW.Trod enc P W' 0 (fun b=>decide (b<W.heap.size)) true t v d ps:=by
 have hlt:∀ p∈ps,p.block<W.heap.size:=by
  obtain⟨n,hn⟩:=h
  exact DataW.trod_lt n t _ _ hn
 refine Trod_stays hl hr (of_decide_eq_true hrow) h (fun p hp=>?_) (fun p hp=>decide_eq_true (hlt p hp))
 have hb:=hlt p hp
 cases p with
 | cell b off=>
  show W'.cell? ⟨b,off,none⟩=W.cell? ⟨b,off,none⟩
  unfold World.cell?
  rw[hold b hb]
 | map b=>exact hold b hb
end
end Go.Proofs.YtlcekmemdnjjbaaGreatDoor


namespace Go.Proofs.YtlcekmemdnjjbaaGreatDoor
open Go.ChangeShapes Go.WideShapes Go.ChangeAt Go.RowKit Go.Deep Go.WideElems
set_option maxRecDepth 100000
section
variable {H:Type} {enc:TypeId × Value→H} {W:World}
theorem zpH {α β:Type} {f:α→β} {Q:α→Prop}:∀ {xs:List β},(∀ d∈xs,∃ a,d=f a∧Q a)→∃ l:List α,xs=l.map f∧∀ a∈l,Q a
 | [],_=>⟨[],rfl,by simp⟩
 | d::xs,h=>by
  obtain⟨a,ha,hq⟩:=h d (by simp)
  obtain⟨l,hl,hql⟩:=zpH (xs:=xs) fun e he=>h e (by simp[he])
  refine⟨a::l,by rw[ha,hl];rfl,fun b hb=>?_⟩
  rcases List.mem_cons.1 hb with rfl | hb
  ·exact hq
  ·exact hql b hb
theorem wf_u8 {z:Int} (h:(Lit.int .u8 z).wf=true):0≤z∧z≤255:=by
 simp only[Lit.wf,Bool.and_eq_true,decide_eq_true_eq] at h
 have e1:IntKind.u8.min=0:=rfl
 have e2:IntKind.u8.max=255:=rfl
 rw[e1,e2] at h
 exact h
theorem zr5 {n:Nat} (h:n≤maxLen):n≤AI.zas:=by
 simp only[maxLen] at h
 simp only[AI.zas]
 omega
theorem okWide_slice {P:Program} {W:World} {r:Reach} {b0:Nat} {t e:TypeId} {v:Value} (ht:P.underlying t=some (.slice e)) (h:Value.okWide P W r b0 t v):v.cells.toList=[v]:=by
 simp only[Value.okWide,ht,Cell.okWide] at h
 cases v <;> simp_all [Cell.ok,Value.cells]
theorem zrX:Opn enc Tryz.prog W 31 fun is=>∃ l:List Int,is=[AI.zbn l]∧l.length≤AI.zas:=by
 intro n cs x h
 obtain⟨is,hr,xs,rfl,hx,hl⟩:=zpm Tryz.underlying31 (z:=1) (by kernel_rfl) (by decide) (ze5 Tryz.underlying3) n cs x h
 obtain⟨l,rfl,-⟩:=zpH (f:=fun z:Int=>[AI.vi z]) (Q:=fun _=>True) (xs:=xs) fun d hd=>by
  obtain⟨z,hz,_⟩:=hx d hd
  exact⟨z,hz,trivial⟩
 refine⟨_,hr,l,by simp,zr5 (by simpa using hl)⟩
theorem open_ints {r:Reach} {b0:Nat} {v:Value} {d:DataW H} {p:List MemPlace} (hv:Value.okWide Tryz.prog W r b0 31 v) (h:DataW.Trod enc Tryz.prog W 0 (fun _=>true) true 31 v d p) :
  ∃ l:List Int,l.length≤AI.zas∧∀ ρ sh,AI.RepD (KW W) ρ sh v (AI.ints l):=by
 obtain⟨n,hn⟩:=h
 obtain⟨is,hr,l,rfl,hl⟩:=zrX n _ _ hn
 rw[okWide_slice Tryz.underlying31 hv] at hr
 cases hr with
 | cons h1 h2=>exact⟨l,hl,fun ρ sh=>.i h1⟩
structure autLen (x:AI.Aut):Prop where
 e:x.edges.length≤AI.zas
 a:x.alpha.length≤AI.zas
 m:x.marked.length≤AI.zas
end
end Go.Proofs.YtlcekmemdnjjbaaGreatDoor


namespace Go.Proofs.YtlcekmemdnjjbaaGreatDoor
open Go.ChangeShapes Go.WideShapes Go.ChangeAt Go.RowKit Go.Deep Go.WideElems
set_option maxRecDepth 100000
section
variable {H:Type} {enc:TypeId × Value→H} {W:World}
end
end Go.Proofs.YtlcekmemdnjjbaaGreatDoor


namespace Go.AI
open Go.Proofs
set_option maxRecDepth 20000
theorem ziv (O:List Heap) (R:Heap) (l:List Int) (nm f cb:Nat) (B:Ob) (p:Int→Bool) (hl:l.length≤1000000) (hB:zaa O 0 cb=some B) (hR:zaU nm R=R)
  (hp:∀ x∈l,∀ d O,zaa O d cb=some B→zao Tryz.prog f [ii x,.own d cb 0 0] O (bb (p x)) [] O) :
  znb Tryz.prog 54 [.osl 0 nm,.fn (.func f) [] [.own 1 cb 0 0]] (((nm,zax l)::R)::O) nm (.osl 1 nm) [] (((nm,zax (l.filter fun x=>!p x))::R)::O):=by
 have hcb:∀ m:List Int,zaa (((nm,zax m)::R)::O) 1 cb=some B:=fun m=>zaI hB
 have hnm:∀ m:List Int,zaa (((nm,zax m)::R)::O) 0 nm=some (zax m):=fun m=>by simp[zaa,zab]
 have hix:=fun H=>zvm (H::((nm,zax l)::R)::O) l 1 nm (zaI (hnm l)) f 2 cb p (by simp only[zas];omega) (fun x hx=>hp x hx _ _ (zaI (zaI (hcb l))))
 have hpx:∀ x∈l,∀ m:List Int,∀ H,zao Tryz.prog f [ii x,.own 2 cb 0 0] (H::((nm,zax m)::R)::O) (bb (p x)) [] (H::((nm,zax m)::R)::O):=fun x hx m H=>hp x hx _ _ (zaI (hcb m))
 have hsp:=zgE p l 0
 generalize zay p l 0=ix at *
 refine zgS nm [200038,200041] Tk Tryz.func54 rfl Tryz.call54 Tryz.ntmps54 (Nat.le_of_ble_eq_true rfl) fun E=>?_
 refine zae Tk Tryz.func54 ?_
 refine zaf Tk Tryz.func54 (hix _) rfl rfl rfl rfl rfl ?_
 refine zai Tk Tryz.func54 rfl (fun c1=>?_) (fun c1=>?_)
 ·have c1:ix = -1:=beqT c1
  rcases hsp with ⟨_,h2⟩ | ⟨k,hk,h1,_⟩
  ·have e:l.filter (fun x=>!p x)=l:=List.filter_eq_self.2 fun x hx=>by rw[h2 x hx];rfl
   rw[e]
   refine zpY Tk (nm:=nm) (r:=.osl 1 nm) (Moved.refl _ _) rfl rfl rfl trivial rfl rfl rfl
  ·omega
 have c1:ix ≠ -1:=beqF c1
 rcases hsp with ⟨h1,_⟩ | ⟨k,hk,h1,h2,h3⟩
 ·exact absurd h1 c1
 rw[Nat.zero_add] at h1
 subst h1
 clear c1 hix
 have hob:∀ m:List Int,∀ H,zaa (H::((nm,zax m)::R)::O) 1 nm=some (zax m):=fun m H=>zaI (hnm m)
 have hw1:ii (IntKind.i64.wrap ((k:Int)+1))=ii ((k+1:Nat):Int):=congrArg ii (zaD (n:=1000001) (by omega) (by decide))
 have hst0:l.take k=(l.take (k+1)).filter fun x=>!p x:=by
  rw[List.take_add_one,List.getElem?_eq_getElem hk,List.filter_append]
  rw[List.filter_eq_self.2 fun x hx=>by rw[h3 x hx];rfl]
  simp[h2]
 refine zac ?_
 refine zah (fun x:Nat × Nat × List Int=>[(0,.osl 1 nm),(1,.fn (.func f) [] [.own 2 cb 0 0]),(5,ii x.1),(6,ii x.2.1)]) (fun _=>[]) (fun x=>((nm,zax x.2.2)::R)::O) 42
  (fun x=>x.1<x.2.1∧x.2.1≤l.length∧x.2.2.length=l.length∧x.2.2.take x.1=((l.take x.2.1).filter fun x=>!p x)∧x.2.2.drop x.2.1=l.drop x.2.1) (fun x=>l.length - x.2.1) (k,k+1,l)
  ⟨Nat.lt_succ_self _,hk,rfl,hst0,rfl⟩ ⟨rfl,rfl,rfl,hw1,trivial⟩ rfl trivial rfl rfl ?_
 clear hst0 hw1 h2 h3 hk
 rintro ⟨i,j,m⟩ ⟨hij,hjl,hml,htk,hdr⟩ ih
 simp only at hij hjl hml htk hdr
 refine zae Tk Tryz.func54 ?_
 refine zbe Tk Tryz.func54 (hob m _) ?_
 refine zai Tk Tryz.func54 rfl (fun g1=>?_) (fun g1=>?_)
 ·have h1:j<l.length:=by rw[← hml];simpa using g1
  clear g1
  have hmj:m[j]? = some l[j]:=by
   have e1:(m.drop j)[0]? = (l.drop j)[0]?:=by rw[hdr]
   rw[List.getElem?_drop,List.getElem?_drop,Nat.add_zero] at e1
   rw[e1,List.getElem?_eq_getElem h1]
  have gm:(m.map fun x=>[vi x])[(j:Int).toNat]? = some [vi l[j]]:=by rw[Int.toNat_natCast,List.getElem?_map,hmj];rfl
  have hpj:=hpx _ (List.getElem_mem h1)
  have htk2:l.take (j+1)=l.take j++[l[j]]:=by rw[List.take_add_one,List.getElem?_eq_getElem h1];rfl
  have hdr2:∀ m':List Int,m'.drop (j+1)=(m'.drop j).drop 1:=fun m'=>by rw[List.drop_drop]
  generalize l[j]=x at *
  have hj1:ii (IntKind.i64.wrap ((j:Int)+1))=ii ((j+1:Nat):Int):=congrArg ii (zaD (n:=1000001) (by omega) (by decide))
  have hi1:ii (IntKind.i64.wrap ((i:Int)+1))=ii ((i+1:Nat):Int):=congrArg ii (zaD (n:=1000001) (by omega) (by decide))
  refine zbe Tk Tryz.func54 (hob m _) ?_
  refine zag Tk Tryz.func54 (by exact⟨by omega,by show (j:Int)<(m.length:Int);omega⟩) ?_
  refine zbe Tk Tryz.func54 (hob m _) ?_
  refine zap Tk Tryz.func54 (gm) ?_
  refine zaf Tk Tryz.func54 (hpj m _) rfl rfl rfl rfl rfl ?_
  refine zai Tk Tryz.func54 rfl (fun g2=>?_) (fun g2=>?_)
  ·have g2:p x=false:=notT g2
   refine zbe Tk Tryz.func54 (hob m _) ?_
   refine zag Tk Tryz.func54 (by exact⟨by omega,by show (i:Int)<(m.length:Int);omega⟩) ?_
   refine zbe Tk Tryz.func54 (hob m _) ?_
   refine zac ?_
   refine zaq (wk_S (S':=[]::((nm,zax (m.set i x))::R)::O) fun d n=>?_) ?_
   ·have e:Ob.arr 3 1 m.length ((m.map fun x=>[vi x]).set (i:Int).toNat [vi x]) true=zax (m.set i x):=by
     rw[Int.toNat_natCast]
     simp[List.map_set]
    rw[← e]
    exact zpr d n
   refine ih (i+1,j+1,m.set i x) _ _ ⟨by simp only;omega,h1,by simp only[List.length_set];exact hml,?_,?_⟩ (by simp only;omega) ⟨rfl,rfl,hi1,hj1,trivial⟩ rfl trivial rfl rfl
   ·simp only
    rw[htk2,List.filter_append,← htk,List.take_add_one,List.getElem?_set_self (by omega),List.take_set_of_le (Nat.le_refl i)]
    simp[g2]
   ·simp only
    rw[List.drop_set_of_lt (by omega),hdr2,hdr2,hdr]
  ·have g2:p x=true:=notF g2
   refine zac ?_
   refine ih (i,j+1,m) _ _ ⟨by simp only;omega,h1,hml,?_,?_⟩ (by simp only;omega) ⟨rfl,rfl,rfl,hj1,trivial⟩ rfl trivial rfl rfl
   ·simp only
    rw[htk2,List.filter_append,← htk]
    simp[g2]
   ·simp only
    rw[hdr2,hdr2,hdr]
 ·have h1:l.length≤j:=by rw[← hml];simpa using g1
  rw[List.take_of_length_le h1] at htk
  clear ih hdr g1
  have hin:i<m.length:=by omega
  have hil:(l.filter fun x=>!p x).length=i:=by rw[← htk,List.length_take];omega
  refine znN Tk Tryz.func54 (nm:=nm) (n:=m.length) (i0:=i) (ti1:=zet) (ti2:=zhD) (xs:=m.map fun x=>[vi x]) (z:=.int .i64 0) hin rfl rfl rfl rfl rfl rfl rfl rfl rfl Tryz.zeroValue3 rfl rfl rfl rfl rfl rfl rfl rfl rfl rfl rfl rfl (by simp[zab]) rfl ?_
  refine zko Tk Tryz.func54 (nm:=nm) (n:=m.length) (m:=i) (ti1:=zet) (ti2:=zhD) (es:=1) (xs:=(m.map fun x=>[vi x]).take i++List.replicate (m.length - i) [I.v (.int .i64 0)]) (Nat.le_of_lt hin) (by omega) rfl rfl rfl rfl rfl rfl rfl rfl rfl rfl rfl (by simp[zab]) rfl ?_
  intro E' hM
  have hkk:zaU nm ((nm,Ob.arr 3 1 m.length ((m.map fun x=>[vi x]).take i++List.replicate (m.length - i) [I.v (.int .i64 0)]) true)::(nm,zax m)::R)=R:=by
   simp[zaU,hR]
  have hfin:Ob.arr 3 1 i (((m.map fun x=>[vi x]).take i++List.replicate (m.length - i) [I.v (.int .i64 0)]).take i) true=zax (l.filter fun x=>!p x):=by
   rw[List.take_append_of_le_length (by rw[List.length_take,List.length_map];omega),List.take_take,Nat.min_self,← List.map_take,htk]
   simp[zax,hil]
  refine zpY Tk (nm:=nm) (r:=.osl 1 nm) hM rfl rfl rfl trivial rfl ?_ rfl
  show ((nm,Ob.arr 3 1 i (((m.map fun x=>[vi x]).take i++List.replicate (m.length - i) [I.v (.int .i64 0)]).take i) true)::zaU nm ((nm,Ob.arr 3 1 m.length ((m.map fun x=>[vi x]).take i++List.replicate (m.length - i) [I.v (.int .i64 0)]) true)::(nm,zax m)::R))::O=((nm,zax (l.filter fun x=>!p x))::R)::O
  rw[hkk,hfin]
theorem znX {c:Cx} (hP:c.P=Tryz.prog) {s:St} {o:Oper} {t nm f cb:Nat} {l:List Int} {R:Heap} {O:List Heap} {B:Ob} (p:Int→Bool) (hl:l.length≤1000000) (hB:zaa O 0 cb=some B) (hR:zaU nm R=R)
  (hp:∀ x∈l,∀ d O,zaa O d cb=some B→zao Tryz.prog f [ii x,.own d cb 0 0] O (bb (p x)) [] O) (ht:o.dst=some t) (hn:t<s.n) (hS:s.S=((nm,zax l)::R)::O) :
  Wp c o s 54 [.osl 0 nm,.fn (.func f) [] [.own 1 cb 0 0]] { σ:=(t,.osl 0 nm)::zd2 nm s.σ,S:=((nm,zax (l.filter fun x=>!p x))::R)::O,n:=s.n }:=by
 have h:=ziv O R l nm f cb B p hl hB hR hp
 refine zfh (c:=c) (s:=s) (o:=o) (nm:=nm) (res:=.osl 1 nm) ?_ ht hn hS (xs:=l.map fun x=>[vi x]) (wr:=true) (by rw[zab,if_pos rfl]) ⟨_,_,_,_,_,by rw[zab,if_pos rfl]⟩ ?_
 ·rw[hP,hS]
  have e:D.imms (zel (((nm,zax l)::R)::O)) [.osl 0 nm,.fn (.func f) [] [.own 1 cb 0 0]]=[.osl 0 nm,.fn (.func f) [] [.own 1 cb 0 0]]:=by
   simp[D.imms,D.imm,zel,zab]
  rw[e]
  exact h
 ·intro d m hd
  match d with
  | 0=>
   have hm:¬ nm=m:=fun e=>by rcases hd with h | h;exact h rfl;exact h e.symm
   simp only[shape,zaa,List.getElem?_cons_zero,zab,if_neg hm]
  | d+1=>simp[shape,zaa]
end Go.AI


namespace Go.AI
open Go.Proofs
set_option maxRecDepth 20000
theorem zql (O:List Heap) (b:Int):zao Tryz.prog 30 [u8D b] O (.osl 0 17) [(17,zax (zbf b))] O:=by
 refine zat [7] Tk Tryz.func30 rfl Tryz.call30 Tryz.ntmps30 (Nat.le_of_ble_eq_true rfl) fun E=>?_
 refine zae Tk Tryz.func30 ?_
 refine zac ?_
 refine zaq (zb8 3 17 3 1 rfl rfl rfl) ?_
 refine zah (fun i:Nat=>[(0,u8D b),(3,.osl 0 17),(4,ii i)]) (fun i=>[(17,zax (rawM b i))]) (fun _=>O) 19
  (fun i=>i≤5) (fun i=>5 - i) 0 (Nat.zero_le _) ⟨rfl,rfl,rfl,trivial⟩ rfl ⟨rfl,trivial⟩ rfl rfl ?_
 intro i hi ih
 have hj1:ii (IntKind.i64.wrap ((i:Int)+1))=ii ((i+1:Nat):Int):=congrArg ii (zaD (n:=1000001) (by omega) (by decide))
 have hs:=zf3 b i
 have hl:=zeB b i
 refine zae Tk Tryz.func30 ?_
 refine zai Tk Tryz.func30 rfl (fun g1=>?_) (fun g1=>?_)
 ·have g1:(i:Int)<5:=of_decide_eq_true g1
  refine zag Tk Tryz.func30 (by exact⟨by omega,by show (i:Int)≤(8:Nat);omega⟩) ?_
  refine zai Tk Tryz.func30 rfl (fun g2=>?_) (fun g2=>?_)
  ·have g2:bitP b i=true:=g2
   rw[if_pos g2] at hs
   refine zag Tk Tryz.func30 (by exact⟨by show ((rawM b i).length+1) * 8≤140737488355328;omega,by show (rawM b i).length+1≤9223372036854775807;omega⟩) ?_
   refine zac ?_
   refine ih (i+1) _ _ (by omega) (by omega) ⟨rfl,rfl,hj1,trivial⟩ rfl ⟨?_,trivial⟩ rfl rfl
   rw[hs]
   exact congrArg some (zaL (rawM b i) (i:Int))
  ·have g2:¬ bitP b i=true:=by intro h;exact absurd (g2.symm.trans h) (by decide)
   rw[if_neg g2,List.append_nil] at hs
   refine zac ?_
   exact ih (i+1) _ _ (by omega) (by omega) ⟨rfl,rfl,hj1,trivial⟩ rfl ⟨by rw[hs];rfl,trivial⟩ rfl rfl
 ·have g1:¬ (i:Int)<5:=of_decide_eq_false g1
  obtain rfl:i=5:=by omega
  refine zav ?_
  refine zae Tk Tryz.func30 ?_
  refine g_go Tk Tryz.func30 ?_
  exact⟨zbm (hT:=Tk) (r:=.osl 0 17) rfl rfl rfl ⟨⟨_,rfl,rfl⟩,trivial⟩ (zef _ _ _) rfl rfl⟩
theorem zv1 (O:List Heap) (x:Int) (l:List Int) (hl:l.length≤1000000) (d nm:Nat) (ho:zaa O d nm=some (.box [ints l])):zao Tryz.prog 55 [ii x,.own d nm 0 0] O (bb (!decide (x∈l))) [] O:=by
 have h:=fun O=>zaV O l x (by simp only[zas];omega)
 refine zad Tk Tryz.func55 rfl Tryz.call55 Tryz.ntmps55 (Nat.le_of_ble_eq_true rfl) fun E=>?_
 refine zae Tk Tryz.func55 ?_
 refine zbe Tk Tryz.func55 (zaI ho) ?_
 refine zaf Tk Tryz.func55 (h _) rfl rfl rfl rfl rfl ?_
 refine zak Tk (r:=bb (!decide (x∈l))) rfl rfl rfl trivial rfl rfl ?_
 rfl
def hasR (l s:List Int):List Int:=s.filter fun x=>decide (x∈l)
theorem zvn (O:List Heap) (b:Int) (l:List Int) (hl:l.length≤1000000) (nm:Nat) (ho:zaa O 0 nm=some (.box [ints l])):zao Tryz.prog 53 [u8D b,.own 0 nm 0 0] O (ints (hasR l (zbf b))) [] O:=by
 have e:hasR l (zbf b)=(zbf b).filter fun x=>!(!decide (x∈l)):=by simp[hasR]
 have h5:=(zjt b).2.2
 have hev:=fun O=>zql O b
 rw[e]
 refine zat [200007] Tk Tryz.func53 rfl Tryz.call53 Tryz.ntmps53 (Nat.le_of_ble_eq_true rfl) fun E=>?_
 refine zae Tk Tryz.func53 ?_
 refine zaf Tk Tryz.func53 (hev _) rfl rfl rfl rfl rfl ?_
 refine zdC Tk Tryz.func53 rfl rfl rfl rfl (znX (l:=zbf b) (R:=[]) (B:=.box [ints l]) rfl (fun x=>!decide (x∈l)) (by omega) ho rfl (fun x _ d O ho=>zv1 O x l hl d nm ho) rfl (show 7<8 by decide) rfl) ?_
 refine zcF (zan 17 rfl rfl) ?_
 refine zak Tk (r:=ints ((zbf b).filter fun x=>!(!decide (x∈l)))) rfl rfl rfl trivial rfl rfl ?_
 rfl
end Go.AI


namespace Go.AI
abbrev zvp (gs:Int) (gt:Nat→Int):Prop:=0≤gs∧∀ j,0≤gt j∧gt j≤255
open Go.Proofs
set_option maxRecDepth 20000
structure Sk where
 st:Int
 ps:Int
 pm:Int
 pt:Nat→Int
 ss:Int
 sm:Int
 t2:Nat→Int
 ob:Int
 ct:Int
abbrev skC (x:Sk):List D:=[u8D x.st,u8D x.ps,u8D x.pm,u8D (x.pt 0),u8D (x.pt 1),u8D (x.pt 2),u8D (x.pt 3),u8D (x.pt 4),u8D (x.pt 5),u8D (x.pt 6),u8D (x.pt 7),u8D (x.pt 8),u8D (x.pt 9),u8D (x.pt 10),u8D (x.pt 11),u8D (x.pt 12),u8D (x.pt 13),u8D (x.pt 14),u8D (x.pt 15),u8D (x.pt 16),u8D (x.pt 17),u8D (x.pt 18),u8D (x.pt 19),u8D (x.pt 20),u8D (x.pt 21),u8D (x.pt 22),u8D (x.pt 23),u8D (x.pt 24),u8D x.ss,u8D x.sm,u8D (x.t2 0),u8D (x.t2 1),u8D (x.t2 2),u8D (x.t2 3),u8D (x.t2 4),u8D (x.t2 5),u8D (x.t2 6),u8D (x.t2 7),u8D (x.t2 8),u8D (x.t2 9),u8D (x.t2 10),u8D (x.t2 11),u8D (x.t2 12),u8D (x.t2 13),u8D (x.t2 14),u8D (x.t2 15),u8D (x.t2 16),u8D (x.t2 17),u8D (x.t2 18),u8D (x.t2 19),u8D (x.t2 20),u8D (x.t2 21),u8D (x.t2 22),u8D (x.t2 23),u8D (x.t2 24),u8D x.ob,u8D x.ct]
structure skOkB (x:Sk):Prop where
 p:zvp x.ps x.pt
 s:zvp x.ss x.t2
def mkS (x:Sk):Sys:=⟨mkA (zbf x.st) x.ps x.pm x.pt,mkA (zbf x.st) x.ss x.sm x.t2,hasR (zbf x.st) (zbf x.ob),hasR (zbf x.st) (zbf x.ct)⟩
theorem zs1 (O:List Heap) (x:Sk) (h:skOkB x):zao Tryz.prog 15 [.agg (skC x)] O (sysD (mkS x)) [] O:=by
 obtain⟨e1,e2,e3⟩:=zjt x.st
 have p:=zpB (gs:=x.ps) (gm:=x.pm) e1 e2 e3 h.p.2
 have s:=zpB (gs:=x.ss) (gm:=x.sm) e1 e2 e3 h.s.2
 have c1:=fun O=>zs2 O (zbf x.st) x.ps x.pm x.pt e3 h.p.1 p.1.1 p.1.2
 have c2:=fun O=>zs2 O (zbf x.st) x.ss x.sm x.t2 e3 h.s.1 s.1.1 s.1.2
 have c0:=fun O=>zsv O x.st
 have c3:=fun O nm ho=>zvn O x.ob (zbf x.st) (by omega) nm ho
 have c4:=fun O nm ho=>zvn O x.ct (zbf x.st) (by omega) nm ho
 unfold mkS
 clear p s e1 e2 e3 h
 generalize mkA (zbf x.st) x.ps x.pm x.pt=A at *
 generalize mkA (zbf x.st) x.ss x.sm x.t2=B at *
 generalize hasR (zbf x.st) (zbf x.ob)=M at *
 generalize hasR (zbf x.st) (zbf x.ct)=N at *
 generalize zbf x.st=l at *
 obtain⟨al,st,mk,es⟩:=A
 obtain⟨al',st',mk',es'⟩:=B
 obtain⟨xst,xps,xpm,xpt,xss,xsm,xt2,xob,xct⟩:=x
 simp only at c0 c1 c2
 refine zad Tk Tryz.func15 rfl Tryz.call15 Tryz.ntmps15 (Nat.le_of_ble_eq_true rfl) fun E=>?_
 refine zae Tk Tryz.func15 ?_
 refine zaf Tk Tryz.func15 (c0 _) rfl rfl rfl rfl rfl ?_
 refine zaE Tk Tryz.func15 zaM rfl ?_
 refine zaX Tk (fun _=>c1 _) rfl rfl rfl ?_
 refine zaX Tk (fun _=>c2 _) rfl rfl rfl ?_
 refine zo0 Tk (c3 _ 3 rfl) rfl rfl rfl ?_
 refine zo0 Tk (c4 _ 3 rfl) rfl rfl rfl ?_
 refine zoY Tk rfl rfl rfl ?_
 refine zaS Tk Tryz.func15 (by kernel_rfl) ?_
 refine zak Tk (r:=sysD ⟨⟨al,st,mk,es⟩,⟨al',st',mk',es'⟩,M,N⟩) rfl rfl rfl trivial rfl rfl ?_
 rfl
end Go.AI


namespace Go.AI
open Go.Proofs
set_option maxRecDepth 20000
theorem zfq (O:List Heap) (a:Aut) (s ev:Int) (hl:a.edges.length≤1000000):zao Tryz.prog 18 [autD a,ii s,ii ev] O (ii (stp3 a.edges s ev)) [] O:=by
 obtain⟨al,st,mk,es⟩:=a
 simp only at hl ⊢
 generalize hR:stp3 es s ev=R
 refine zad Tk Tryz.func18 rfl Tryz.call18 Tryz.ntmps18 (Nat.le_of_ble_eq_true rfl) fun E=>?_
 refine zae Tk Tryz.func18 ?_
 refine zac ?_
 refine zah (fun i:Nat=>[(1,ii s),(2,ii ev),(10,edgs es),(11,ii es.length),(12,ii i)]) (fun _=>[]) (fun _=>O) 29
  (fun i=>i≤es.length∧stp3 (es.drop i) s ev=R) (fun i=>es.length - i) 0 ⟨Nat.zero_le _,hR⟩ ⟨rfl,rfl,rfl,rfl,rfl,trivial⟩ rfl trivial rfl rfl ?_
 rintro i ⟨hi,hno⟩ ih
 clear hR
 refine zae Tk Tryz.func18 ?_
 refine zai Tk Tryz.func18 rfl (fun g1=>?_) (fun g1=>?_)
 ·have h1:i<es.length:=by simpa using g1
  have ge:(es.map edgI)[(i:Int).toNat]? = some (edgI es[i]):=zaj h1
  have dl:es.drop i=es[i]::es.drop (i+1):=List.drop_eq_getElem_cons h1
  rw[dl] at hno
  simp only[stp3] at hno
  clear dl
  generalize es[i]=y at *
  obtain⟨yf,ye,yt⟩:=y
  simp only at hno
  have n1:0≤(i:Int)∧(i:Int)<(es.length:Int):=by omega
  refine zag Tk Tryz.func18 (by exact n1) ?_
  refine zap Tk Tryz.func18 (ge) ?_
  refine zaR Tk Tryz.func18 rfl (fun g2=>?_) (fun g2=>?_)
  ·have g2:yf=s:=beqT g2
   refine zai Tk Tryz.func18 rfl (fun g3=>?_) (fun g3=>?_)
   ·have g3:ye=ev:=beqT g3
    rw[if_pos ⟨g2,g3⟩] at hno
    subst hno
    refine zak Tk (r:=ii yt) rfl rfl rfl trivial rfl rfl ?_
    rfl
   ·have g3:ye≠ev:=beqF g3
    rw[if_neg (fun h=>g3 h.2)] at hno
    refine zac ?_
    exact ih (i+1) _ _ ⟨h1,hno⟩ (by omega) ⟨rfl,rfl,rfl,rfl,congrArg ii (zaD (n:=1000001) (by omega) (by decide)),trivial⟩ rfl trivial rfl rfl
  ·have g2:yf≠s:=beqF g2
   rw[if_neg (fun h=>g2 h.1)] at hno
   refine gcF Tk Tryz.func18 rfl ?_
   refine zac ?_
   exact ih (i+1) _ _ ⟨h1,hno⟩ (by omega) ⟨rfl,rfl,rfl,rfl,congrArg ii (zaD (n:=1000001) (by omega) (by decide)),trivial⟩ rfl trivial rfl rfl
 ·have h1:es.length≤i:=by simpa using g1
  rw[List.drop_eq_nil_of_le h1] at hno
  simp only[stp3] at hno
  subst hno
  refine zak Tk (r:=ii (-1)) rfl rfl rfl trivial rfl rfl ?_
  rfl
abbrev prD (z:Int × Int):D:=.agg [ii z.1,ii z.2]
def idxP (z:Int × Int):List (Int × Int)→Nat→Int
 | [],_=>-1
 | x::r,i=>if x=z then (i:Int) else idxP z r (i+1)
theorem zpQ (z:Int × Int):∀ (l:List (Int × Int)) (i:Nat),idxP z l i=if z∈l then ((i+l.findIdx (eqB z):Nat):Int) else -1
 | [],i=>rfl
 | x::r,i=>by
  simp only[idxP]
  by_cases h:x=z
  ·subst h
   rw[if_pos rfl,if_pos (by simp)]
   simp[List.findIdx_cons,eqB]
  ·rw[if_neg h,zpQ z r (i+1)]
   by_cases hm:z∈r
   ·rw[if_pos hm,if_pos (by simp[hm])]
    have hz:¬ z=x:=fun e=>h e.symm
    rw[List.findIdx_cons,show eqB z x=false by simp[eqB,hz]]
    simp only[cond_false]
    congr 1;omega
   ·rw[if_neg hm,if_neg (by simp[hm];exact fun e=>h e.symm)]
theorem zum (O:List Heap) (l:List (Int × Int)) (z:Int × Int) (e w:Nat) (ho:zaa O e w=some (zi7 l)) (hl:l.length≤1000000):zao Tryz.prog 94 [.osl e w,prD z] O (ii (idxP z l 0)) [] O:=by
 have hO:∀ H,zaa (H::O) (e+1) w=some (zi7 l):=fun H=>zaI ho
 generalize hR:idxP z l 0=R
 obtain⟨z1,z2⟩:=z
 refine zad Tk Tryz.func94 rfl Tryz.call94 Tryz.ntmps94 (Nat.le_of_ble_eq_true rfl) fun E=>?_
 refine zae Tk Tryz.func94 ?_
 refine zbe Tk Tryz.func94 (hO _) ?_
 refine zac ?_
 refine zah (fun i:Nat=>[(0,.osl (e+1) w),(3,.own 0 3 0 0),(7,ii l.length),(8,ii i)]) (fun _=>[(3,.box [ii z1,ii z2])]) (fun _=>O) 19
  (fun i=>i≤l.length∧idxP (z1,z2) (l.drop i) i=R) (fun i=>l.length - i) 0 ⟨Nat.zero_le _,hR⟩ ⟨rfl,rfl,rfl,rfl,trivial⟩ rfl ⟨rfl,trivial⟩ rfl rfl ?_
 rintro i ⟨hi,hno⟩ ih
 clear hR
 refine zae Tk Tryz.func94 ?_
 refine zai Tk Tryz.func94 rfl (fun g1=>?_) (fun g1=>?_)
 ·have h1:i<l.length:=by simpa using g1
  have ge:(l.map prI)[(i:Int).toNat]? = some (prI l[i]):=zaj h1
  have dl:l.drop i=l[i]::l.drop (i+1):=List.drop_eq_getElem_cons h1
  rw[dl] at hno
  simp only[idxP] at hno
  clear dl
  generalize l[i]=y at *
  obtain⟨y1,y2⟩:=y
  have n1:0≤(i:Int)∧(i:Int)<(l.length:Int):=by omega
  refine zaE Tk Tryz.func94 zaM rfl ?_
  refine zfS Tk (ho) ?_
  refine zaA Tk (by exact n1) ?_
  refine zfS Tk (ho) ?_
  refine zaK Tk (ge) ?_
  refine zaS Tk Tryz.func94 (by kernel_rfl) ?_
  refine zai Tk Tryz.func94 rfl (fun g2=>?_) (fun g2=>?_)
  ·have g2:(z1==y1)=true∧(z2==y2)=true:=by simpa using g2
   have e1:z1=y1:=by simpa using g2.1
   have e2:z2=y2:=by simpa using g2.2
   rw[if_pos (by rw[e1,e2])] at hno
   subst hno
   refine zak Tk (r:=ii (i:Int)) rfl rfl rfl trivial rfl rfl ?_
   rfl
  ·have g2:¬ (y1,y2)=(z1,z2):=fun e=>by
    injection e with e1 e2
    subst e1 e2
    simp at g2
   rw[if_neg g2] at hno
   refine zac ?_
   exact ih (i+1) _ _ ⟨h1,hno⟩ (by omega) ⟨rfl,rfl,rfl,congrArg ii (zaD (n:=1000001) (by omega) (by decide)),trivial⟩ rfl ⟨rfl,trivial⟩ rfl rfl
 ·have h1:l.length≤i:=by simpa using g1
  rw[List.drop_eq_nil_of_le h1] at hno
  simp only[idxP] at hno
  subst hno
  refine zak Tk (r:=ii (-1)) rfl rfl rfl trivial rfl rfl ?_
  rfl
end Go.AI


namespace Go.AI
open Go.Proofs
set_option maxRecDepth 20000
theorem zvd {x:Sys} {U:Unf (Int × Int)} (h:UOk (lpIn x) U):U.sts.length≤(lpV x).length:=zbl h.nd fun s hs=>zgg (h.ok s hs)
set_option maxHeartbeats 16000000 in
theorem zpF (O:List Heap) (x:Sys) (h:smallS x) (hx:gSys x) (hV0:(lpV x).length≤4095):zao Tryz.prog 42 [sysD x] O (.tup [autD (lpR x).1,.i (prsI (lpR x).2)]) [] O:=by
 have hal:=zaY (by decide) (zaB hx.p).1
 by_cases h0:0<x.p.states∧0<x.s.states
 ·obtain⟨V,hV1,hU⟩:=zgk hx h0 (by omega)
  have hF:=zl5 hx false (show (lpV x).length<4096 by omega)
  have hlp:lpR x=(unfA x.p.alpha V,V.sts):=by unfold lpR;rw[if_pos h0,hV1]
  have hno:(Except.ok V:Except Int (Unf (Int × Int)))=zbz eqB false (zdy x) (lpMk x) x.p.alpha (4097 - 0) 0 (unf0 ((0:Int),(0:Int))):=hV1.symm
  have hU0:UOk (lpIn x) (unf0 ((0:Int),(0:Int))):=⟨fun s hs=>by
   rw[show s=(0,0) by simpa [unf0] using hs]
   exact⟨⟨Int.le_refl _,h0.1⟩,Int.le_refl _,h0.2⟩,by simp[unf0],rfl⟩
  have hfew:∀ U:Unf (Int × Int),UOk (lpIn x) U→U.sts.length≤4095:=fun U hU=>Nat.le_trans (zvd hU) hV0
  have hvok:=fun i s ev U V' hU hs hi hq=>@zeu (Int × Int) _ eqB false (zdy x) (lpIn x) hF i s ev U V' hU hs hi hq
  have s1:=fun O s e=>zfq O x.p s e h.p.ed
  have s2:=fun O s e=>zfq O x.s s e h.s.ed
  have m1:=fun O e=>zaV O x.p.marked e (by have:=h.p.mkd;simp only[zas];omega)
  have m2:=fun O e=>zaV O x.s.marked e (by have:=h.s.mkd;simp only[zas];omega)
  have hts:∀ z ev,zdy x z ev=((stp3 x.p.edges z.1 ev,stp3 x.s.edges z.2 ev),decide (0≤stp3 x.p.edges z.1 ev) && decide (0≤stp3 x.s.edges z.2 ev),0):=fun z ev=>rfl
  have hmr:∀ z,lpMk x z=(decide (z.1∈x.p.marked) && decide (z.2∈x.s.marked)):=fun z=>rfl
  rw[hlp]
  unfold unfA
  generalize hR:(Except.ok V:Except Int (Unf (Int × Int)))=R at *
  clear hlp hV1 hU hF hV0 hx h
  generalize zdy x=ts at *
  generalize lpMk x=mr at *
  generalize lpIn x=P at *
  obtain⟨⟨al,st,mk,es⟩,⟨al',st',mk',es'⟩,ob,ct⟩:=x
  simp only at h0 hal hts hmr s1 s2 m1 m2 hno ⊢
  refine zat [10,19,21] Tk Tryz.func42 rfl Tryz.call42 Tryz.ntmps42 (Nat.le_of_ble_eq_true rfl) fun E=>?_
  refine zae Tk Tryz.func42 ?_
  refine zaR Tk Tryz.func42 rfl (fun _=>?_) (fun h=>absurd h (by simp;omega))
  refine zai Tk Tryz.func42 rfl (fun _=>?_) (fun h=>absurd h (by simp;omega))
  refine zag Tk Tryz.func42 (by exact⟨by decide,by decide⟩) ?_
  refine zac ?_
  refine zaq (zcR 28 105 rfl rfl rfl) ?_
  refine zaq (zaO 4 59 3 1 (pre:=[ints al,ii 0]) (post:=[.i (.v (.slice none 0 0))]) rfl rfl rfl) ?_
  refine zaq (zaO 4 113 117 3 (pre:=[ints al,ii 0,.osl 0 59]) (post:=[]) rfl rfl rfl) ?_
  refine zah (fun x:Nat × Unf (Int × Int)=>[(1,.own 0 1 0 0),(2,.own 0 2 0 0),(4,.own 0 4 0 0),(5,.osl 0 105),(6,ii x.1)])
   (fun x=>[(1,.box (sysC ⟨⟨al,st,mk,es⟩,⟨al',st',mk',es'⟩,ob,ct⟩)),(2,.box [.i (.v (.slice none 0 0)),ii 0,.i (.v (.slice none 0 0)),.i (.v (.slice none 0 0))]),(4,.box [ints al,ii 0,.osl 0 59,.osl 0 113]),(105,zi7 x.2.sts),(59,zax x.2.mkl),(113,zbD x.2.eds)]) (fun _=>O) 121
   (fun x=>x.1≤x.2.sts.length∧UOk P x.2∧x.2.mkl.length≤x.1∧x.2.eds.length≤32 * x.1∧R=zbz eqB false ts mr al (4097 - x.1) x.1 x.2) (fun x=>4097 - x.1) (0,unf0 ((0:Int),(0:Int)))
   ⟨Nat.zero_le _,hU0,Nat.le_refl _,Nat.le_refl _,hno⟩ ⟨rfl,rfl,rfl,rfl,rfl,trivial⟩ rfl ⟨rfl,rfl,rfl,rfl,rfl,rfl,trivial⟩ rfl rfl ?_
  clear hno hU0 h0
  rintro ⟨i,U⟩ ⟨hi,hgd,hml,hel,hno⟩ ih
  simp only at hi hgd hml hel hno
  refine zae Tk Tryz.func42 ?_
  refine zai Tk Tryz.func42 rfl (fun g1=>?_) (fun g1=>?_)
  ·have h1:i<U.sts.length:=by simpa using g1
   clear g1
   have hle:=hfew U hgd
   have hsi:U.sts[i]? = some U.sts[i]:=List.getElem?_eq_getElem h1
   have gs:(U.sts.map prI)[(i:Int).toNat]? = some (prI U.sts[i]):=zaj h1
   have hoks:=hgd.ok _ (List.getElem_mem h1)
   generalize U.sts[i]=s at *
   have hno:R=match zau eqB false ts i s al (zbk mr i s U) with
     | .error e=>.error e
     | .ok U'=>zbz eqB false ts mr al (4097 - (i+1)) (i+1) U':=by
    rw[hno,show 4097 - i=(4097 - (i+1))+1 by omega]
    simp only[zbz,hsi]
    cases zau eqB false ts i s al (zbk mr i s U) <;> rfl
   obtain⟨m1',m2'⟩:=zb9 mr i s U
   have hM:UOk P (zbk mr i s U):=⟨by rw[m1'];exact hgd.ok,by rw[m1'];exact hgd.nd,by rw[m1',m2'];exact hgd.fr⟩
   have hm3:(zbk mr i s U).mkl=if mr s=true then U.mkl++[(i:Int)] else U.mkl:=by
    unfold zbk
    by_cases h:mr s=true <;> simp[h]
   generalize zbk mr i s U=U1 at *
   rw[hmr] at hm3
   obtain⟨z1,z2⟩:=s
   simp only at hm3
   have d1:=fun O=>m1 O z1
   have d2:=fun O=>m2 O z2
   generalize decide (z1∈mk)=B1 at *
   generalize decide (z2∈mk')=B2 at *
   obtain⟨sts,mkl,eds⟩:=U
   obtain⟨sts1,mkl1,eds1⟩:=U1
   simp only at m1' m2' hm3 hsi gs hno h1 hle hel hml hi hgd
   subst m1' m2'
   have n1:0≤(i:Int)∧(i:Int)<(sts1.length:Int):=by omega
   have hml1:mkl1.length≤i+1:=by rw[hm3];split;(rw[List.length_append,List.length_singleton];omega);omega
   apply zbS (P:=True) (s6:={ σ:=[(1,.own 0 1 0 0),(2,.own 0 2 0 0),(4,.own 0 4 0 0),(5,.osl 0 105),(6,ii i)],S:=[(1,.box (sysC ⟨⟨al,st,mk,es⟩,⟨al',st',mk',es'⟩,ob,ct⟩)),(2,.box [.i (.v (.slice none 0 0)),ii 0,.i (.v (.slice none 0 0)),.i (.v (.slice none 0 0))]),(4,.box [ints al,ii 0,.osl 0 59,.osl 0 113]),(105,zi7 sts1),(59,zax mkl1),(113,zbD eds1)]::O,n:=121 })
   ·intro J
    refine zaE Tk Tryz.func42 zaM rfl ?_
    refine zaA Tk (by exact n1) ?_
    refine zaA Tk (by exact⟨by decide,by decide⟩) ?_
    refine zaK Tk (gs) ?_
    refine zaX Tk (fun _=>d1 _) rfl rfl rfl ?_
    refine zcU Tk (fun c1=>?_) (fun c1=>?_)
    ·have c1:B1=true:=c1
     refine zaA Tk (by exact n1) ?_
     refine zaA Tk (by exact⟨by decide,by decide⟩) ?_
     refine zaK Tk (gs) ?_
     refine zaX Tk (fun _=>d2 _) rfl rfl rfl ?_
     refine zaS Tk Tryz.func42 (by kernel_rfl) ?_
     rw[c1,Bool.true_and] at hm3
     refine zai Tk Tryz.func42 rfl (fun c2=>?_) (fun c2=>?_)
     ·have c2:B2=true:=c2
      rw[if_pos c2] at hm3
      refine zag Tk Tryz.func42 (by exact⟨by show (mkl.length+1) * 8≤140737488355328;omega,by show mkl.length+1≤9223372036854775807;omega⟩) ?_
      refine zav ?_
      refine zaz (J trivial) ⟨rfl,rfl,rfl,rfl,rfl,trivial⟩ rfl ⟨rfl,rfl,rfl,rfl,by rw[hm3];exact congrArg some (zaL mkl (i:Int)),rfl,trivial⟩ rfl rfl
     ·have c2:¬ B2=true:=by rw[show B2=false from c2];decide
      rw[if_neg c2] at hm3
      refine zav ?_
      refine zaz (J trivial) ⟨rfl,rfl,rfl,rfl,rfl,trivial⟩ rfl ⟨rfl,rfl,rfl,rfl,by rw[hm3];rfl,rfl,trivial⟩ rfl rfl
    ·have c1:B1=false:=c1
     refine zaS Tk Tryz.func42 (by kernel_rfl) ?_
     rw[c1,Bool.false_and,if_neg (by decide)] at hm3
     refine gcF Tk Tryz.func42 rfl ?_
     refine zav ?_
     refine zaz (J trivial) ⟨rfl,rfl,rfl,rfl,rfl,trivial⟩ rfl ⟨rfl,rfl,rfl,rfl,by rw[hm3];rfl,rfl,trivial⟩ rfl rfl
   intro _
   clear hm3 hml d1 d2 gs hgd m1 m2 hmr
   have hV0:zau eqB false ts i (z1,z2) al ⟨sts1,mkl1,eds1⟩=zau eqB false ts i (z1,z2) (al.drop 0) ⟨sts1,mkl1,eds1⟩:=rfl
   generalize zau eqB false ts i (z1,z2) al ⟨sts1,mkl1,eds1⟩=VV at *
   refine zae Tk Tryz.func42 ?_
   refine g_go Tk Tryz.func42 ?_
   refine zac ?_
   refine zah (fun x:Nat × Unf (Int × Int)=>[(1,.own 0 1 0 0),(2,.own 0 2 0 0),(4,.own 0 4 0 0),(5,.osl 0 105),(6,ii i),(62,ints al),(63,ii al.length),(64,ii x.1)])
    (fun x=>[(1,.box (sysC ⟨⟨al,st,mk,es⟩,⟨al',st',mk',es'⟩,ob,ct⟩)),(2,.box [.i (.v (.slice none 0 0)),ii 0,.i (.v (.slice none 0 0)),.i (.v (.slice none 0 0))]),(4,.box [ints al,ii 0,.osl 0 59,.osl 0 113]),(105,zi7 x.2.sts),(59,zax x.2.mkl),(113,zbD x.2.eds)]) (fun _=>O) 121
    (fun x=>x.1≤al.length∧UOk P x.2∧i<x.2.sts.length∧x.2.mkl=mkl1∧x.2.eds.length≤32 * i+x.1∧x.2.sts[i]? = some (z1,z2)∧VV=zau eqB false ts i (z1,z2) (al.drop x.1) x.2) (fun x=>al.length - x.1) (0,⟨sts1,mkl1,eds1⟩)
    ⟨Nat.zero_le _,hM,h1,rfl,hel,hsi,hV0⟩ ⟨rfl,rfl,rfl,rfl,rfl,rfl,rfl,rfl,trivial⟩ rfl ⟨rfl,rfl,rfl,rfl,rfl,rfl,trivial⟩ rfl rfl ?_
   clear hV0 hsi hel hle hM n1 h1
   rintro ⟨j,⟨sts,mk0,eds⟩⟩ ⟨hj,hgd,hil,hmke,hel,hsi,hV⟩ ih2
   simp only at hj hgd hil hmke hel hsi hV
   subst hmke
   have hle:=hfew _ hgd
   simp only at hle
   have hj1:ii (IntKind.i64.wrap ((j:Int)+1))=ii ((j+1:Nat):Int):=congrArg ii (zaD (n:=4096) (by omega) (by decide))
   refine zae Tk Tryz.func42 ?_
   refine zai Tk Tryz.func42 rfl (fun g2=>?_) (fun g2=>?_)
   ·have h3:j<al.length:=by simpa using g2
    clear g2
    have ga:(al.map fun x=>[vi x])[(j:Int).toNat]? = some [vi al[j]]:=zaj (f:=fun x=>[vi x]) h3
    have da:al.drop j=al[j]::al.drop (j+1):=List.drop_eq_getElem_cons h3
    rw[da] at hV
    simp only[zau] at hV
    clear da
    generalize al[j]=e at *
    have gs:(sts.map prI)[(i:Int).toNat]? = some [vi z1,vi z2]:=by simp[hsi]
    have hvok:=fun V' h=>hvok i (z1,z2) e ⟨sts,mk0,eds⟩ V' hgd hoks hil h
    unfold zbB at hV hvok
    rw[hts] at hV hvok
    simp only at hV hvok
    have d1:=fun O=>s1 O z1 e
    have d2:=fun O=>s2 O z2 e
    generalize stp3 es z1 e=t1 at *
    generalize stp3 es' z2 e=t2 at *
    have n3:0≤(i:Int)∧(i:Int)<(sts.length:Int):=by omega
    refine zag Tk Tryz.func42 (by exact⟨by omega,by show (j:Int)<(al.length:Int);omega⟩) ?_
    refine zap Tk Tryz.func42 (ga) ?_
    refine zaE Tk Tryz.func42 zaM rfl ?_
    refine zaA Tk (by exact n3) ?_
    refine zaA Tk (by exact⟨by decide,by decide⟩) ?_
    refine zaK Tk (gs) ?_
    refine zaX Tk (fun _=>d1 _) rfl rfl rfl ?_
    refine zaA Tk (by exact n3) ?_
    refine zaA Tk (by exact⟨by decide,by decide⟩) ?_
    refine zaK Tk (gs) ?_
    refine zaX Tk (fun _=>d2 _) rfl rfl rfl ?_
    refine zoY Tk rfl rfl rfl ?_
    refine zaS Tk Tryz.func42 (by kernel_rfl) ?_
    have hix:=zpQ (t1,t2) sts 0
    clear d1 d2 gs
    refine zag Tk Tryz.func42 (by exact⟨by decide,by decide⟩) ?_
    refine zaR Tk Tryz.func42 rfl (fun c1=>?_) (fun c1=>?_)
    ·have c1:t1<0:=of_decide_eq_true c1
     rw[decide_eq_false (show ¬ 0≤t1 by omega),Bool.false_and] at hV
     simp only[ne_eq,not_true,if_false,if_true] at hV
     clear hvok
     refine gcT Tk Tryz.func42 rfl ?_
     refine zac ?_
     exact ih2 (j+1,⟨sts,mk0,eds⟩) _ _ ⟨h3,hgd,hil,rfl,by simp only;omega,hsi,hV⟩ (by simp only;omega) ⟨rfl,rfl,rfl,rfl,rfl,rfl,rfl,hj1,trivial⟩ rfl ⟨rfl,rfl,rfl,rfl,rfl,rfl,trivial⟩ rfl rfl
    have c1:¬ t1<0:=of_decide_eq_false c1
    rw[decide_eq_true (show 0≤t1 by omega),Bool.true_and] at hV hvok
    refine zag Tk Tryz.func42 (by exact⟨by decide,by decide⟩) ?_
    refine zai Tk Tryz.func42 rfl (fun c2=>?_) (fun c2=>?_)
    ·have c2:t2<0:=of_decide_eq_true c2
     rw[decide_eq_false (show ¬ 0≤t2 by omega)] at hV
     simp only[ne_eq,not_true,if_false,if_true] at hV
     clear hvok
     refine zac ?_
     exact ih2 (j+1,⟨sts,mk0,eds⟩) _ _ ⟨h3,hgd,hil,rfl,by simp only;omega,hsi,hV⟩ (by simp only;omega) ⟨rfl,rfl,rfl,rfl,rfl,rfl,rfl,hj1,trivial⟩ rfl ⟨rfl,rfl,rfl,rfl,rfl,rfl,trivial⟩ rfl rfl
    have c2:¬ t2<0:=of_decide_eq_false c2
    rw[decide_eq_true (show 0≤t2 by omega)] at hV hvok
    simp only[ne_eq,not_true,if_false,Bool.true_eq_false,Bool.false_eq_true,false_and] at hV hvok
    clear c1 c2
    obtain⟨t,ht⟩:∃ t,t=sts.findIdx (eqB (t1,t2)):=⟨_,rfl⟩
    rw[← ht] at hV hvok hix
    rw[Nat.zero_add] at hix
    obtain⟨sts2,hst3⟩:∃ sts2,sts2=if (t1,t2)∈sts then sts else sts++[(t1,t2)]:=⟨_,rfl⟩
    have hU2:VV=zau eqB false ts i (z1,z2) (al.drop (j+1)) ⟨sts2,mk0,eds++[((i:Int),e,(t:Int))]⟩∧UOk P ⟨sts2,mk0,eds++[((i:Int),e,(t:Int))]⟩∧i<sts2.length∧sts2[i]? = some (z1,z2):=by
     by_cases hm:(t1,t2)∈sts
     ·have hlt:t<sts.length:=by rw[ht];exact zcs ⟨(t1,t2),hm,by simp[eqB]⟩
      rw[if_pos hm] at hst3
      rw[if_pos hlt] at hV hvok
      subst hst3
      have h:=hvok _ rfl
      exact⟨hV,h.1,h.2.1,h.2.2.trans hsi⟩
     ·have hlt:t=sts.length:=by
       rw[ht]
       exact za6 fun x hx=>by simp only[eqB,decide_eq_false_iff_not];rintro rfl;exact hm hx
      rw[if_neg hm] at hst3
      rw[if_neg (by omega)] at hV hvok
      subst hst3
      have h:=hvok _ rfl
      exact⟨hV,h.1,h.2.1,h.2.2.trans hsi⟩
    have htm:(t1,t2) ∉ sts→t=sts.length:=fun hm=>by
     rw[ht]
     exact za6 fun x hx=>by simp only[eqB,decide_eq_false_iff_not];rintro rfl;exact hm hx
    have hic:=fun O ho=>zum O sts (t1,t2) 0 105 ho (by omega)
    clear hV hvok ht
    generalize idxP (t1,t2) sts 0=ix at *
    have hq1:ix<0→t=sts.length∧sts2=sts++[(t1,t2)]:=fun h=>by
     have c2:(t1,t2) ∉ sts:=fun hm=>by
      rw[if_pos hm] at hix;omega
     exact⟨htm c2,by rw[hst3,if_neg c2]⟩
    have hq2:¬ ix<0→ix=t∧sts2=sts:=fun h=>by
     have c2:(t1,t2)∈sts:=Classical.byContradiction fun hm=>by
      rw[if_neg hm] at hix;omega
     exact⟨by rw[hix,if_pos c2],by rw[hst3,if_pos c2]⟩
    clear hix htm hst3
    apply zbS (P:=True) (s6:={ σ:=[(1,.own 0 1 0 0),(2,.own 0 2 0 0),(4,.own 0 4 0 0),(5,.osl 0 105),(6,ii i),(62,ints al),(63,ii al.length),(64,ii j),(8,ii e),(10,ii t)],S:=[(1,.box (sysC ⟨⟨al,st,mk,es⟩,⟨al',st',mk',es'⟩,ob,ct⟩)),(2,.box [.i (.v (.slice none 0 0)),ii 0,.i (.v (.slice none 0 0)),.i (.v (.slice none 0 0))]),(4,.box [ints al,ii 0,.osl 0 59,.osl 0 113]),(105,zi7 sts2),(59,zax mk0),(113,zbD eds)]::O,n:=121 })
    ·intro J
     refine zaf Tk Tryz.func42 (hic _ rfl) rfl rfl rfl rfl rfl ?_
     refine zai Tk Tryz.func42 rfl (fun c1=>?_) (fun c1=>?_)
     ·have c1:=hq1 (of_decide_eq_true c1)
      refine zag Tk Tryz.func42 (by exact⟨by show (sts.length+1) * 16≤140737488355328;omega,by show sts.length+1≤9223372036854775807;omega⟩) ?_
      refine zav ?_
      refine zaz (J trivial) ⟨rfl,rfl,rfl,rfl,rfl,rfl,rfl,rfl,rfl,by rw[c1.1];rfl,trivial⟩ rfl ⟨rfl,rfl,rfl,by rw[c1.2];exact congrArg some (zi6 sts (t1,t2)),rfl,rfl,trivial⟩ rfl rfl
     ·have c1:=hq2 (of_decide_eq_false c1)
      refine zav ?_
      refine zaz (J trivial) ⟨rfl,rfl,rfl,rfl,rfl,rfl,rfl,rfl,rfl,congrArg ii c1.1,trivial⟩ rfl ⟨rfl,rfl,rfl,by rw[c1.2];rfl,rfl,rfl,trivial⟩ rfl rfl
    intro _
    obtain⟨hV,hg2,hi2,hs2⟩:=hU2
    clear hgd hil hsi hic hq1 hq2
    refine zae Tk Tryz.func42 ?_
    refine g_go Tk Tryz.func42 ?_
    refine zag Tk Tryz.func42 (by exact⟨by show (eds.length+1) * 24≤140737488355328;omega,by show eds.length+1≤9223372036854775807;omega⟩) ?_
    refine zac ?_
    exact ih2 (j+1,⟨sts2,mk0,eds++[((i:Int),e,(t:Int))]⟩) _ _ ⟨h3,hg2,hi2,rfl,by simp only[List.length_append,List.length_singleton];omega,hs2,hV⟩ (by simp only;omega) ⟨rfl,rfl,rfl,rfl,rfl,rfl,rfl,hj1,trivial⟩ rfl ⟨rfl,rfl,rfl,rfl,rfl,congrArg some (zcY eds ((i:Int),e,(t:Int))),trivial⟩ rfl rfl
   ·have h3:al.length≤j:=by simpa using g2
    rw[List.drop_eq_nil_of_le h3] at hV
    simp only[zau] at hV
    subst hV
    simp only at hno
    refine zac ?_
    exact ih (i+1,⟨sts,mk0,eds⟩) _ _ ⟨by simp only;omega,hgd,hml1,by simp only;omega,hno⟩ (by simp only;omega) ⟨rfl,rfl,rfl,rfl,congrArg ii (zaD (n:=4096) (by omega) (by decide)),trivial⟩ rfl ⟨rfl,rfl,rfl,rfl,rfl,rfl,trivial⟩ rfl rfl
  ·have h1:U.sts.length≤i:=by simpa using g1
   rw[zdJ h1] at hno
   rw[← hR] at hno
   simp only[Except.ok.injEq] at hno
   subst hno
   obtain⟨sts,mk0,eds⟩:=V
   refine zav ?_
   refine zaq (zan 105 rfl rfl) ?_
   refine zaq (zan 59 rfl rfl) ?_
   refine zaq (zan 113 rfl rfl) ?_
   refine zae Tk Tryz.func42 ?_
   refine g_go Tk Tryz.func42 ?_
   refine zak Tk (r:=.tup [autD ⟨al,sts.length,mk0,eds⟩,.i (prsI sts)]) rfl rfl rfl trivial rfl rfl ?_
   rfl
 ·have hlp:lpR x=(⟨x.p.alpha,0,[],[]⟩,[]):=by unfold lpR;rw[if_neg h0]
  rw[hlp]
  clear hlp
  obtain⟨⟨al,st,mk,es⟩,⟨al',st',mk',es'⟩,ob,ct⟩:=x
  simp only at h0 ⊢
  refine zat [] Tk Tryz.func42 rfl Tryz.call42 Tryz.ntmps42 (Nat.le_of_ble_eq_true rfl) fun E=>?_
  refine zae Tk Tryz.func42 ?_
  refine zaR Tk Tryz.func42 rfl (fun c1=>?_) (fun c1=>?_)
  ·have c1:st>0:=of_decide_eq_true c1
   refine zai Tk Tryz.func42 rfl (fun h=>absurd h (by simp;omega)) (fun _=>?_)
   refine zac ?_
   refine zae Tk Tryz.func42 ?_
   refine gcF Tk Tryz.func42 rfl ?_
   refine zb5 Tk (r:=.tup [.agg [ints al,ii 0,.i (.v (.slice none 0 0)),.i (.v (.slice none 0 0))],.i (.v (.slice none 0 0))]) rfl rfl rfl trivial rfl rfl ?_
   repeat' (first | refine zcP ?_ | refine zcQ ?_ | refine zfj ?_ | refine CoDL.cons ?_ ?_ | exact CoDL.nil | exact zb1 | refine zdF ?_ | refine CoLL.cons ?_ ?_ | exact CoLL.nil | refine CoL.cons ?_ ?_ | exact CoL.nil | exact CoI.refl _ | exact CoL.refl _ | exact CoLL.refl _ | exact CoDL.refl _ | exact CoD.refl _)
  ·refine gcF Tk Tryz.func42 rfl ?_
   refine zac ?_
   refine zae Tk Tryz.func42 ?_
   refine gcF Tk Tryz.func42 rfl ?_
   refine zb5 Tk (r:=.tup [.agg [ints al,ii 0,.i (.v (.slice none 0 0)),.i (.v (.slice none 0 0))],.i (.v (.slice none 0 0))]) rfl rfl rfl trivial rfl rfl ?_
   repeat' (first | refine zcP ?_ | refine zcQ ?_ | refine zfj ?_ | refine CoDL.cons ?_ ?_ | exact CoDL.nil | exact zb1 | refine zdF ?_ | refine CoLL.cons ?_ ?_ | exact CoLL.nil | refine CoL.cons ?_ ?_ | exact CoL.nil | exact CoI.refl _ | exact CoL.refl _ | exact CoLL.refl _ | exact CoDL.refl _ | exact CoD.refl _)
end Go.AI


namespace Go.AI
open Go.Proofs
set_option maxRecDepth 20000
theorem zjf {s:List Int} {gs gm:Int} {gt:Nat→Int} (hs:s.Pairwise (· < ·)) (hr:∀ x∈s,0≤x∧x<32) (hsl:s.length≤5) (hg:∀ j,0≤gt j∧gt j≤255) :
  chkA (mkA s gs gm gt)=0∧smallA (mkA s gs gm gt)∧(mkA s gs gm gt).states≤5∧(mkA s gs gm gt).alpha=s:=by
 obtain⟨_,⟨n,hn,h⟩,h3⟩:=zpB (gs:=gs) (gm:=gm) hs hr hsl hg
 exact⟨h.c,h.sm,by rw[h.st];omega,h3⟩
theorem zpT {l s:List Int} (hs:s.Pairwise (· < ·)) (hr:∀ x∈s,0≤x∧x<32):zal 32 (hasR l s) none=0:=zbi (hs.filter _) (fun x hx=>hr x (List.mem_filter.1 hx).1) (fun y e=>by cases e)
theorem zl1 {x:Sk} (h:skOkB x):gSys (mkS x)∧smallS (mkS x)∧((mkS x).p.states≤5∧(mkS x).s.states≤5):=by
 obtain⟨e1,e2,e3⟩:=zjt x.st
 obtain⟨p1,p2,p3,p4⟩:=zjf (gs:=x.ps) (gm:=x.pm) e1 e2 e3 h.p.2
 obtain⟨s1,s2,s3,s4⟩:=zjf (gs:=x.ss) (gm:=x.sm) e1 e2 e3 h.s.2
 obtain⟨o1,o2,o3⟩:=zjt x.ob
 obtain⟨c1,c2,c3⟩:=zjt x.ct
 have hin:∀ s:List Int,∀ e∈hasR (zbf x.st) s,e∈zbf x.st:=fun s e he=>of_decide_eq_true (List.mem_filter.1 he).2
 refine⟨⟨p1,s1,s4.trans p4.symm,zpT o1 o2,zpT c1 c2,?_,?_⟩,⟨p2,s2,?_,?_⟩,p3,s3⟩
 ·intro e he
  rw[show (mkS x).p.alpha=zbf x.st from p4]
  exact hin _ e he
 ·intro e he
  rw[show (mkS x).p.alpha=zbf x.st from p4]
  exact hin _ e he
 ·have:(hasR (zbf x.st) (zbf x.ob)).length≤(zbf x.ob).length:=List.length_filter_le _ _
  show (hasR (zbf x.st) (zbf x.ob)).length≤1000000
  omega
 ·have:(hasR (zbf x.st) (zbf x.ct)).length≤(zbf x.ct).length:=List.length_filter_le _ _
  show (hasR (zbf x.st) (zbf x.ct)).length≤1000000
  omega
theorem zt2 {x:Sk} (h:skOkB x):(lpV (mkS x)).length≤25:=by
 obtain⟨_,_,h1,h2⟩:=zl1 h
 rw[zgl]
 exact Nat.le_trans (Nat.mul_le_mul (show (mkS x).p.states.toNat≤5 by omega) (show (mkS x).s.states.toNat≤5 by omega)) (by decide)
theorem zvt (O:List Heap) (x:Sk) (h:skOkB x):zao Tryz.prog 13 [.agg (skC x)] O (bb (decide ((lpR (mkS x)).1.states≤10))) [] O:=by
 have h1:=fun O=>zs1 O x h
 obtain⟨m1,m2,_⟩:=zl1 h
 have h2:=fun O=>zpF O (mkS x) m2 m1 (by have:=zt2 h;omega)
 clear m1 m2 h
 generalize lpR (mkS x)=L at *
 generalize mkS x=X at *
 obtain⟨⟨lal,lst,lmk,les⟩,prs⟩:=L
 obtain⟨⟨al,st,mk,es⟩,⟨al',st',mk',es'⟩,ob,ct⟩:=X
 obtain⟨xst,xps,xpm,xpt,xss,xsm,xt2,xob,xct⟩:=x
 simp only at h1 h2 ⊢
 refine zad Tk Tryz.func13 rfl Tryz.call13 Tryz.ntmps13 (Nat.le_of_ble_eq_true rfl) fun E=>?_
 refine zae Tk Tryz.func13 ?_
 refine zaf Tk Tryz.func13 (h1 _) rfl rfl rfl rfl rfl ?_
 refine zaf Tk Tryz.func13 (h2 _) rfl rfl rfl rfl rfl ?_
 refine zak Tk (r:=bb (decide (lst≤10))) rfl rfl rfl trivial rfl rfl ?_
 rfl
def runI (es:List Edg):Int→List Int→Int
 | s,[]=>s
 | s,e::r=>if stp3 es s e<0 then -1 else runI es (stp3 es s e) r
theorem zmg {es:List Edg} (hp:es.Pairwise ltE):∀ (w:List Int) (s:Int) (k:Nat),0≤s→(0≤runI es s w→folL es w s k=(runI es s w,((k+w.length:Nat):Int)))∧(runI es s w<0→(folL es w s k).2<((k+w.length:Nat):Int))
 | [],s,k,hs=>⟨fun _=>rfl,fun h=>absurd hs (by simp only[runI] at h;omega)⟩
 | e::r,s,k,hs=>by
  simp only[folL,runI,zjd hp]
  by_cases c:stp3 es s e<0
  ·rw[if_pos c,if_pos c]
   exact⟨fun h=>absurd h (by decide),fun _=>by simp only[List.length_cons];omega⟩
  ·rw[if_neg c,if_neg c]
   have:=zmg hp r (stp3 es s e) (k+1) (by omega)
   rw[show k+1+r.length=k+(e::r).length by simp only[List.length_cons];omega] at this
   exact this
def genR (a:Aut) (w:List Int):Bool:=decide (a.states≠0) && decide (0≤runI a.edges 0 w)
theorem zo9 (O:List Heap) (a:Aut) (n:Nat) (w:List Int) (h:gAut a n) (hw:w.length≤zas):∃ v,zao Tryz.prog 62 [autD a,ints w] O (.tup [ii v,bb (genR a w)]) [] O:=by
 have hst:=h.st
 by_cases h0:a.states=0
 ·refine⟨0,?_⟩
  have e:genR a w=false:=by simp[genR,h0]
  rw[e]
  obtain⟨al,st,mk,es⟩:=a
  simp only at h0
  subst h0
  refine zad Tk Tryz.func62 rfl Tryz.call62 Tryz.ntmps62 (Nat.le_of_ble_eq_true rfl) fun E=>?_
  refine zae Tk Tryz.func62 ?_
  refine gcT Tk Tryz.func62 rfl ?_
  refine zak Tk (r:=.tup [ii 0,bb false]) rfl rfl rfl trivial rfl rfl ?_
  rfl
 ·have hf:=fun O=>zp6 O a 0 w h.ok ⟨Int.le_refl _,by omega⟩ hw
  refine⟨(folL a.edges w 0 0).1,?_⟩
  have hs:=(za4 (zaB h.c).2.2.2).1
  have hr:=zmg hs w 0 0 (Int.le_refl _)
  have e:genR a w=decide ((folL a.edges w 0 0).2=(w.length:Int)):=by
   unfold genR
   rw[decide_eq_true h0,Bool.true_and]
   by_cases c:0≤runI a.edges 0 w
   ·rw[decide_eq_true c,hr.1 c];simp
   ·have:=hr.2 (by omega)
    rw[Nat.zero_add] at this
    rw[decide_eq_false c,decide_eq_false (by omega)]
  rw[e]
  generalize folL a.edges w 0 0=F at *
  clear hr hs e h hst
  obtain⟨al,st,mk,es⟩:=a
  simp only at h0
  refine zad Tk Tryz.func62 rfl Tryz.call62 Tryz.ntmps62 (Nat.le_of_ble_eq_true rfl) fun E=>?_
  refine zae Tk Tryz.func62 ?_
  refine zai Tk Tryz.func62 rfl (fun h=>absurd h (by simpa using h0)) (fun _=>?_)
  refine zaf Tk Tryz.func62 (hf _) rfl rfl rfl rfl rfl ?_
  refine zak Tk (r:=.tup [ii F.1,bb (decide (F.2=(w.length:Int)))]) rfl rfl rfl trivial rfl rfl ?_
  rfl
theorem zkn (O:List Heap) (a:Aut) (n:Nat) (w:List Int) (h:gAut a n) (hw:w.length≤zas):zao Tryz.prog 21 [autD a,ints w] O (.tup [bb (genR a w),ii 0]) [] O:=by
 have h1:=fun O=>zeU O a (by have:=h.sm.ed;simp only[zas];omega) (by have:=h.sm.al;simp only[zas];omega) (by have:=h.sm.mkd;simp only[zas];omega)
 rw[h.c] at h1
 have h2:=fun O=>zo9 O a n w h hw
 generalize genR a w=b at *
 clear h
 obtain⟨al,st,mk,es⟩:=a
 refine zad Tk Tryz.func21 rfl Tryz.call21 Tryz.ntmps21 (Nat.le_of_ble_eq_true rfl) fun E=>?_
 refine zae Tk Tryz.func21 ?_
 refine zaf Tk Tryz.func21 (h1 _) rfl rfl rfl rfl rfl ?_
 refine gcF Tk Tryz.func21 rfl ?_
 obtain⟨v,h3⟩:=h2 _
 refine zaf Tk Tryz.func21 (h3) rfl rfl rfl rfl rfl ?_
 refine zak Tk (r:=.tup [bb b,ii 0]) rfl rfl rfl trivial rfl rfl ?_
 rfl
end Go.AI


namespace Go.AI
open Go.Proofs
set_option maxRecDepth 20000
end Go.AI


namespace Go.AI
section
variable {c:Cx} {s:St} {H:Heap} {O:List Heap}
end
end Go.AI


namespace Go.AI
open Go.Proofs
set_option maxRecDepth 20000
end Go.AI


namespace Go.AI
open Go.Proofs
set_option maxRecDepth 20000
theorem zsO {x:Sk} (h:skOkB x) (hf:(lpR (mkS x)).1.states≤10):(lpR (mkS x)).2.length≤10:=by
 obtain⟨m1,m2,_⟩:=zl1 h
 have:=(lp_g m1 (by have:=zt2 h;omega)).1.st
 omega
end Go.AI


namespace Go.Proofs.YtlcekmemdnjjbaaGreatDoor
open Go.ChangeShapes Go.WideShapes Go.ChangeAt Go.RowKit Go.Deep Go.WideElems
set_option maxRecDepth 100000
section
variable {H:Type} {enc:TypeId × Value→H} {P:Program} {W:World}
theorem znB {t e:TypeId} {m z:Nat} {R:List AI.I→Prop} (ht:P.underlying t=some (.array m e)) (hc:P.cellsOf e=z) (hct:P.cellsOf t=m * z) (he:Opn enc P W e R) :
  Opn enc P W t fun is=>∃ xs:List (List AI.I),xs.length=m∧is=xs.flatten∧∀ x∈xs,R x:=by
 intro n cs x h
 obtain⟨xs,f,rfl,rfl,hl,hlen,hx⟩:=DataW.trod_array ht h
 rw[hct] at hl
 have build:∀ k,k≤m→∃ ys:List (List AI.I),ys.length=k∧AI.RepL (KW W) (cs.take (k * z)) ys.flatten∧∀ y∈ys,R y:=by
  intro k
  induction k with
  | zero=>intro _;exact⟨[],rfl,by rw[Nat.zero_mul,List.take_zero];exact .nil,by simp⟩
  | succ k ih=>
   intro hk
   obtain⟨ys,h1,h2,h3⟩:=ih (by omega)
   have h0:=hx k (by omega)
   rw[hc,List.getElem?_eq_getElem (by omega)] at h0
   obtain⟨is,hr,hR⟩:=he _ _ _ h0
   refine⟨ys++[is],by simp[h1],?_,fun y hy=>?_⟩
   ·rw[Nat.succ_mul,List.take_add,List.flatten_append]
    simpa using zeA h2 hr
   ·rcases List.mem_append.1 hy with hy | hy
    ·exact h3 y hy
    ·rw[List.mem_singleton] at hy
     subst hy
     exact hR
 obtain⟨ys,h1,h2,h3⟩:=build m (Nat.le_refl _)
 rw[List.take_of_length_le (by omega)] at h2
 exact⟨_,h2,ys,h1,rfl,h3⟩
theorem zqa:∀ {xs:List (List AI.I)},(∀ x∈xs,∃ zs:List Int,zs.length=5∧x=zs.map (fun z=>AI.I.v (.int .u8 z))∧∀ z∈zs,(Lit.int .u8 z).wf=true)→∃ L:List Int,L.length=5 * xs.length∧xs.flatten=L.map (fun z=>AI.I.v (.int .u8 z))∧∀ z∈L,0≤z∧z≤255
 | [],_=>⟨[],rfl,rfl,by simp⟩
 | x::r,h=>by
  obtain⟨zs,h1,h2,h3⟩:=h x (by simp)
  obtain⟨L,g1,g2,g3⟩:=zqa (xs:=r) fun y hy=>h y (by simp[hy])
  refine⟨zs++L,by rw[List.length_append,h1,g1,List.length_cons];omega,by rw[List.flatten_cons,h2,g2,List.map_append],fun z hz=>?_⟩
  rcases List.mem_append.1 hz with hz | hz
  ·exact wf_u8 (h3 z hz)
  ·exact g3 z hz
def OpnB (enc:TypeId × Value→H) (P:Program) (W:World) (N:Nat) (t:TypeId) (R:List AI.I→Prop):Prop:=
 ∀ n,n<N→∀ cs x,DataW.trod enc P W 0 (fun _=>true) true n t cs=some x→∃ is,AI.RepL (KW W) cs is∧R is
theorem Opn.b {t:TypeId} {R:List AI.I→Prop} (h:Opn enc P W t R) (N:Nat):OpnB enc P W N t R:=fun n _ cs x hx=>h n cs x hx
theorem Opn.ofB {t:TypeId} {R:List AI.I→Prop} (h:∀ N,OpnB enc P W N t R):Opn enc P W t R:=fun n cs x hx=>h (n+1) n (Nat.lt_succ_self n) cs x hx
theorem OpnB.less {t:TypeId} {R:List AI.I→Prop} {N:Nat} (h:OpnB enc P W (N+1) t R):OpnB enc P W N t R:=fun n hn cs x hx=>h n (by omega) cs x hx
def AllP:List (List AI.I→Prop)→List (List AI.I)→Prop
 | [],[]=>True
 | R::Rs,a::l=>R a∧AllP Rs l
 | _,_=>False
def FldB (enc:TypeId × Value→H) (P:Program) (W:World) (N:Nat):List Field→List (List AI.I→Prop)→Prop
 | [],[]=>True
 | f::fs,R::Rs=>OpnB enc P W N f.type R∧FldB enc P W N fs Rs
 | _,_=>False
def SeqB (P:Program):Nat→List Field→Nat→Bool
 | o,[],n=>o==n
 | o,f::fs,n=>f.offset==o && SeqB P (o+P.cellsOf f.type) fs n
theorem zhx {N n:Nat} (hn:n<N) {cs:List Value}:∀ {fs:List Field} {Rs:List (List AI.I→Prop)} {o:Nat},FldB enc P W N fs Rs→SeqB P o fs cs.length=true →
  (∀ f∈fs,∃ y,DataW.trod enc P W 0 (fun _=>true) true n f.type ((cs.drop f.offset).take (P.cellsOf f.type))=some y)→∃ parts,AI.RepL (KW W) (cs.drop o) parts.flatten∧AllP Rs parts
 | [],[],o,_,hs,_=>by
  have:o=cs.length:=by simpa [SeqB] using hs
  subst this
  exact⟨[],by simpa using AI.RepL.nil,trivial⟩
 | f::fs,R::Rs,o,⟨hf,hF⟩,hs,hx=>by
  simp only[SeqB,Bool.and_eq_true,beq_iff_eq] at hs
  obtain⟨rfl,hs⟩:=hs
  obtain⟨y,hy⟩:=hx f (by simp)
  obtain⟨a,ra,ha⟩:=hf n hn _ _ hy
  obtain⟨parts,rp,hp⟩:=zhx hn hF hs fun g hg=>hx g (by simp[hg])
  refine⟨a::parts,?_,ha,hp⟩
  have e:cs.drop f.offset=(cs.drop f.offset).take (P.cellsOf f.type)++cs.drop (f.offset+P.cellsOf f.type):=by
   rw[← List.drop_drop,List.take_append_drop]
  rw[e,List.flatten_cons]
  exact zeA ra rp
 | [],_::_,_,h,_,_=>h.elim
 | _::_,[],_,h,_,_=>h.elim
theorem zj4 {t:TypeId} {fs:Array Field} {Rs:List (List AI.I→Prop)} {N:Nat} (ht:P.underlying t=some (.struct fs)) (hs:SeqB P 0 fs.toList (P.cellsOf t)=true) (hf:FldB enc P W N fs.toList Rs) :
  OpnB enc P W (N+1) t fun is=>∃ parts,is=parts.flatten∧AllP Rs parts:=by
 intro n hn cs x h
 obtain⟨xs,m,rfl,rfl,hl,hlen,hx⟩:=DataW.trod_struct ht h
 rw[← hl] at hs
 obtain⟨parts,hr,hp⟩:=zhx (n:=m) (by omega) hf hs fun f hfm=>by
  obtain⟨i,hi,e⟩:=List.mem_iff_getElem.1 hfm
  have h1:=hx i f (by rw[← e];simp)
  rw[h1]
  have:i<xs.length:=by rw[hlen];simpa using hi
  exact⟨xs[i],by simp[this]⟩
 exact⟨_,by simpa using hr,parts,rfl,hp⟩
end
section
variable {H:Type} {enc:TypeId × Value→H} {W:World}
abbrev u8V (z:Int):AI.I:=AI.I.v (.int .u8 z)
theorem opn_graph:Opn enc Tryz.prog W 26 fun is=>∃ (x y:Int) (L:List Int),is=[u8V x,u8V y]++L.map u8V∧0≤x∧L.length=25∧∀ z∈L,0≤z∧z≤255:=by
 intro n cs y hn
 obtain⟨is,hr,a,b,c,rfl,⟨x,rfl,hx⟩,⟨y,rfl,_⟩,⟨xs,h5,rfl,hxs⟩⟩:=zj3 Tryz.underlying26 (z0:=1) (z1:=1) (z2:=25) (by kernel_rfl) (by kernel_rfl) (by kernel_rfl) (by kernel_rfl) rfl rfl rfl
  (ze5 Tryz.underlying5) (ze5 Tryz.underlying5) (znB Tryz.underlying24 (z:=5) (by kernel_rfl) (by kernel_rfl) (zpn Tryz.underlying23 Tryz.underlying5 (by kernel_rfl) (by kernel_rfl))) n _ _ hn
 obtain⟨L,g1,g2,g3⟩:=zqa hxs
 rw[h5] at g1
 rw[g2] at hr
 exact⟨_,hr,x,y,L,rfl,(wf_u8 hx).1,g1,g3⟩
theorem zpW {L:List Int} (h:∀ z∈L,0≤z∧z≤255) (j:Nat):0≤L.getD j 0∧L.getD j 0≤255:=by
 rw[List.getD_eq_getElem?_getD]
 cases hj:L[j]? with
 | none=>exact⟨by decide,by decide⟩
 | some z=>exact h z (List.mem_of_getElem? hj)
end
end Go.Proofs.YtlcekmemdnjjbaaGreatDoor


namespace Go.Proofs.YtlcekmemdnjjbaaGreatDoor
open Go.ChangeShapes Go.WideShapes Go.ChangeAt Go.RowKit Go.Deep Go.WideElems
set_option maxRecDepth 100000
section
variable {H:Type} {enc:TypeId × Value→H} {W:World}
theorem zi8 {r:Reach} {b0:Nat} {v:Value} {d:DataW H} {p:List MemPlace} (hv:Value.okWide Tryz.prog W r b0 28 v) (h:DataW.Trod enc Tryz.prog W 0 (fun _=>true) true 28 v d p) :
  ∃ x:AI.Sk,(AI.skOkB x∧(0≤x.ob∧x.ob≤255)∧0≤x.ct∧x.ct≤255)∧∀ ρ sh,AI.RepD (KW W) ρ sh v (.agg (AI.skC x)):=by
 obtain⟨cs,rfl,_⟩:=okWide_struct Tryz.underlying28 hv
 obtain⟨n,hn⟩:=h
 have hop:Opn enc Tryz.prog W 28 fun is=>∃ parts,is=parts.flatten∧AllP [_,_,_,_,_] parts:=Opn.ofB fun N=>(zj4 (Rs:=[_,_,_,_,_]) Tryz.underlying28 (by kernel_rfl) ⟨(ze5 Tryz.underlying22).b N,opn_graph.b N,opn_graph.b N,(ze5 Tryz.underlying22).b N,(ze5 Tryz.underlying22).b N,trivial⟩).less
 obtain⟨is,hr,parts,rfl,hp⟩:=hop n _ _ hn
 match parts,hp with
 | [_,_,_,_,_],⟨⟨st,e1,_⟩,⟨ps,pm,L,e2,hps,hL,hLb⟩,⟨ss,sm,M,e3,hss,hM,hMb⟩,⟨ob,e4,hob⟩,⟨ct,e5,hct⟩,_⟩=>
  subst e1 e2 e3 e4 e5
  refine⟨⟨st,ps,pm,fun j=>L.getD j 0,ss,sm,fun j=>M.getD j 0,ob,ct⟩,⟨⟨⟨hps,zpW hLb⟩,⟨hss,zpW hMb⟩⟩,wf_u8 hob,wf_u8 hct⟩,fun ρ sh=>?_⟩
  have:=AI.RepD.agg (AI.RepDL.ofL (ρ:=ρ) (sh:=sh) hr)
  match L,hL,M,hM with
  | [a0,a1,a2,a3,a4,a5,a6,a7,a8,a9,a10,a11,a12,a13,a14,a15,a16,a17,a18,a19,a20,a21,a22,a23,a24],_,[b0,b1,b2,b3,b4,b5,b6,b7,b8,b9,b10,b11,b12,b13,b14,b15,b16,b17,b18,b19,b20,b21,b22,b23,b24],_=>exact this
end
end Go.Proofs.YtlcekmemdnjjbaaGreatDoor


namespace Go.AI
def cmpI (x y:Int):Int:=if x<y then -1 else if x>y then 1 else 0
def cmpL:List Int→List Int→Int
 | [],[]=>0
 | [],_::_=>-1
 | _::_,[]=>1
 | a::r,b::s=>if cmpI a b≠0 then cmpI a b else cmpL r s
def cmpW (a b:List Int):Int:=if cmpI a.length b.length≠0 then cmpI a.length b.length else cmpL a b
def rkA:Nat→List Int→Nat
 | r,[]=>r
 | r,e::w=>rkA (r * 33+e.toNat+1) w
abbrev rk (w:List Int):Nat:=rkA 0 w
abbrev inW (w:List Int):Prop:=∀ x∈w,0≤x∧x<32
theorem zlO:∀ (w:List Int) (r:Nat) (e:Int),rkA r (w++[e])=rkA r w * 33+e.toNat+1
 | [],r,e=>rfl
 | x::w,r,e=>by
  simp only[List.cons_append,rkA]
  exact zlO w _ e
theorem zct (w:List Int) (e:Int):rk (w++[e])=rk w * 33+e.toNat+1:=zlO w 0 e
theorem zhW:∀ {a b:List Int} {r s:Nat},inW a→a.length=b.length→r<s→rkA r a<rkA s b
 | [],[],_,_,_,_,h=>h
 | [],_::_,_,_,_,h,_=>by simp at h
 | _::_,[],_,_,_,h,_=>by simp at h
 | x::a,y::b,r,s,ha,hl,h=>by
  simp only[rkA]
  have:=ha x (by simp)
  exact zhW (fun z hz=>ha z (by simp[hz])) (by simpa using hl) (by omega)
theorem zgM (x:Int):cmpI x x=0:=by unfold cmpI;rw[if_neg (by omega),if_neg (by omega)]
theorem zqy:∀ {a b:List Int} {r:Nat},inW a→inW b→a.length=b.length→cmpL a b=cmpI (rkA r a:Int) (rkA r b:Int)
 | [],[],r,_,_,_=>by rw[cmpL,rkA,zgM]
 | [],_::_,_,_,_,h=>by simp at h
 | _::_,[],_,_,_,h=>by simp at h
 | x::a,y::b,r,ha,hb,hl=>by
  have hx:=ha x (by simp)
  have hy:=hb y (by simp)
  have ha':inW a:=fun z hz=>ha z (by simp[hz])
  have hb':inW b:=fun z hz=>hb z (by simp[hz])
  have hl':a.length=b.length:=by simpa using hl
  simp only[cmpL,rkA]
  rcases Int.lt_trichotomy x y with h | h | h
  ·have h1:cmpI x y = -1:=by unfold cmpI;rw[if_pos h]
   rw[h1,if_pos (by decide)]
   have:=zhW (r:=r * 33+x.toNat+1) (s:=r * 33+y.toNat+1) ha' hl' (by omega)
   unfold cmpI
   rw[if_pos (by omega)]
  ·subst h
   rw[zgM,if_neg (by simp)]
   exact zqy ha' hb' hl'
  ·have h1:cmpI x y=1:=by unfold cmpI;rw[if_neg (by omega),if_pos h]
   rw[h1,if_pos (by decide)]
   have:=zhW (r:=r * 33+y.toNat+1) (s:=r * 33+x.toNat+1) hb' hl'.symm (by omega)
   unfold cmpI
   rw[if_neg (by omega),if_pos (by omega)]
theorem zcn (w:List Int):w=[]∨∃ v e,w=v++[e]:=by
 by_cases h:w=[]
 ·exact .inl h
 ·exact .inr ⟨w.dropLast,w.getLast h,(List.dropLast_concat_getLast h).symm⟩
theorem zlM:∀ (n:Nat) {a b:List Int},a.length≤n→inW a→a.length<b.length→rk a<rk b
 | n,a,b,hn,ha,hl=>by
  rcases zcn b with rfl | ⟨v,f,rfl⟩
  ·simp at hl
  rw[zct]
  rcases zcn a with rfl | ⟨u,e,rfl⟩
  ·show rkA 0 []<_
   rw[rkA]
   omega
  ·cases n with
   | zero=>simp at hn
   | succ n=>
    rw[zct]
    simp only[List.length_append,List.length_singleton] at hl hn
    have:=zlM n (a:=u) (b:=v) (by omega) (fun z hz=>ha z (by simp[hz])) (by omega)
    have he:=ha e (by simp)
    omega
theorem zuB {a b:List Int} (ha:inW a) (hb:inW b):cmpW a b=cmpI (rk a:Int) (rk b:Int):=by
 unfold cmpW
 rcases Nat.lt_trichotomy a.length b.length with h | h | h
 ·have h1:cmpI (a.length:Int) (b.length:Int) = -1:=by unfold cmpI;rw[if_pos (by omega)]
  have:=zlM _ (Nat.le_refl _) ha h
  rw[h1,if_pos (by decide)]
  unfold cmpI
  rw[if_pos (by omega)]
 ·rw[h,zgM,if_neg (by simp)]
  exact zqy ha hb h
 ·have h1:cmpI (a.length:Int) (b.length:Int)=1:=by unfold cmpI;rw[if_neg (by omega),if_pos (by omega)]
  have:=zlM _ (Nat.le_refl _) hb h
  rw[h1,if_pos (by decide)]
  unfold cmpI
  rw[if_neg (by omega),if_pos (by omega)]
theorem zgL {a b:List Int} (ha:inW a) (hb:inW b):cmpW a b<0 ↔ rk a<rk b:=by
 rw[zuB ha hb]
 unfold cmpI
 by_cases h:(rk a:Int)<rk b
 ·rw[if_pos h];constructor <;> intro _ <;> omega
 ·rw[if_neg h]
  split <;> constructor <;> intro _ <;> omega
theorem zsQ:∀ (n:Nat) {a b:List Int},a.length≤n→inW a→inW b→rk a=rk b→a=b
 | n,a,b,hn,ha,hb,h=>by
  rcases zcn a with rfl | ⟨u,e,rfl⟩
  ·rcases zcn b with rfl | ⟨v,f,rfl⟩
   ·rfl
   ·rw[zct] at h
    have:rk []=0:=rfl
    omega
  ·cases n with
   | zero=>simp at hn
   | succ n=>
    rcases zcn b with rfl | ⟨v,f,rfl⟩
    ·rw[zct] at h
     have:rk []=0:=rfl
     omega
    ·rw[zct,zct] at h
     have he:=ha e (by simp)
     have hf:=hb f (by simp)
     simp only[List.length_append,List.length_singleton] at hn
     have h1:rk u=rk v:=by omega
     have h2:e=f:=by omega
     rw[zsQ n (a:=u) (b:=v) (by omega) (fun z hz=>ha z (by simp[hz])) (fun z hz=>hb z (by simp[hz])) h1,h2]
theorem ztN {a b:List Int} (ha:inW a) (hb:inW b) (h:rk a=rk b):a=b:=zsQ _ (Nat.le_refl _) ha hb h
theorem zu0 {a b:List Int} {e:Int} (h:rk a≤rk b):rk (a++[e])≤rk (b++[e]):=by
 rw[zct,zct];omega
theorem zlN:∀ (n:Nat) {a:List Int},inW a→a.length≤n→rk a<33 ^ n
 | n,a,ha,hn=>by
  rcases zcn a with rfl | ⟨u,e,rfl⟩
  ·show rkA 0 []<_
   rw[rkA]
   exact Nat.pow_pos (by decide)
  ·cases n with
   | zero=>simp at hn
   | succ n=>
    simp only[List.length_append,List.length_singleton] at hn
    have:=zlN n (a:=u) (fun z hz=>ha z (by simp[hz])) (by omega)
    have he:=ha e (by simp)
    rw[zct,Nat.pow_succ]
    omega
theorem zrF {a b:List Int} (ha:inW a) (hb:inW b) (h:rk a≤rk b):a.length≤b.length:=by
 rcases Nat.lt_or_ge b.length a.length with h1 | h1
 ·have:=zlM _ (Nat.le_refl _) hb h1
  omega
 ·exact h1
end Go.AI


namespace Go.AI
open Go.Proofs
set_option maxRecDepth 20000
theorem ztl (O:List Heap) (x y:Int):zao Tryz.prog 148 [ii x,ii y] O (ii (cmpI x y)) [] O:=by
 have h:=fun O x=>zpK O x
 unfold cmpI
 refine zad Tk Tryz.func148 rfl Tryz.call148 Tryz.ntmps148 (Nat.le_of_ble_eq_true rfl) fun E=>?_
 refine zae Tk Tryz.func148 ?_
 refine zaf Tk Tryz.func148 (h _ _) rfl rfl rfl rfl rfl ?_
 refine zaf Tk Tryz.func148 (h _ _) rfl rfl rfl rfl rfl ?_
 refine gcF Tk Tryz.func148 rfl ?_
 refine gcF Tk Tryz.func148 rfl ?_
 refine zai Tk Tryz.func148 rfl (fun c1=>?_) (fun c1=>?_)
 ·have c1:x<y:=of_decide_eq_true c1
  rw[if_pos c1]
  refine zak Tk (r:=ii (-1)) rfl rfl rfl trivial rfl rfl ?_
  rfl
 have c1:¬ x<y:=of_decide_eq_false c1
 rw[if_neg c1]
 refine zai Tk Tryz.func148 rfl (fun c2=>?_) (fun c2=>?_)
 ·have c2:x>y:=of_decide_eq_true c2
  rw[if_pos c2]
  refine zak Tk (r:=ii 1) rfl rfl rfl trivial rfl rfl ?_
  rfl
 ·have c2:¬ x>y:=of_decide_eq_false c2
  rw[if_neg c2]
  refine zak Tk (r:=ii 0) rfl rfl rfl trivial rfl rfl ?_
  rfl
theorem zsB:∀ {a b:List Int},a=[]→cmpL a b=if a.length<b.length then -1 else 0
 | _,[],rfl=>rfl
 | _,_::_,rfl=>by simp[cmpL]
theorem zvF (O:List Heap) (a b:List Int) (ha:a.length≤1000000) (hb:b.length≤1000000):zao Tryz.prog 149 [ints a,ints b] O (ii (cmpL a b)) [] O:=by
 have h:=fun O x y=>ztl O x y
 obtain⟨R,hR⟩:∃ R,R=cmpL (a.drop 0) (b.drop 0):=⟨_,rfl⟩
 have e0:cmpL a b=R:=hR.symm
 rw[e0]
 refine zad Tk Tryz.func149 rfl Tryz.call149 Tryz.ntmps149 (Nat.le_of_ble_eq_true rfl) fun E=>?_
 refine zae Tk Tryz.func149 ?_
 refine zac ?_
 refine zah (fun i:Nat=>[(0,ints a),(1,ints b),(9,ints a),(10,ii a.length),(11,ii i)]) (fun _=>[]) (fun _=>O) 36
  (fun i=>(i≤a.length∧i≤b.length)∧R=cmpL (a.drop i) (b.drop i)) (fun i=>a.length - i) 0 ⟨⟨Nat.zero_le _,Nat.zero_le _⟩,hR⟩ ⟨rfl,rfl,rfl,rfl,rfl,trivial⟩ rfl trivial rfl rfl ?_
 clear hR e0
 rintro i ⟨⟨hi,hib⟩,hno⟩ ih
 refine zae Tk Tryz.func149 ?_
 refine zai Tk Tryz.func149 rfl (fun g1=>?_) (fun g1=>?_)
 ·have h3:i<a.length:=by simpa using g1
  clear g1
  have hi1:ii (IntKind.i64.wrap ((i:Int)+1))=ii ((i+1:Nat):Int):=congrArg ii (zaD (n:=1000001) (by omega) (by decide))
  have ga:(a.map fun x=>[vi x])[(i:Int).toNat]? = some [vi a[i]]:=zaj (f:=fun x=>[vi x]) h3
  have da:a.drop i=a[i]::a.drop (i+1):=List.drop_eq_getElem_cons h3
  refine zag Tk Tryz.func149 (by exact⟨by omega,by show (i:Int)<(a.length:Int);omega⟩) ?_
  refine zap Tk Tryz.func149 (ga) ?_
  refine zai Tk Tryz.func149 rfl (fun c1=>?_) (fun c1=>?_)
  ·have c1:(i:Int) ≥ (b.length:Int):=of_decide_eq_true c1
   rw[da,List.drop_eq_nil_of_le (show b.length≤i by omega)] at hno
   simp only[cmpL] at hno
   subst hno
   refine zak Tk (r:=ii 1) rfl rfl rfl trivial rfl rfl ?_
   rfl
  have c1:¬ (i:Int) ≥ (b.length:Int):=of_decide_eq_false c1
  have h4:i<b.length:=by omega
  have gb:(b.map fun x=>[vi x])[(i:Int).toNat]? = some [vi b[i]]:=zaj (f:=fun x=>[vi x]) h4
  have db:b.drop i=b[i]::b.drop (i+1):=List.drop_eq_getElem_cons h4
  rw[da,db] at hno
  simp only[cmpL] at hno
  clear da db ga
  generalize a[i]=x at *
  generalize b[i]=y at *
  have h':=fun O=>h O x y
  generalize cmpI x y=t at *
  refine zag Tk Tryz.func149 (by exact⟨by omega,by show (i:Int)<(b.length:Int);omega⟩) ?_
  refine zap Tk Tryz.func149 (gb) ?_
  refine zaf Tk Tryz.func149 (h' _) rfl rfl rfl rfl rfl ?_
  refine zai Tk Tryz.func149 rfl (fun c2=>?_) (fun c2=>?_)
  ·have c2:t≠0:=by simpa using c2
   rw[if_pos c2] at hno
   subst hno
   refine zak Tk (r:=ii R) rfl rfl rfl trivial rfl rfl ?_
   rfl
  ·have c2:¬ t≠0:=by simpa using c2
   rw[if_neg c2] at hno
   refine zac ?_
   refine ih (i+1) _ _ ⟨⟨h3,h4⟩,hno⟩ (by omega) ⟨rfl,rfl,rfl,rfl,hi1,trivial⟩ rfl trivial rfl rfl
 ·have h3:a.length≤i:=by simpa using g1
  rw[zsB (List.drop_eq_nil_of_le h3),List.length_drop,List.length_drop] at hno
  refine zai Tk Tryz.func149 rfl (fun c1=>?_) (fun c1=>?_)
  ·have c1:(a.length:Int)<(b.length:Int):=of_decide_eq_true c1
   rw[if_pos (by omega)] at hno
   subst hno
   refine zak Tk (r:=ii (-1)) rfl rfl rfl trivial rfl rfl ?_
   rfl
  ·have c1:¬ (a.length:Int)<(b.length:Int):=of_decide_eq_false c1
   rw[if_neg (by omega)] at hno
   subst hno
   refine zak Tk (r:=ii 0) rfl rfl rfl trivial rfl rfl ?_
   rfl
theorem zvT (O:List Heap) (x y:Int):zao Tryz.prog 147 [.i (.sl 1 2 [[vi x],[vi y]])] O (ii (if x≠0 then x else y)) [] O:=by
 refine zad Tk Tryz.func147 rfl Tryz.call147 Tryz.ntmps147 (Nat.le_of_ble_eq_true rfl) fun E=>?_
 refine zae Tk Tryz.func147 ?_
 refine zac ?_
 refine zae Tk Tryz.func147 ?_
 refine gcT Tk Tryz.func147 rfl ?_
 refine zag Tk Tryz.func147 (by decide) ?_
 refine zap Tk Tryz.func147 (rfl) ?_
 refine zai Tk Tryz.func147 rfl (fun c1=>?_) (fun c1=>?_)
 ·have c1:x≠0:=by simpa using c1
  rw[if_pos c1]
  refine zak Tk (r:=ii x) rfl rfl rfl trivial rfl rfl ?_
  rfl
 have c1:¬ x≠0:=by simpa using c1
 rw[if_neg c1]
 refine zac ?_
 refine zae Tk Tryz.func147 ?_
 refine gcT Tk Tryz.func147 rfl ?_
 refine zag Tk Tryz.func147 (by decide) ?_
 refine zap Tk Tryz.func147 (rfl) ?_
 refine zai Tk Tryz.func147 rfl (fun c2=>?_) (fun c2=>?_)
 ·refine zak Tk (r:=ii y) rfl rfl rfl trivial rfl rfl ?_
  rfl
 have c2:¬ y≠0:=by simpa using c2
 obtain rfl:y=0:=Classical.byContradiction c2
 refine zac ?_
 refine zae Tk Tryz.func147 ?_
 refine gcF Tk Tryz.func147 rfl ?_
 refine zak Tk (r:=ii 0) rfl rfl rfl trivial rfl rfl ?_
 rfl
theorem zmm (O:List Heap) (a b:List Int) (ha:a.length≤1000000) (hb:b.length≤1000000):zao Tryz.prog 101 [ints a,ints b] O (ii (cmpW a b)) [] O:=by
 have h1:=fun O=>ztl O a.length b.length
 have h2:=fun O=>zvF O a b ha hb
 have h3:=fun O=>zvT O (cmpI a.length b.length) (cmpL a b)
 unfold cmpW
 generalize cmpI a.length b.length=x at *
 generalize cmpL a b=y at *
 refine zad Tk Tryz.func101 rfl Tryz.call101 Tryz.ntmps101 (Nat.le_of_ble_eq_true rfl) fun E=>?_
 refine zae Tk Tryz.func101 ?_
 refine zaf Tk Tryz.func101 (h1 _) rfl rfl rfl rfl rfl ?_
 refine zaf Tk Tryz.func101 (h2 _) rfl rfl rfl rfl rfl ?_
 refine zaf Tk Tryz.func101 (h3 _) rfl rfl rfl rfl rfl ?_
 refine zak Tk (r:=ii (if x≠0 then x else y)) rfl rfl rfl trivial rfl rfl ?_
 rfl
theorem zmn (O:List Heap) (l:List Int) (hl:l.length≤1000000):zao Tryz.prog 77 [ints l] O (.osl 0 207) [(207,zax l)] O:=by
 refine zad Tk Tryz.func77 rfl Tryz.call77 Tryz.ntmps77 (Nat.le_of_ble_eq_true rfl) fun E=>?_
 refine zae Tk Tryz.func77 ?_
 refine zp2 Tk Tryz.func77 rfl rfl fun b hb=>?_
 refine zai Tk Tryz.func77 rfl (fun h1=>?_) (fun h1=>?_)
 ·have hl0:l=[]:=List.eq_nil_of_length_eq_zero (hb h1)
  subst hl0
  refine zcF (zb8 2 207 3 1 rfl rfl rfl) ?_
  exact⟨zbm (hT:=Tk) (r:=.osl 0 207) rfl rfl rfl ⟨⟨_,rfl,rfl⟩,trivial⟩ (zef _ _ _) rfl rfl⟩
 ·refine zag Tk Tryz.func77 (by exact⟨by show (0+l.length) * 8≤140737488355328;omega,by show 0+l.length≤9223372036854775807;omega⟩) ?_
  refine zcF (ziH (l:=[(2,.osl 0 7)]) (Hv:=[(7,.arr 3 1 (0+l.length) ([]++l.map fun x=>[vi x]) true)]) ⟨rfl,trivial⟩ rfl ⟨rfl,trivial⟩ rfl rfl) ?_
  rw[Nat.zero_add,List.nil_append]
  refine zcF (zcR 7 207 rfl rfl rfl) ?_
  exact⟨zbm (hT:=Tk) (r:=.osl 0 207) rfl rfl rfl ⟨⟨_,rfl,rfl⟩,trivial⟩ (zef _ _ _) rfl rfl⟩
end Go.AI


namespace Go.AI
abbrev Fd:=Int × List Int
inductive RP (a:Aut) (on:List Int) (frm:List Fd):Int→List Int→Prop
 | base {x:Fd}:x∈frm→RP a on frm x.1 x.2
 | step {s e:Int} {w:List Int}:RP a on frm s w→e∈a.alpha→e ∉ on→0≤stp3 a.edges s e→RP a on frm (stp3 a.edges s e) (w++[e])
structure fdOk (a:Aut) (n:Nat) (frm:List Fd):Prop where
 al:∀ e∈a.alpha,0≤e∧e<32
 st:∀ e∈a.edges,0≤e.2.2∧e.2.2<(n:Int)
 rng:∀ x∈frm,0≤x.1∧x.1<(n:Int)
 wrd:∀ x∈frm,inW x.2
theorem zdn {es:List Edg} {s ev:Int} (h:0≤stp3 es s ev):∃ x∈es,x.1=s∧x.2.1=ev∧x.2.2=stp3 es s ev:=by
 induction es with
 | nil=>rw[stp3] at h;omega
 | cons x r ih=>
  simp only[stp3] at h ⊢
  by_cases c:x.1=s∧x.2.1=ev
  ·rw[if_pos c] at h ⊢
   exact⟨x,by simp,c.1,c.2,rfl⟩
  ·rw[if_neg c] at h ⊢
   obtain⟨y,hy,h1⟩:=ih h
   exact⟨y,by simp[hy],h1⟩
section
variable {a:Aut} {on:List Int} {frm:List Fd} {n:Nat}
theorem RP.ok (h:fdOk a n frm) {t:Int} {w:List Int} (hp:RP a on frm t w):(0≤t∧t<(n:Int))∧inW w:=by
 induction hp with
 | base hx=>exact⟨h.rng _ hx,h.wrd _ hx⟩
 | @step s e w hp he ho ht ih=>
  obtain⟨x,hx,_,_,h3⟩:=zdn ht
  refine⟨⟨ht,by rw[← h3];exact (h.st x hx).2⟩,fun z hz=>?_⟩
  rcases List.mem_append.1 hz with hz | hz
  ·exact ih.2 z hz
  ·rw[List.mem_singleton] at hz
   subst hz
   exact h.al _ he
structure RQ (a:Aut) (on:List Int) (frm:List Fd) (l:List Fd):Prop where
 snd:∀ y∈l,RP a on frm y.1 y.2
 nd:(l.map (·.1)).Nodup
 low:∀ t w,RP a on frm t w→∃ y∈l,y.1=t∧rk y.2≤rk w
 srt:l.Pairwise fun x y=>rk x.2<rk y.2
theorem zkb {α:Type} {f:α→Nat}:∀ {l m:List α},(l.Pairwise fun x y=>f x<f y)→(m.Pairwise fun x y=>f x<f y)→(∀ x,x∈l ↔ x∈m)→l=m
 | [],[],_,_,_=>rfl
 | [],y::m,_,_,h=>by have:=(h y).2 (by simp);cases this
 | x::l,[],_,_,h=>by have:=(h x).1 (by simp);cases this
 | x::l,y::m,hl,hm,h=>by
  rw[List.pairwise_cons] at hl hm
  have hxy:x=y:=by
   rcases List.mem_cons.1 ((h x).1 (by simp)) with e | e
   ·exact e
   ·rcases List.mem_cons.1 ((h y).2 (by simp)) with e2 | e2
    ·exact e2.symm
    ·have:=hm.1 x e
     have:=hl.1 y e2
     omega
  subst hxy
  congr 1
  refine zkb hl.2 hm.2 fun z=>⟨fun hz=>?_,fun hz=>?_⟩
  ·rcases List.mem_cons.1 ((h z).1 (by simp[hz])) with e | e
   ·subst e
    have:=hl.1 z hz
    omega
   ·exact e
  ·rcases List.mem_cons.1 ((h z).2 (by simp[hz])) with e | e
   ·subst e
    have:=hm.1 z hz
    omega
   ·exact e
theorem zjc {l:List Fd} (h:(l.map (·.1)).Nodup) {x y:Fd} (hx:x∈l) (hy:y∈l) (e:x.1=y.1):x=y:=by
 induction l with
 | nil=>cases hx
 | cons z l ih=>
  rw[List.map_cons,List.nodup_cons] at h
  rcases List.mem_cons.1 hx with h1 | h1 <;> rcases List.mem_cons.1 hy with h2 | h2
  ·rw[h1,h2]
  ·subst h1;exact absurd (List.mem_map.2 ⟨y,h2,e.symm⟩) h.1
  ·subst h2;exact absurd (List.mem_map.2 ⟨x,h1,e⟩) h.1
  ·exact ih h.2 h1 h2
theorem RQ.mem (h:fdOk a n frm) {l m:List Fd} (hl:RQ a on frm l) (hm:RQ a on frm m) {x:Fd} (hx:x∈l):x∈m:=by
 have p:=hl.snd x hx
 obtain⟨y,hy,e1,e2⟩:=hm.low _ _ p
 have q:=hm.snd y hy
 obtain⟨z,hz,e3,e4⟩:=hl.low _ _ q
 have:z=x:=zjc hl.nd hz hx (e3.trans e1)
 subst this
 have:y.2=z.2:=ztN (q.ok h).2 (p.ok h).2 (by omega)
 have:y=z:=Prod.ext e1 this
 rwa [← this]
theorem RQ.eq (h:fdOk a n frm) {l m:List Fd} (hl:RQ a on frm l) (hm:RQ a on frm m):l=m:=zkb hl.srt hm.srt fun x=>⟨RQ.mem h hl hm,RQ.mem h hm hl⟩
open Classical in
noncomputable def rchF (a:Aut) (on:List Int) (frm:List Fd):List Fd:=if h:∃ l,RQ a on frm l then h.choose else []
theorem zpe (h:fdOk a n frm) {l:List Fd} (hl:RQ a on frm l):l=rchF a on frm:=by
 have hex:∃ l,RQ a on frm l:=⟨l,hl⟩
 have h1:rchF a on frm=hex.choose:=by unfold rchF;rw[dif_pos hex]
 rw[h1]
 exact RQ.eq h hl hex.choose_spec
structure RGd (a:Aut) (on:List Int) (frm:List Fd) (l:List Fd):Prop where
 snd:∀ y∈l,RP a on frm y.1 y.2
 nd:(l.map (·.1)).Nodup
 cov:∀ x∈frm,∃ y∈l,y.1=x.1∧rk y.2≤rk x.2
abbrev clE (a:Aut) (on:List Int) (l:List Fd) (x:Fd) (e:Int):Prop:=e ∉ on→0≤stp3 a.edges x.1 e→∃ y∈l,y.1=stp3 a.edges x.1 e∧rk y.2≤rk (x.2++[e])
theorem RGd.low {l:List Fd} (h:RGd a on frm l) (hc:∀ x∈l,∀ e∈a.alpha,clE a on l x e):∀ t w,RP a on frm t w→∃ y∈l,y.1=t∧rk y.2≤rk w:=by
 intro t w hp
 induction hp with
 | base hx=>exact h.cov _ hx
 | @step s e w hp he ho ht ih=>
  obtain⟨x,hx,e1,e2⟩:=ih
  subst e1
  obtain⟨y,hy,e3,e4⟩:=hc x hx e he ho ht
  exact⟨y,hy,e3,Nat.le_trans e4 (zu0 e2)⟩
theorem RGd.q {l:List Fd} (h:RGd a on frm l) (hs:l.Pairwise fun x y=>rk x.2<rk y.2) (hc:∀ x∈l,∀ e∈a.alpha,clE a on l x e):RQ a on frm l:=⟨h.snd,h.nd,h.low hc,hs⟩
theorem RGd.few {l:List Fd} (h:RGd a on frm l) (ho:fdOk a n frm):l.length≤n:=by
 have h1:=zda (n:=n) (l:=l.map fun y=>y.1.toNat) ?_ ?_
 ·rwa [List.length_map] at h1
 ·have:=h.nd
  unfold List.Nodup at this ⊢
  rw[List.pairwise_map] at this ⊢
  refine this.imp_of_mem fun {x y} hx hy hne e=>hne ?_
  have:=((h.snd x hx).ok ho).1
  have:=((h.snd y hy).ok ho).1
  omega
 ·intro z hz
  obtain⟨y,hy,rfl⟩:=List.mem_map.1 hz
  have:=((h.snd y hy).ok ho).1
  show y.1.toNat<n
  omega
def sumR:List Fd→Nat
 | []=>0
 | y::r=>rk y.2+sumR r
theorem zlE:∀ (l m:List Fd),sumR (l++m)=sumR l+sumR m
 | [],m=>by simp[sumR]
 | y::l,m=>by simp only[List.cons_append,sumR,zlE l m];omega
theorem zlD:∀ {l:List Fd} {k:Nat} (h:k<l.length) (z:Fd),sumR (l.set k z)+rk l[k].2=sumR l+rk z.2
 | [],k,h,z=>by simp at h
 | y::l,0,h,z=>by simp only[List.set_cons_zero,List.getElem_cons_zero,sumR];omega
 | y::l,k+1,h,z=>by
  have:=zlD (l:=l) (k:=k) (by simpa using h) z
  simp only[List.set_cons_succ,List.getElem_cons_succ,sumR]
  omega
def meas (n B:Nat) (l:List Fd):Nat:=(n - l.length) * 33 ^ (B+n)+sumR l
theorem zr4 {B:Nat} {l:List Fd} {y:Fd} (hn:l.length<n) (hw:inW y.2) (hl:y.2.length≤B+n):meas n B (l++[y])<meas n B l:=by
 unfold meas
 have h1:=zlN _ hw hl
 rw[zlE,List.length_append,List.length_singleton]
 have h2:n - l.length=(n - (l.length+1))+1:=by omega
 rw[h2,Nat.succ_mul]
 simp only[sumR]
 omega
theorem zr3 {B:Nat} {l:List Fd} {k:Nat} (h:k<l.length) {z:Fd} (hz:rk z.2<rk l[k].2):meas n B (l.set k z)<meas n B l:=by
 unfold meas
 have:=zlD h z
 rw[List.length_set]
 omega
structure Pss (a:Aut) (on:List Int) (frm:List Fd) (n B:Nat) (l0 l:List Fd) (al:Option (List Fd)) (ch:Bool):Prop where
 g:RGd a on frm l
 len:∀ y∈l,y.2.length≤B+l.length
 k:l0.length≤l.length
 alo:∀ old,al=some old→l0.length≤old.length∧∀ y∈old,RP a on frm y.1 y.2∧y.2.length≤B+l.length
 same:ch=false→l=l0∧al=none
 less:ch=true→meas n B l<meas n B l0
theorem Pss.at {B:Nat} {l0 l:List Fd} {al:Option (List Fd)} {ch:Bool} (h:Pss a on frm n B l0 l al ch) {x:Fd} (hx:x∈al.getD l):RP a on frm x.1 x.2∧x.2.length≤B+l.length:=by
 cases al with
 | none=>exact⟨h.g.snd x hx,h.len x hx⟩
 | some old=>exact (h.alo old rfl).2 x hx
theorem Pss.app {B:Nat} {l0 l:List Fd} {al al':Option (List Fd)} {ch:Bool} (ho:fdOk a n frm) (h:Pss a on frm n B l0 l al ch) (hal:al' = al∨al' = some l) {s e:Int} {w:List Int} (hp:RP a on frm s w) (hw:w.length≤B+l.length) (he:e∈a.alpha) (hon:e ∉ on) (ht:0≤stp3 a.edges s e)
  (hno:∀ y∈l,y.1≠stp3 a.edges s e):Pss a on frm n B l0 (l++[(stp3 a.edges s e,w++[e])]) al' true∧l.length<n:=by
 have hp':=RP.step hp he hon ht
 have hg:RGd a on frm (l++[(stp3 a.edges s e,w++[e])]):=by
  refine⟨fun y hy=>?_,?_,fun x hx=>?_⟩
  ·rcases List.mem_append.1 hy with hy | hy
   ·exact h.g.snd y hy
   ·rw[List.mem_singleton] at hy
    subst hy
    exact hp'
  ·rw[List.map_append,List.nodup_append]
   refine⟨h.g.nd,by simp,fun x hx y hy=>?_⟩
   obtain⟨z,hz,rfl⟩:=List.mem_map.1 hx
   simp only[List.map_cons,List.map_nil,List.mem_singleton] at hy
   subst hy
   exact hno z hz
  ·obtain⟨y,hy,h1⟩:=h.g.cov x hx
   exact⟨y,by simp[hy],h1⟩
 have hlt:=hg.few ho
 rw[List.length_append,List.length_singleton] at hlt
 have hm:=zr4 (B:=B) (y:=(stp3 a.edges s e,w++[e])) (show l.length<n by omega) (hp'.ok ho).2 (by simp only[List.length_append,List.length_singleton];omega)
 refine⟨⟨hg,fun y hy=>?_,by rw[List.length_append];have:=h.k;omega,fun old ho'=>?_,fun e=>(by cases e),fun _=>?_⟩,by omega⟩
 ·rw[List.length_append,List.length_singleton]
  rcases List.mem_append.1 hy with hy | hy
  ·have:=h.len y hy
   omega
  ·rw[List.mem_singleton] at hy
   subst hy
   simp only[List.length_append,List.length_singleton]
   omega
 ·rw[List.length_append,List.length_singleton]
  rcases hal with rfl | rfl
  ·obtain⟨h1,h2⟩:=h.alo old ho'
   exact⟨h1,fun y hy=>⟨(h2 y hy).1,by have:=(h2 y hy).2;omega⟩⟩
  ·obtain rfl:=Option.some.inj ho'
   exact⟨h.k,fun y hy=>⟨h.g.snd y hy,by have:=h.len y hy;omega⟩⟩
 ·cases ch with
  | false=>obtain⟨rfl,_⟩:=h.same rfl;exact hm
  | true=>exact Nat.lt_trans hm (h.less rfl)
theorem Pss.upd {B:Nat} {l0 l:List Fd} {al:Option (List Fd)} {ch:Bool} (ho:fdOk a n frm) (h:Pss a on frm n B l0 l al ch) {s e:Int} {w:List Int} (hp:RP a on frm s w) (he:e∈a.alpha) (hon:e ∉ on) (ht:0≤stp3 a.edges s e)
  {k:Nat} (hk:k<l.length) (hs:l[k].1=stp3 a.edges s e) (hr:rk (w++[e])<rk l[k].2):Pss a on frm n B l0 (l.set k (l[k].1,w++[e])) al true:=by
 have hp':=RP.step hp he hon ht
 have hmap:(l.set k (l[k].1,w++[e])).map (·.1)=l.map (·.1):=by
  rw[List.map_set]
  have:l[k].1=(l.map (·.1))[k]'(by rw[List.length_map];exact hk):=by simp
  simp only
  rw[this,List.set_getElem_self]
 have hm:=zr3 (n:=n) (B:=B) hk (z:=(l[k].1,w++[e])) hr
 have hle:=zrF (hp'.ok ho).2 ((h.g.snd _ (List.getElem_mem hk)).ok ho).2 (Nat.le_of_lt hr)
 refine⟨⟨fun y hy=>?_,by rw[hmap];exact h.g.nd,fun x hx=>?_⟩,fun y hy=>?_,by rw[List.length_set];exact h.k,fun old ho'=>by rw[List.length_set];exact h.alo old ho',fun e=>(by cases e),fun _=>?_⟩
 ·rcases List.mem_or_eq_of_mem_set hy with hy | rfl
  ·exact h.g.snd y hy
  ·simp only
   rw[hs]
   exact hp'
 ·obtain⟨y,hy,h1,h2⟩:=h.g.cov x hx
  obtain⟨i,hi,rfl⟩:=List.mem_iff_getElem.1 hy
  by_cases hik:k=i
  ·subst hik
   exact⟨(l[k].1,w++[e]),List.mem_set hk _,h1,by simp only;omega⟩
  ·exact⟨l[i],by
    rw[List.mem_iff_getElem]
    exact⟨i,by rw[List.length_set];exact hi,by rw[List.getElem_set_ne hik]⟩,h1,h2⟩
 ·rw[List.length_set]
  rcases List.mem_or_eq_of_mem_set hy with hy | rfl
  ·exact h.len y hy
  ·have:=h.len _ (List.getElem_mem hk)
   simp only
   omega
 ·cases ch with
  | false=>obtain⟨rfl,_⟩:=h.same rfl;exact hm
  | true=>exact Nat.lt_trans hm (h.less rfl)
end
end Go.AI
