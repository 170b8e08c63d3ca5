/- The layer of abstract runs, part 29. -/
import Derived.Test.YtlcekmemdnjjbaaGreatDoorCorZB
import Derived.KernelRfl
import Derived.Test.YtlcekmemdnjjbaaGreatDoorTie
import Derived.Test.YtlcekmemdnjjbaaGreatDoorCards
import Derived.ProofKit
import Derived.LaidMore
import Derived.OpenShut
import Derived.Lay
import Derived.SevenTiedAt
import Derived.Stop.Joined
import Derived.Stop.LaidErr
import Derived.Lib.LaidTab
import Derived.WideKeyArgs
import Derived.Lib.SmallJoins
import Derived.Deep.Slices
set_option linter.unusedSimpArgs false
set_option linter.unusedVariables false
set_option linter.all false

set_option maxHeartbeats 4000000
namespace Go.AI
theorem zkx:∀ {l:List Edg} {k0 n:Nat},kOf l k0=some n→∀ k,k0≤k→k<n→∃ e∈l,e.2.2=(k:Int)∧0≤e.1∧e.1<(k:Int)
 | [],k0,n,h,k,h1,h2=>by simp only[kOf,Option.some.injEq] at h;omega
 | e::r,k0,n,h,k,h1,h2=>by
  simp only[kOf] at h
  by_cases c:(0≤e.1∧e.1<k0)∧0≤e.2.2∧e.2.2≤k0
  ·rw[if_pos c] at h
   by_cases c2:e.2.2=k0
   ·rw[if_pos c2] at h
    by_cases c3:k=k0
    ·subst c3
     exact⟨e,by simp,c2,c.1.1,c.1.2⟩
    ·obtain⟨e',a1,a2⟩:=zkx h k (by omega) h2
     exact⟨e',by simp[a1],a2⟩
   ·rw[if_neg c2] at h
    obtain⟨e',a1,a2⟩:=zkx h k h1 h2
    exact⟨e',by simp[a1],a2⟩
  ·rw[if_neg c] at h;cases h
theorem zei:∀ {n:Nat} {l:List Int},l∈subs n→l.Pairwise (· < ·)
 | 0,l,h=>by simp[subs] at h;subst h;exact .nil
 | n+1,l,h=>by
  rw[subs,List.mem_append] at h
  rcases h with h | h
  ·exact zei h
  ·obtain⟨m,hm,rfl⟩:=List.mem_map.1 h
   rw[List.pairwise_append]
   refine⟨zei hm,List.pairwise_singleton _ _,fun a ha b hb=>?_⟩
   rw[List.mem_singleton] at hb
   have:=(zbP hm).2 a ha
   omega
theorem srch {S:Type} [DecidableEq S] {V:List S} {nx:S→Int→S} {evs:S→List Int} {x0:S} {N:Nat} (h0:x0∈V) (hv:∀ x∈V,∀ ev∈evs x,nx x ev∈V) (hN:V.length<N) :
  ∃ L:List (S × List Int),(x0,[])∈L∧(∀ z∈L,∀ ev∈evs z.1,∃ w∈L,w.1=nx z.1 ev)∧(∀ z∈L,runG nx (fun _=>true) evs x0 z.2=some z.1)∧bOk V L ∧
   ∀ bad:S→Bool,bsr nx (fun _=>true) evs bad N 0 [(x0,[])]=L.find? fun z=>bad z.1:=by
 have hB:=zk5 (V:=V) h0
 refine⟨zfy nx (fun _=>true) evs N 0 [(x0,[])],(zg1 nx (fun _=>true) evs N 0 [(x0,[])]).subset (by simp),?_,?_,?_,fun bad=>?_⟩
 ·intro z hz ev hev
  exact zfE (V:=V) (fun x hx ev he _=>hv x hx ev he) hN N 0 _ rfl (by simp) hB (by simp) z hz ev hev rfl
 ·exact zj0 N 0 _ (by simp[runG])
 ·exact zmP (fun x hx ev he _=>hv x hx ev he) N 0 _ hB
 ·exact zmN (fun x hx ev he _=>hv x hx ev he) hN N 0 _ rfl (by simp) hB (by simp)
theorem zjH {α:Type} {p:α→Bool} {l:List α} (h:∃ x∈l,p x=true):∃ z,l.find? p=some z:=by
 cases e:l.find? p with
 | some z=>exact⟨z,rfl⟩
 | none=>
  obtain⟨x,hx,hp⟩:=h
  exact absurd hp (List.find?_eq_none.1 e x hx)
section
variable {a:Aut} {n:Nat} {on:List Int} {V:Unf (List Int)}
structure prjU (a:Aut) (n:Nat) (on:List Int) (V:Unf (List Int)):Prop where
 g:gAut a n
 n0:0<n
 hn:n≤11
 hV:prjR a on n = .ok V
 hU:UAt (zcx a) (zbJ a on) (estP n) (zd9 a on n) V.sts.length V
theorem zvr (h:gAut a n) (h0:0<n) (hn:n≤11) (on:List Int):∃ V,prjU a n on V:=by
 obtain⟨V,h1,h2⟩:=zge h on (by omega) h0
 exact⟨V,h,h0,hn,h1,h2⟩
theorem prjU.fst (h:prjU a n on V):V.sts[0]? = some (clo a.edges (lowP on [] false) n [0]):=by
 have hpre:=ziY (show zbx eqB false (zd9 a on n) (zcx a) (zbJ a on) 4097 0 (unf0 (clo a.edges (lowP on [] false) n [0])) = .ok V from h.hV)
 obtain⟨r,hr⟩:=hpre
 rw[← hr]
 rfl
theorem prjU.kp (h:prjU a n on V):(zbJ a on).Pairwise (· < ·):=(zam (zaA h.g.c).1).1.filter _
theorem prjU.few (h:prjU a n on V):V.sts.length≤2048:=by
 have:=zbl h.hU.nd (fun s hs=>(h.hU.ok s hs).1)
 rw[zfI] at this
 have:2 ^ n≤2 ^ 11:=Nat.pow_le_pow_right (by decide) h.hn
 omega
theorem prjU.og (h:prjU a n on V):gAut (unfA (zbJ a on) V) V.sts.length:=ztZ h.hU (zmt h.g on) (by have:=h.few;omega)
theorem prjU.stp (h:prjU a n on V) {i:Nat} {E:List Int} (hE:V.sts[i]? = some E) {ev:Int} (hev:ev∈zbJ a on) :
  (nxt a.edges (lowP on [] false) n E ev=[]∧stp3 V.eds i ev = -1)∨(nxt a.edges (lowP on [] false) n E ev≠[]∧∃ j:Nat,stp3 V.eds i ev=(j:Int)∧V.sts[j]? = some (nxt a.edges (lowP on [] false) n E ev)):=by
 have hs:∀ s ev,(zd9 a on n s ev).2.1=decide ((nxt a.edges (lowP on [] false) n s ev).length≠0):=fun _ _=>rfl
 rcases zoV h.hU h.kp hE hev with ⟨h1,h2⟩ | ⟨h1,h2⟩
 ·rw[hs] at h1
  have:=of_decide_eq_false h1
  exact .inl ⟨List.eq_nil_of_length_eq_zero (by omega),h2⟩
 ·rw[hs] at h1
  have:=of_decide_eq_true h1
  exact .inr ⟨fun e=>this (by rw[e];rfl),h2⟩
theorem zsO (h:prjU a n on V) {s ev:Int} (he:ev∈evC V.eds s):ev∈zbJ a on∧0≤stp3 V.eds s ev:=by
 have hm:=zex (zlV h.hU h.kp) he
 have h1:=h.og.ev _ hm
 have h2:=h.og.to _ hm
 exact⟨h1,h2.1⟩
theorem zpp (h:prjU a n on V):∀ (w:List Int) (i:Nat) (E:List Int) (s:Int),V.sts[i]? = some E→runG (stp3 V.eds) (fun _=>true) (evC V.eds) (i:Int) w=some s→(∀ e∈w,e∈zbJ a on)∧∃ j:Nat,s=(j:Int)∧V.sts[j]? = some (nxtL a.edges (lowP on [] false) n E w)
 | [],i,E,s,hE,hr=>by
  simp only[runG,Option.some.injEq] at hr
  exact⟨by simp,i,hr.symm,hE⟩
 | ev::w,i,E,s,hE,hr=>by
  simp only[runG] at hr
  by_cases c:ev∈evC V.eds i∧True
  ·rw[if_pos (by simpa using c)] at hr
   obtain⟨h1,h2⟩:=zsO h c.1
   rcases h.stp hE h1 with ⟨_,h4⟩ | ⟨_,j,h4,h5⟩
   ·omega
   ·rw[h4] at hr
    obtain⟨a1,j',a2,a3⟩:=zpp h w j _ s h5 hr
    refine⟨fun e he=>?_,j',a2,a3⟩
    rcases List.mem_cons.1 he with rfl | he
    ·exact h1
    ·exact a1 e he
  ·rw[if_neg (by simpa using c)] at hr;cases hr
theorem zjp (h:prjU a n on V) {i:Nat} {E:List Int} (hE:V.sts[i]? = some E):∃ z,obsQ (unfA (zbJ a on) V) i=some z∧z.2.length≤4096∧(∀ e∈z.2,e∈zbJ a on)∧nxtL a.edges (lowP on [] false) n (clo a.edges (lowP on [] false) n [0]) z.2=E:=by
 have hg:=h.og
 have hfew:=h.few
 have hi:=(List.getElem?_eq_some_iff.1 hE).1
 have hpw:=zlV h.hU h.kp
 obtain⟨L,l1,l2,l3,l4,l5⟩:=srch (V:=zix V.sts.length) (nx:=stp3 V.eds) (evs:=evC V.eds) (x0:=(0:Int)) (N:=4096) (zdE.2 (by omega)) (fun x _ ev he=>zdE.2 (hg.to _ (zex hpw he))) (by rw[zgF];omega)
 have hall:∀ k:Nat,k<V.sts.length→∃ z∈L,z.1=(k:Int):=by
  intro k
  induction k using Nat.strongRecOn with
  | ind k ih=>
   intro hk
   by_cases hk0:k=0
   ·subst hk0;exact⟨_,l1,rfl⟩
   ·obtain⟨e,he,h1,h2,h3⟩:=zkx h.hU.fr k (by omega) hk
    obtain⟨z,hz,hz1⟩:=ih e.1.toNat (by omega) (by omega)
    have hz1:z.1=e.1:=by omega
    have hev:e.2.1∈evC V.eds z.1:=by
     rw[hz1]
     exact List.mem_map.2 ⟨e,List.mem_filter.2 ⟨he,by simp⟩,rfl⟩
    obtain⟨w,hw,hw1⟩:=l2 z hz _ hev
    refine⟨w,hw,?_⟩
    rw[hw1,hz1,zcs hpw he,h1]
 obtain⟨z,hz⟩:=zjH (p:=fun z:Int × List Int=>decide (z.1=(i:Int))) (by obtain⟨z,h1,h2⟩:=hall i hi;exact⟨z,h1,by simpa using h2⟩)
 refine⟨z,?_,?_,?_⟩
 ·unfold obsQ
  exact (l5 _).trans hz
 ·obtain⟨j,hj⟩:=List.getElem?_of_mem (List.mem_of_find?_eq_some hz)
  have:=l4.wl j z hj
  have:=zeC l4
  have:=(List.getElem?_eq_some_iff.1 hj).1
  rw[zgF] at *
  omega
 ·have hr:=l3 z (List.mem_of_find?_eq_some hz)
  have hz1:z.1=(i:Int):=by have:=List.find?_some hz;simpa using this
  obtain⟨b1,j,b2,b3⟩:=zpp h z.2 0 _ _ h.fst hr
  rw[hz1] at b2
  have:j=i:=by omega
  subst this
  rw[hE] at b3
  exact⟨b1,(Option.some.inj b3).symm⟩
theorem zkv (h:gAut a n) (h0:0<n) (hn:n≤11) {obs:List Int} (hob:∀ e∈obs,e∈on) (hol:obs.length≤4096) {sts:List Int} (hs:∃ s∈sts,s∈nxtL a.edges (lowP on [] false) n (clo a.edges (lowP on [] false) n [0]) obs):∃ z,zeT a.edges on obs sts=some z:=by
 have hpw:=h.pw
 have hto:=h.to
 have hvl:(lsV n obs.length).length<100000:=by
  rw[zku]
  have:n * (obs.length+1)≤11 * 4097:=Nat.mul_le_mul hn (by omega)
  omega
 obtain⟨L,l1,l2,l3,l4,l5⟩:=srch (V:=lsV n obs.length) (nx:=nxQ a.edges on) (evs:=evQ a.edges on obs) (x0:=((0,0):LS)) (N:=100000) (zin ⟨by simp;omega,by simp⟩) (fun x hx ev he=>by
  have hx:=zp0 hx
  obtain⟨h1,h2⟩:=List.mem_filter.1 he
  refine zin ⟨hto _ (zex hpw h1),?_⟩
  show 0≤(if ev∈on then x.2+1 else x.2)∧(if ev∈on then x.2+1 else x.2)≤(obs.length:Int)
  by_cases c:ev∈on
  ·rw[if_pos c]
   unfold okQ at h2
   rw[decide_eq_true c] at h2
   simp only[Bool.not_true,Bool.false_or,decide_eq_true_eq] at h2
   have:=(List.getElem?_eq_some_iff.1 h2).1
   omega
  ·rw[if_neg c];exact hx.2) hvl
 have hclo:∀ (k:Nat) (m:List Int),(∀ s∈m,∃ z∈L,z.1=(s,(k:Int)))→∀ s,Rc a.edges (lowP on [] false) m s→∃ z∈L,z.1=(s,(k:Int)):=by
  intro k m hm s hr
  induction hr with
  | base hb=>exact hm _ hb
  | @step e hr he hp ih=>
   obtain⟨z,hz,hz1⟩:=ih
   have hno:e.2.1 ∉ on:=by
    unfold lowP at hp
    simpa using hp
   obtain⟨w,hw,hw1⟩:=l2 z hz e.2.1 (by
    rw[hz1]
    refine List.mem_filter.2 ⟨List.mem_map.2 ⟨e,List.mem_filter.2 ⟨he,by simp⟩,rfl⟩,?_⟩
    unfold okQ
    rw[decide_eq_false hno];rfl)
   refine⟨w,hw,?_⟩
   rw[hw1,hz1]
   show (stp3 a.edges e.1 e.2.1,if e.2.1∈on then ((k:Int))+1 else (k:Int))=_
   rw[if_neg hno,zcs hpw he]
 have hpre:∀ (r p:List Int),p++r=obs→(∀ s∈nxtL a.edges (lowP on [] false) n (clo a.edges (lowP on [] false) n [0]) p,∃ z∈L,z.1=(s,(p.length:Int)))→∀ s∈nxtL a.edges (lowP on [] false) n (clo a.edges (lowP on [] false) n [0]) obs,∃ z∈L,z.1=(s,(obs.length:Int)):=by
  intro r
  induction r with
  | nil=>
   intro p hp hq
   rw[List.append_nil] at hp
   subst hp
   exact hq
  | cons c r ih=>
   intro p hp hq
   refine ih (p++[c]) (by rw[List.append_assoc];exact hp) ?_
   intro s hs
   rw[zpN] at hs
   have hs:=((zio hto).1 hs).2
   have hlen:((p++[c]).length:Int)=((p.length+1:Nat):Int):=by simp
   rw[hlen]
   refine hclo (p.length+1) _ (fun t ht=>?_) s hs
   obtain⟨e,he,h1,h2,h3⟩:=zim.1 ht
   obtain⟨z,hz,hz1⟩:=hq e.1 h1
   have hgc:obs[p.length]? = some c:=by rw[← hp];simp
   have hcon:e.2.1∈on:=by rw[h2];exact hob c (by rw[← hp];simp)
   obtain⟨w,hw,hw1⟩:=l2 z hz e.2.1 (by
    rw[hz1]
    refine List.mem_filter.2 ⟨List.mem_map.2 ⟨e,List.mem_filter.2 ⟨he,by simp⟩,rfl⟩,?_⟩
    unfold okQ
    rw[decide_eq_true hcon]
    simp only[Int.toNat_natCast,hgc,h2,decide_true,Bool.or_true])
   refine⟨w,hw,?_⟩
   rw[hw1,hz1]
   show (stp3 a.edges e.1 e.2.1,if e.2.1∈on then ((p.length:Nat):Int)+1 else ((p.length:Nat):Int))=_
   rw[if_pos hcon,zcs hpw he,h3]
   simp
 obtain⟨s,hs1,hs2⟩:=hs
 obtain⟨z,hz,hz1⟩:=hpre obs [] rfl (fun s hs=>hclo 0 [0] (fun t ht=>by rw[List.mem_singleton] at ht;subst ht;exact⟨_,l1,rfl⟩) s ((zio hto).1 hs).2) s hs2
 obtain⟨z',hz'⟩:=zjH (p:=fun z:LS × List Int=>badQ obs sts z.1) ⟨z,hz,by rw[hz1];unfold badQ;simp[hs1]⟩
 exact⟨z',by unfold zeT;exact (l5 _).trans hz'⟩
end
theorem zt1 {x:Sys} (hx:gSys x) (hsm:smallS x) (hV:(lpV x).length≤4095) (hn:(lpR x).2.length≤11) (hin:∀ z∈(lpR x).2,0≤z.1∧z.1<x.p.states):tornOk x (lpR x).1 (lpR x).2 (esR x).1 (esR x).2:=by
 obtain⟨hg,hal⟩:=lp_g hx hV
 have hst:stOk x (lpR x).1 (lpR x).2:=⟨hx,hsm,hg,hin,by omega⟩
 obtain⟨eg,eal,ein⟩:=es_g hx hV (by omega)
 have hsub:∀ est,est∈subs (lpR x).2.length→est.Pairwise (· < ·):=fun est h=>zei h
 by_cases h0:(lpR x).2.length=0
 ·have he:(esR x).2=[]:=by unfold esR;rw[if_pos h0]
  refine⟨hst,eg,by rw[he];simp,by omega,by rw[he];simp,by rw[he];simp,fun i est h=>by rw[he] at h;simp at h,fun i est h=>by rw[he] at h;simp at h⟩
 ·obtain⟨V,hU⟩:=zvr hg (by omega) hn x.ob
  have he:esR x=(unfA (zbJ (lpR x).1 x.ob) V,V.sts):=by unfold esR;rw[if_neg h0,hU.hV]
  rw[he] at eg ⊢
  have hfew:=hU.few
  have hkob:∀ e∈zbJ (lpR x).1 x.ob,e∈x.ob:=fun e h=>by have:=(List.mem_filter.1 h).2;simpa using this
  refine⟨hst,eg,by show V.sts.length≤4095;omega,by omega,fun est h=>hsub est (hU.hU.ok est h).1,fun est h=>⟨(hU.hU.ok est h).2,by have:=(zbP (hU.hU.ok est h).1).1;omega,(zbP (hU.hU.ok est h).1).2⟩,fun i est h=>?_,fun i est h sts hs h1=>?_⟩
  ·obtain⟨z,z1,z2,_⟩:=zjp hU h
   refine⟨⟨z,z1⟩,?_⟩
   unfold obsW
   simp only[z1]
   exact z2
  ·obtain⟨z,z1,z2,z3,z4⟩:=zjp hU h
   have hw:obsW (unfA (zbJ (lpR x).1 x.ob) V) i=z.2:=by unfold obsW;simp only[z1]
   show ∃ z,zeT (lpR x).1.edges x.ob (obsW (unfA (zbJ (lpR x).1 x.ob) V) i) sts=some z
   rw[hw]
   refine zkv hg (by omega) hn (fun e he=>hkob e (z3 e he)) z2 ?_
   cases hsts:sts with
   | nil=>rw[hsts] at h1;simp at h1
   | cons s r=>exact⟨s,by simp,by rw[z4];exact hs s (by rw[hsts];simp)⟩
end Go.AI


namespace Go.AI
open Go.Proofs
set_option maxRecDepth 20000
end Go.AI


namespace Go.AI
open Go.Proofs
set_option maxRecDepth 20000
def back (frm:List (Int × Int)):Nat→Int × Int→List Int
 | 0,_=>[]
 | f+1,p=>if p.1<0 then [] else p.2::back frm f (frm.getD p.1.toNat (-1,-1))
structure Linked (S:Srch):Prop where
 len:S.frm.length=S.sts.length
 frm:∀ k (h:k<S.frm.length),S.frm[k].1<k
 flt:S.flt.1<S.sts.length
 most:S.sts.length≤4096
end Go.AI


namespace Go.AI
open Go.Proofs
set_option maxRecDepth 20000
end Go.AI


namespace Go.AI
open Go.Proofs
set_option maxRecDepth 20000
end Go.AI


namespace Go.AI
set_option maxRecDepth 20000
section
variable {h:Int} (h1:1≤h) (h2:h≤8191)
include h1 h2
variable {k:Int} (k1:0≤k) (k2:k≤h)
omit h1 in
include k1 k2 in
include k1 k2 in
omit h1 in
include k1 k2 in
omit h1 in
include k1 k2 in
omit h1 in
include k1 k2 in
include k1 k2 in
include k1 k2 in
end
end Go.AI


namespace Go.AI
set_option maxRecDepth 20000
section
variable {H:Nat} (h1:1≤H) (h2:H≤8191)
include h1 h2
end
end Go.AI


namespace Go.AI
open Go.Proofs
set_option maxRecDepth 20000
theorem ASpecT.co {g:Nat} {tab:Obj} {P:Program} {f:FuncId} {args args':List D} {O O':List Heap} {res:D} {Hr:Heap} (h:ASpecT g tab P f args' O res Hr O') (hc:CoDL args args'):ASpecT g tab P f args O res Hr O':=
 fun E K ρ w vs hw ht hr=>h E K ρ w vs hw ht (hc.rep hr)
end Go.AI


namespace Go.AI
open Go.Proofs
set_option maxRecDepth 20000
theorem zvC {x:Sys} (hx:gSys x) (hV:(lpV x).length≤4095):∀ z∈(lpR x).2,lpIn x z:=by
 unfold lpR
 by_cases h0:0<x.p.states∧0<x.s.states
 ·obtain⟨V,hV1,hU⟩:=zgx hx h0 (by omega)
  rw[if_pos h0,hV1]
  exact hU.ok
 ·rw[if_neg h0]
  simp
theorem zsh {x:Sys} (hx:gSys x) (hs:smallS x) (h64:x.p.states≤64∧x.s.states≤64) (hV:(lpV x).length≤4095) (hn:(lpR x).2.length≤11):obOk x:=
 ⟨hs,hx,h64,hV,by omega,zt1 hx hs hV hn fun z hz=>(zvC hx hV z hz).1⟩
def exP:Aut:=⟨[0,1,2],4,[0],[(0,0,1),(0,1,2),(1,2,3),(2,2,3)]⟩
def exQ:Aut:=⟨[0,1,2],4,[0],[(0,0,1),(0,1,2),(1,2,3)]⟩
abbrev exX (ob ct:List Int):Sys:=⟨exP,exQ,ob,ct⟩
theorem ex_g {ob ct:List Int} (h1:zal 32 ob none=0) (h2:zal 32 ct none=0) (h3:∀ e∈ob,e∈exP.alpha) (h4:∀ e∈ct,e∈exP.alpha):gSys (exX ob ct):=⟨by kernel_rfl,by kernel_rfl,rfl,h1,h2,h3,h4⟩
theorem zwy:smallA exP:=⟨by decide,by decide,by decide⟩
theorem zwx:smallA exQ:=⟨by decide,by decide,by decide⟩
theorem ex_s {ob ct:List Int} (h1:ob.length≤1000000) (h2:ct.length≤1000000):smallS (exX ob ct):=⟨zwy,zwx,h1,h2⟩
theorem zwv:(lpR (exX [0,1] [2])).2.length=4:=by kernel_rfl
theorem zwu:(lpR (exX [2] [2])).2.length=4:=by kernel_rfl
theorem zwt:(lpR (exX [2] [])).2.length=4:=by kernel_rfl
theorem ztB:obOk (exX [0,1] [2]):=zsh (ex_g (by decide) (by decide) (by decide) (by decide)) (ex_s (by decide) (by decide)) ⟨by decide,by decide⟩ (by rw[zgy];decide) (by rw[zwv];decide)
theorem zvV:obOk (exX [2] [2]):=zsh (ex_g (by decide) (by decide) (by decide) (by decide)) (ex_s (by decide) (by decide)) ⟨by decide,by decide⟩ (by rw[zgy];decide) (by rw[zwu];decide)
theorem zvU:obOk (exX [2] []):=zsh (ex_g (by decide) (by decide) (by decide) (by decide)) (ex_s (by decide) (by decide)) ⟨by decide,by decide⟩ (by rw[zgy];decide) (by rw[zwt];decide)
theorem zvT:zds (exX [0,1] [2])=none:=by kernel_rfl
theorem zws:zds (exX [2] [2])=some ([0],[1],2):=by kernel_rfl
theorem zwr:zds (exX [2] [])=none:=by kernel_rfl
theorem zww:ctlR (exX [0,1] [2]) (lpR (exX [0,1] [2])).1 (esR (exX [0,1] [2])).2=[[],[2],[]]:=by kernel_rfl
theorem zsU (O:List Heap) (l:List Edg) (hl:l.length≤1000000):zan Tryz.prog 105 [edgs l] O (edgs l) [] O:=by
 refine zad Tk Tryz.func105 rfl Tryz.call105 Tryz.ntmps105 (Nat.le_of_ble_eq_true rfl) fun E=>?_
 refine zae Tk Tryz.func105 ?_
 refine zqn Tk Tryz.func105 rfl rfl fun b hb=>?_
 refine zai Tk Tryz.func105 rfl (fun h1=>?_) (fun h1=>?_)
 ·have hl0:l=[]:=List.eq_nil_of_length_eq_zero (hb h1)
  subst hl0
  refine zb4 Tk (r:=.i (.v (.slice none 0 0))) rfl rfl rfl trivial rfl rfl ?_
  exact zft zb1
 ·refine zag Tk Tryz.func105 (by exact⟨by show (0+l.length) * 24≤140737488355328;omega,by show 0+l.length≤9223372036854775807;omega⟩) ?_
  refine zcG (ziV (l:=[(2,.osl 0 7)]) (Hv:=[(7,.arr 117 3 (0+l.length) ([]++l.map edgI) true)]) ⟨rfl,trivial⟩ rfl ⟨rfl,trivial⟩ rfl rfl) ?_
  rw[Nat.zero_add,List.nil_append]
  refine zcG (zao 7 rfl rfl) ?_
  refine zak Tk (r:=edgs l) rfl rfl rfl trivial rfl rfl ?_
  rfl
theorem zqA (O:List Heap) (ob:List Int):zan Tryz.prog 50 [ints ob] O (sysD (exX ob [2])) [] O:=by
 have h1:=fun O=>zsU O exQ.edges (by decide)
 refine zad Tk Tryz.func50 rfl Tryz.call50 Tryz.ntmps50 (Nat.le_of_ble_eq_true rfl) fun E=>?_
 refine zae Tk Tryz.func50 ?_
 refine zag Tk Tryz.func50 (by exact⟨by decide,by decide⟩) ?_
 refine zaf Tk Tryz.func50 (h1 _) rfl rfl rfl rfl rfl ?_
 refine zak Tk (r:=sysD (exX ob [2])) rfl rfl rfl trivial rfl rfl ?_
 rfl
theorem zuA {g:Nat} (hg:zfH g) {ty:TypeId} {fr:Nat × Nat} (O:List Heap):ASpecT g (ptab ty fr) Tryz.prog 12 [] O (bb true) [] O:=by
 have hA:=fun O=>zcI hg (ty:=ty) (fr:=fr) O _ ztB
 rw[zvT] at hA
 have hB:=fun O=>zcI hg (ty:=ty) (fr:=fr) O _ zvV
 rw[zws] at hB
 have hC:=fun O=>zcI hg (ty:=ty) (fr:=fr) O _ zvU
 rw[zwr] at hC
 have hD:=fun O=>zkH hg (ty:=ty) (fr:=fr) O _ ztB (by rw[zvT];rfl)
 rw[zww] at hD
 obtain⟨⟨oal,ost,omk,oes⟩,hM⟩:∃ o,o=(esR (exX [0,1] [2])).1:=⟨_,rfl⟩
 rw[← hM] at hD
 have hX:=fun O ob=>zqA O ob
 have hC:∀ O,ASpecT g (ptab ty fr) Tryz.prog 14 [.agg [ints [0,1,2],ii 4,ints [0],edgs exP.edges,ints [0,1,2],ii 4,ints [0],edgs exQ.edges,ints [2],.i (.v (.slice none 0 0))]] O _ [] O:=fun O=>(hC O).co (by
  repeat' (first | refine zcT ?_ | refine zcU ?_ | refine zft ?_ | refine CoDL.cons ?_ ?_ | exact CoDL.nil | exact zb1 | refine zdO ?_ | refine CoLL.cons ?_ ?_ | exact CoLL.nil | refine CoL.cons ?_ ?_ | exact CoL.nil | exact CoI.refl _ | exact CoL.refl _ | exact CoLL.refl _ | exact CoDL.refl _ | exact CoD.refl _)
  )
 refine zaV [] Tk Tryz.func12 rfl Tryz.call12 Tryz.ntmps12 (Nat.le_of_ble_eq_true rfl) fun E hE=>?_
 refine zae Tk Tryz.func12 ?_
 refine zaf Tk Tryz.func12 (hX _ [0,1]) rfl rfl rfl rfl rfl ?_
 refine zbe Tk Tryz.func12 hE (hA _) rfl rfl rfl rfl rfl rfl ?_
 refine zaf Tk Tryz.func12 (hX _ [2]) rfl rfl rfl rfl rfl ?_
 refine zbe Tk Tryz.func12 hE (hB _) rfl rfl rfl rfl rfl rfl ?_
 refine zaf Tk Tryz.func12 (hX _ [2]) rfl rfl rfl rfl rfl ?_
 refine zbe Tk Tryz.func12 hE (hC _) rfl rfl rfl rfl rfl rfl ?_
 refine zaf Tk Tryz.func12 (hX _ [0,1]) rfl rfl rfl rfl rfl ?_
 refine zbe Tk Tryz.func12 hE (hD _) rfl rfl rfl rfl rfl rfl ?_
 clear hA hB hC hD hX hM
 refine zaF Tk Tryz.func12 zaM rfl ?_
 refine skT Tk ?_
 refine skT Tk ?_
 refine skT Tk ?_
 refine skT Tk ?_
 refine skT Tk ?_
 refine skT Tk ?_
 refine skT Tk ?_
 refine zaU Tk (fun _=>zdM _ [0] [0] (by decide)) rfl rfl rfl ?_
 refine skT Tk ?_
 refine zaU Tk (fun _=>zdM _ [1] [1] (by decide)) rfl rfl rfl ?_
 refine skT Tk ?_
 refine skT Tk ?_
 refine skT Tk ?_
 refine zaz Tk (by exact⟨by decide,by decide⟩) ?_
 refine zaK Tk (rfl) ?_
 refine zaU Tk (fun _=>zdM _ [2] [2] (by decide)) rfl rfl rfl ?_
 refine skT Tk ?_
 refine zaz Tk (by exact⟨by decide,by decide⟩) ?_
 refine zaK Tk (rfl) ?_
 refine zaz Tk (by exact⟨by decide,by decide⟩) ?_
 refine zaK Tk (rfl) ?_
 refine zaQ Tk Tryz.func12 (by kernel_rfl) ?_
 refine zak Tk (r:=bb true) rfl rfl rfl trivial rfl rfl ?_
 rfl
end Go.AI


namespace Go.AI
open Go.Proofs
set_option maxRecDepth 20000
structure lenS (x:Sys):Prop where
 pa:x.p.alpha.length≤zas
 pm:x.p.marked.length≤zas
 pe:x.p.edges.length≤zas
 sa:x.s.alpha.length≤zas
 sm:x.s.marked.length≤zas
 se:x.s.edges.length≤zas
 ob:x.ob.length≤zas
 ct:x.ct.length≤zas
end Go.AI


namespace Go.Proofs.YtlcekmemdnjjbaaGreatDoor
open Go.ChangeShapes Go.WideShapes Go.ChangeAt Go.RowKit
set_option maxRecDepth 100000
theorem Tryz.own:ownKnob Tryz.prog.godebug=none:=by kernel_rfl
theorem powG : Tryz.prog.globalNamed "internal/strconv.uint64pow10" = some 0 := by kernel_rfl
theorem zvJ:AI.zfH 0:=fun _ _ _ h=>AI.zrJ powG h
theorem zj6 {W : World} (h : laidMetH Tryz.prog [("math/bits.deBruijn32tab", Rows.laid_math_bits_deBruijn32tab), ("math/bits.deBruijn64tab", Rows.laid_math_bits_deBruijn64tab), ("internal/strconv.uint64pow10", Rows.laid_internal_strconv_uint64pow10)] W) :
  ∃ ty fr,W.heap[0]? = some (AI.ptab ty fr):=by
 rw[MakeChecks.laidMetH_plain _ _ _ (by kernel_rfl)] at h
 have h3:=laidMet.tail (laidMet.tail h)
 have hT : Lib.TabIs Tryz.prog W "internal/strconv.uint64pow10" .u64 Lib.pow10Tab :=
  Lib.tabIs_of_head (t:=312) (e:=277) (n:=20) powG (by kernel_rfl) (by kernel_rfl) (by kernel_rfl) (by kernel_rfl) (by kernel_rfl) (rest:=[]) h3
 unfold Lib.TabIs World.var? at hT
 rw[powG] at hT
 simp only[Option.bind_some] at hT
 cases hc:W.heap[0]? with
 | none=>rw[hc] at hT;cases hT
 | some o=>
  rw[hc] at hT
  cases o with
  | cells cs ty fr=>
   simp only[Option.some.injEq] at hT
   subst hT
   exact⟨ty,fr,rfl⟩
  | _=>cases hT
theorem zsW {f:FuncId} {args:List AI.D} {vs:List Value} {b:Bool} {W:World} {ty:TypeId} {fr:Nat × Nat} (h0:W.heap[0]? = some (AI.ptab ty fr))
  (hcall:∀ a w,(callFunc f a).run Tryz.prog w = .ok (.enter f a) w) (hs:AI.ASpecT 0 (AI.ptab ty fr) Tryz.prog f args [] (AI.bb b) [] [])
  {K:AI.Kn} (hK:∀ bl o x,K bl o=some x→W.cell? ⟨bl,o,none⟩=some x) (hr:∀ ρ sh,AI.RepDL K ρ sh vs args) :
  Calls Tryz.prog f vs.toArray W fun e W'=>e = .returned (.bool b)∧(∀ i,i<W.heap.size→W'.heap[i]? = W.heap[i]?)∧W'.os=W.os∧W'.output=W.output:=by
 let ρ:Nat→Nat→AI.Loc:=fun _ _=>⟨0,0,none⟩
 have hobj:∀ d n,AI.zaa [] d n=none:=fun d n=>by simp[AI.zaa]
 have hI:AI.HInv (AI.Env.of K ρ W) K ρ [] W:=
  ⟨hK,(fun d n ob e=>absurd ((hobj d n).symm.trans e) (by simp)),(fun d n ob d' n' ob' e=>absurd ((hobj d n).symm.trans e) (by simp)),Nat.le_refl _,fun _ _ _=>rfl,(fun n ob e=>absurd ((hobj 0 n).symm.trans e) (by simp)),fun _=>rfl,fun _ _ _ h=>h,fun _ _ _ h=>.inl h,rfl,rfl,rfl⟩
 have ht:AI.TabQ 0 (AI.ptab ty fr) [] ρ W:=⟨h0,fun d n x e=>by simp[AI.shape,hobj] at e⟩
 rcases hs _ K ρ W vs hI ht (hr _ _) with ⟨_,h⟩ | ⟨v,w',h,_⟩
 ·refine h.mono fun e W'=>?_
  rintro ⟨v,rfl,K',ρ',h1,h2⟩
  obtain rfl:=AI.zaL h2
  refine⟨rfl,fun i hi=>h1.old i hi fun d n ob e=>?_,h1.rest.2.1,h1.rest.2.2⟩
  simp[AI.zaa] at e
 ·rw[hcall] at h
  cases h
theorem zuD {W W':World} {P:MemPlace→Prop} (h:∀ i,i<W.heap.size→W'.heap[i]? = W.heap[i]?) (h1:W'.os=W.os) (h2:W'.output=W.output):W.keptBut W' P:=by
 refine⟨h1,h2,fun i hi=>?_⟩
 rw[h i hi]
 exact (World.keptBut_refl W P).2.2 i hi
end Go.Proofs.YtlcekmemdnjjbaaGreatDoor


namespace Go.Proofs.YtlcekmemdnjjbaaGreatDoor
open Go.ChangeShapes Go.WideShapes Go.ChangeAt Go.RowKit Go.Deep Go.WideElems
set_option maxRecDepth 100000
def KW (W:World):AI.Kn:=fun b o=>W.cell? ⟨b,o,none⟩
theorem zwH (W:World):∀ bl o x,KW W bl o=some x→W.cell? ⟨bl,o,none⟩=some x:=fun _ _ _ h=>h
section
variable {H:Type} {enc:TypeId × Value→H} {P:Program} {W:World}
def Opn (enc:TypeId × Value→H) (P:Program) (W:World) (t:TypeId) (R:List AI.I→Prop):Prop:=
 ∀ n cs x,DataW.trod enc P W 0 (fun _=>true) true n t cs=some x→∃ is,AI.RepL (KW W) cs is∧R is
theorem zfK {K:AI.Kn} {a b:List Value} {c d:List AI.I} (h:AI.RepL K a c) (h':AI.RepL K b d):AI.RepL K (a++b) (c++d):=h.append h'
theorem zgm {t:TypeId} {k:IntKind} (ht:P.underlying t=some (.int k)):Opn enc P W t fun is=>∃ z,is=[.v (.int k z)]∧(Lit.int k z).wf=true:=by
 intro n cs x h
 obtain⟨z,rfl,rfl,hw⟩:=DataW.trod_int ht h
 exact⟨[.v (.int k z)],.cons (.v rfl) .nil,z,rfl,hw⟩
theorem zmu {K:AI.Kn} {k:IntKind}:∀ {cs:List Value},(∀ i,i<cs.length→∃ z,cs[i]? = some (.int k z)∧(Lit.int k z).wf=true)→∃ zs:List Int,zs.length=cs.length∧AI.RepL K cs (zs.map fun z=>.v (.int k z))∧∀ z∈zs,(Lit.int k z).wf=true
 | [],_=>⟨[],rfl,.nil,by simp⟩
 | c::cs,h=>by
  obtain⟨z,hz,hw⟩:=h 0 (by simp)
  simp only[List.getElem?_cons_zero,Option.some.injEq] at hz
  subst hz
  obtain⟨zs,h1,h2,h3⟩:=zmu (cs:=cs) fun i hi=>by
   have:=h (i+1) (by simp;omega)
   simpa using this
  exact⟨z::zs,by simp[h1],.cons (.v rfl) h2,fun y hy=>by
   rcases List.mem_cons.1 hy with rfl | hy
   ·exact hw
   ·exact h3 y hy⟩
theorem zpJ {t e:TypeId} {k:IntKind} {m:Nat} (ht:P.underlying t=some (.array m e)) (he:P.underlying e=some (.int k)) (hc:P.cellsOf e=1) (hct:P.cellsOf t=m) :
  Opn enc P W t fun is=>∃ zs:List Int,zs.length=m∧is=zs.map (fun z=>.v (.int k z))∧∀ z∈zs,(Lit.int k z).wf=true:=by
 intro n cs x h
 obtain⟨xs,f,rfl,rfl,hl,hlen,hx⟩:=DataW.trod_array ht h
 rw[hct] at hl
 obtain⟨zs,h1,h2,h3⟩:=zmu (K:=KW W) (k:=k) (cs:=cs) fun i hi=>by
  have h0:=hx i (by omega)
  rw[hc,Nat.mul_one,List.getElem?_eq_getElem (by omega)] at h0
  obtain⟨z,hz,_,hw⟩:=DataW.trod_int he h0
  refine⟨z,?_,hw⟩
  have:=congrArg (fun l=>l[0]?) hz
  simpa [List.getElem?_take,List.getElem?_drop] using this
 exact⟨_,h2,zs,by omega,rfl,h3⟩
theorem zko {t:TypeId} {f0 f1 f2:Field} {R0 R1 R2:List AI.I→Prop} {z0 z1 z2:Nat} (ht:P.underlying t=some (.struct #[f0,f1,f2])) (hc:P.cellsOf t=z0+z1+z2)
  (c0:P.cellsOf f0.type=z0) (c1:P.cellsOf f1.type=z1) (c2:P.cellsOf f2.type=z2) (o0:f0.offset=0) (o1:f1.offset=z0) (o2:f2.offset=z0+z1)
  (h0:Opn enc P W f0.type R0) (h1:Opn enc P W f1.type R1) (h2:Opn enc P W f2.type R2):Opn enc P W t fun is=>∃ a b c,is=a++b++c∧R0 a∧R1 b∧R2 c:=by
 intro n cs x h
 obtain⟨y0,y1,y2,m,_,hl,g0,g1,g2⟩:=trod_struct3 ht h
 obtain⟨a,ra,ha⟩:=h0 _ _ _ g0
 obtain⟨b,rb,hb⟩:=h1 _ _ _ g1
 obtain⟨c,rc,hcc⟩:=h2 _ _ _ g2
 refine⟨a++b++c,?_,a,b,c,rfl,ha,hb,hcc⟩
 have e:cs=(cs.drop f0.offset).take (P.cellsOf f0.type)++(cs.drop f1.offset).take (P.cellsOf f1.type)++(cs.drop f2.offset).take (P.cellsOf f2.type):=by
  rw[c0,c1,c2,o0,o1,o2,List.drop_zero]
  have e1:(cs.drop (z0+z1)).take z2=cs.drop (z0+z1):=List.take_of_length_le (by simp;omega)
  rw[e1]
  have e2:cs.drop (z0+z1)=(cs.drop z0).drop z1:=by rw[List.drop_drop]
  rw[e2,List.append_assoc,List.take_append_drop,List.take_append_drop]
 rw[e]
 exact zfK (zfK ra rb) rc
theorem zom {t:TypeId} (hl:laidOutB P=true) (hr:P.readableRec t=true) (hrow:decide (t<P.types.size)=true) {W':World} {v:Value} {d:DataW H} {ps:List MemPlace}
  (h:DataW.Trod enc P W 0 (fun _=>true) true t v d ps) (hold:∀ i,i<W.heap.size→W'.heap[i]? = W.heap[i]?):DataW.Trod enc P W' 0 (fun b=>decide (b<W.heap.size)) true t v d ps:=by
 have hlt:∀ p∈ps,p.block<W.heap.size:=by
  obtain⟨n,hn⟩:=h
  exact DataW.trod_lt n t _ _ hn
 refine Trod_stays hl hr (of_decide_eq_true hrow) h (fun p hp=>?_) (fun p hp=>decide_eq_true (hlt p hp))
 have hb:=hlt p hp
 cases p with
 | cell b off=>
  show W'.cell? ⟨b,off,none⟩=W.cell? ⟨b,off,none⟩
  unfold World.cell?
  rw[hold b hb]
 | map b=>exact hold b hb
end
end Go.Proofs.YtlcekmemdnjjbaaGreatDoor


namespace Go.Proofs.YtlcekmemdnjjbaaGreatDoor
open Go.ChangeShapes Go.WideShapes Go.ChangeAt Go.RowKit Go.Deep Go.WideElems
set_option maxRecDepth 100000
section
variable {H:Type} {enc:TypeId × Value→H} {W:World}
theorem wf_u8 {z:Int} (h:(Lit.int .u8 z).wf=true):0≤z∧z≤255:=by
 simp only[Lit.wf,Bool.and_eq_true,decide_eq_true_eq] at h
 have e1:IntKind.u8.min=0:=rfl
 have e2:IntKind.u8.max=255:=rfl
 rw[e1,e2] at h
 exact h
structure autLen (x:AI.Aut):Prop where
 e:x.edges.length≤AI.zas
 a:x.alpha.length≤AI.zas
 m:x.marked.length≤AI.zas
end
end Go.Proofs.YtlcekmemdnjjbaaGreatDoor


namespace Go.Proofs.YtlcekmemdnjjbaaGreatDoor
open Go.ChangeShapes Go.WideShapes Go.ChangeAt Go.RowKit Go.Deep Go.WideElems
set_option maxRecDepth 100000
section
variable {H:Type} {enc:TypeId × Value→H} {W:World}
end
end Go.Proofs.YtlcekmemdnjjbaaGreatDoor


namespace Go.AI
open Go.Proofs
set_option maxRecDepth 20000
theorem ziI (O:List Heap) (R:Heap) (l:List Int) (nm f cb:Nat) (B:Ob) (p:Int→Bool) (hl:l.length≤1000000) (hB:zaa O 0 cb=some B) (hR:zaS nm R=R)
  (hp:∀ x∈l,∀ d O,zaa O d cb=some B→zan Tryz.prog f [ii x,.own d cb 0 0] O (bb (p x)) [] O) :
  zj3 Tryz.prog 54 [.osl 0 nm,.fn (.func f) [] [.own 1 cb 0 0]] (((nm,zat l)::R)::O) nm (.osl 1 nm) [] (((nm,zat (l.filter fun x=>!p x))::R)::O):=by
 have hcb:∀ m:List Int,zaa (((nm,zat m)::R)::O) 1 cb=some B:=fun m=>zaD hB
 have hnm:∀ m:List Int,zaa (((nm,zat m)::R)::O) 0 nm=some (zat m):=fun m=>by simp[zaa,zab]
 have hix:=fun H=>ztv (H::((nm,zat l)::R)::O) l 1 nm (zaD (hnm l)) f 2 cb p (by simp only[zas];omega) (fun x hx=>hp x hx _ _ (zaD (zaD (hcb l))))
 have hpx:∀ x∈l,∀ m:List Int,∀ H,zan Tryz.prog f [ii x,.own 2 cb 0 0] (H::((nm,zat m)::R)::O) (bb (p x)) [] (H::((nm,zat m)::R)::O):=fun x hx m H=>hp x hx _ _ (zaD (hcb m))
 have hsp:=zeu p l 0
 generalize zax p l 0=ix at *
 refine zeD nm [200038,200041] Tk Tryz.func54 rfl Tryz.call54 Tryz.ntmps54 (Nat.le_of_ble_eq_true rfl) fun E=>?_
 refine zae Tk Tryz.func54 ?_
 refine zaf Tk Tryz.func54 (hix _) rfl rfl rfl rfl rfl ?_
 refine zai Tk Tryz.func54 rfl (fun c1=>?_) (fun c1=>?_)
 ·have c1:ix = -1:=beqT c1
  rcases hsp with ⟨_,h2⟩ | ⟨k,hk,h1,_⟩
  ·have e:l.filter (fun x=>!p x)=l:=List.filter_eq_self.2 fun x hx=>by rw[h2 x hx];rfl
   rw[e]
   refine zjC Tk (nm:=nm) (r:=.osl 1 nm) (Moved.refl _ _) rfl rfl rfl trivial rfl rfl rfl
  ·omega
 have c1:ix ≠ -1:=beqF c1
 rcases hsp with ⟨h1,_⟩ | ⟨k,hk,h1,h2,h3⟩
 ·exact absurd h1 c1
 rw[Nat.zero_add] at h1
 subst h1
 clear c1 hix
 have hob:∀ m:List Int,∀ H,zaa (H::((nm,zat m)::R)::O) 1 nm=some (zat m):=fun m H=>zaD (hnm m)
 have hw1:ii (IntKind.i64.wrap ((k:Int)+1))=ii ((k+1:Nat):Int):=congrArg ii (zaC (n:=1000001) (by omega) (by decide))
 have hst0:l.take k=(l.take (k+1)).filter fun x=>!p x:=by
  rw[List.take_add_one,List.getElem?_eq_getElem hk,List.filter_append]
  rw[List.filter_eq_self.2 fun x hx=>by rw[h3 x hx];rfl]
  simp[h2]
 refine zac ?_
 refine zah (fun x:Nat × Nat × List Int=>[(0,.osl 1 nm),(1,.fn (.func f) [] [.own 2 cb 0 0]),(5,ii x.1),(6,ii x.2.1)]) (fun _=>[]) (fun x=>((nm,zat x.2.2)::R)::O) 42
  (fun x=>x.1<x.2.1∧x.2.1≤l.length∧x.2.2.length=l.length∧x.2.2.take x.1=((l.take x.2.1).filter fun x=>!p x)∧x.2.2.drop x.2.1=l.drop x.2.1) (fun x=>l.length - x.2.1) (k,k+1,l)
  ⟨Nat.lt_succ_self _,hk,rfl,hst0,rfl⟩ ⟨rfl,rfl,rfl,hw1,trivial⟩ rfl trivial rfl rfl ?_
 clear hst0 hw1 h2 h3 hk
 rintro ⟨i,j,m⟩ ⟨hij,hjl,hml,htk,hdr⟩ ih
 simp only at hij hjl hml htk hdr
 refine zae Tk Tryz.func54 ?_
 refine zba Tk Tryz.func54 (hob m _) ?_
 refine zai Tk Tryz.func54 rfl (fun g1=>?_) (fun g1=>?_)
 ·have h1:j<l.length:=by rw[← hml];simpa using g1
  clear g1
  have hmj:m[j]? = some l[j]:=by
   have e1:(m.drop j)[0]? = (l.drop j)[0]?:=by rw[hdr]
   rw[List.getElem?_drop,List.getElem?_drop,Nat.add_zero] at e1
   rw[e1,List.getElem?_eq_getElem h1]
  have gm:(m.map fun x=>[vi x])[(j:Int).toNat]? = some [vi l[j]]:=by rw[Int.toNat_natCast,List.getElem?_map,hmj];rfl
  have hpj:=hpx _ (List.getElem_mem h1)
  have htk2:l.take (j+1)=l.take j++[l[j]]:=by rw[List.take_add_one,List.getElem?_eq_getElem h1];rfl
  have hdr2:∀ m':List Int,m'.drop (j+1)=(m'.drop j).drop 1:=fun m'=>by rw[List.drop_drop]
  generalize l[j]=x at *
  have hj1:ii (IntKind.i64.wrap ((j:Int)+1))=ii ((j+1:Nat):Int):=congrArg ii (zaC (n:=1000001) (by omega) (by decide))
  have hi1:ii (IntKind.i64.wrap ((i:Int)+1))=ii ((i+1:Nat):Int):=congrArg ii (zaC (n:=1000001) (by omega) (by decide))
  refine zba Tk Tryz.func54 (hob m _) ?_
  refine zag Tk Tryz.func54 (by exact⟨by omega,by show (j:Int)<(m.length:Int);omega⟩) ?_
  refine zba Tk Tryz.func54 (hob m _) ?_
  refine zap Tk Tryz.func54 (gm) ?_
  refine zaf Tk Tryz.func54 (hpj m _) rfl rfl rfl rfl rfl ?_
  refine zai Tk Tryz.func54 rfl (fun g2=>?_) (fun g2=>?_)
  ·have g2:p x=false:=notT g2
   refine zba Tk Tryz.func54 (hob m _) ?_
   refine zag Tk Tryz.func54 (by exact⟨by omega,by show (i:Int)<(m.length:Int);omega⟩) ?_
   refine zba Tk Tryz.func54 (hob m _) ?_
   refine zac ?_
   refine zaq (wk_S (S':=[]::((nm,zat (m.set i x))::R)::O) fun d n=>?_) ?_
   ·have e:Ob.arr 3 1 m.length ((m.map fun x=>[vi x]).set (i:Int).toNat [vi x]) true=zat (m.set i x):=by
     rw[Int.toNat_natCast]
     simp[List.map_set]
    rw[← e]
    exact zjq d n
   refine ih (i+1,j+1,m.set i x) _ _ ⟨by simp only;omega,h1,by simp only[List.length_set];exact hml,?_,?_⟩ (by simp only;omega) ⟨rfl,rfl,hi1,hj1,trivial⟩ rfl trivial rfl rfl
   ·simp only
    rw[htk2,List.filter_append,← htk,List.take_add_one,List.getElem?_set_self (by omega),List.take_set_of_le (Nat.le_refl i)]
    simp[g2]
   ·simp only
    rw[List.drop_set_of_lt (by omega),hdr2,hdr2,hdr]
  ·have g2:p x=true:=notF g2
   refine zac ?_
   refine ih (i,j+1,m) _ _ ⟨by simp only;omega,h1,hml,?_,?_⟩ (by simp only;omega) ⟨rfl,rfl,rfl,hj1,trivial⟩ rfl trivial rfl rfl
   ·simp only
    rw[htk2,List.filter_append,← htk]
    simp[g2]
   ·simp only
    rw[hdr2,hdr2,hdr]
 ·have h1:l.length≤j:=by rw[← hml];simpa using g1
  rw[List.take_of_length_le h1] at htk
  clear ih hdr g1
  have hin:i<m.length:=by omega
  have hil:(l.filter fun x=>!p x).length=i:=by rw[← htk,List.length_take];omega
  refine zhF Tk Tryz.func54 (nm:=nm) (n:=m.length) (i0:=i) (ti1:=zcC) (ti2:=zfF) (xs:=m.map fun x=>[vi x]) (z:=.int .i64 0) hin rfl rfl rfl rfl rfl rfl rfl rfl rfl Tryz.zeroValue3 rfl rfl rfl rfl rfl rfl rfl rfl rfl rfl rfl rfl (by simp[zab]) rfl ?_
  refine zgI Tk Tryz.func54 (nm:=nm) (n:=m.length) (m:=i) (ti1:=zcC) (ti2:=zfF) (es:=1) (xs:=(m.map fun x=>[vi x]).take i++List.replicate (m.length - i) [I.v (.int .i64 0)]) (Nat.le_of_lt hin) (by omega) rfl rfl rfl rfl rfl rfl rfl rfl rfl rfl rfl (by simp[zab]) rfl ?_
  intro E' hM
  have hkk:zaS nm ((nm,Ob.arr 3 1 m.length ((m.map fun x=>[vi x]).take i++List.replicate (m.length - i) [I.v (.int .i64 0)]) true)::(nm,zat m)::R)=R:=by
   simp[zaS,hR]
  have hfin:Ob.arr 3 1 i (((m.map fun x=>[vi x]).take i++List.replicate (m.length - i) [I.v (.int .i64 0)]).take i) true=zat (l.filter fun x=>!p x):=by
   rw[List.take_append_of_le_length (by rw[List.length_take,List.length_map];omega),List.take_take,Nat.min_self,← List.map_take,htk]
   simp[zat,hil]
  refine zjC Tk (nm:=nm) (r:=.osl 1 nm) hM rfl rfl rfl trivial rfl ?_ rfl
  show ((nm,Ob.arr 3 1 i (((m.map fun x=>[vi x]).take i++List.replicate (m.length - i) [I.v (.int .i64 0)]).take i) true)::zaS nm ((nm,Ob.arr 3 1 m.length ((m.map fun x=>[vi x]).take i++List.replicate (m.length - i) [I.v (.int .i64 0)]) true)::(nm,zat m)::R))::O=((nm,zat (l.filter fun x=>!p x))::R)::O
  rw[hkk,hfin]
theorem zog {c:Cx} (hP:c.P=Tryz.prog) {s:St} {o:Oper} {t nm f cb:Nat} {l:List Int} {R:Heap} {O:List Heap} {B:Ob} (p:Int→Bool) (hl:l.length≤1000000) (hB:zaa O 0 cb=some B) (hR:zaS nm R=R)
  (hp:∀ x∈l,∀ d O,zaa O d cb=some B→zan Tryz.prog f [ii x,.own d cb 0 0] O (bb (p x)) [] O) (ht:o.dst=some t) (hn:t<s.n) (hS:s.S=((nm,zat l)::R)::O) :
  Wp c o s 54 [.osl 0 nm,.fn (.func f) [] [.own 1 cb 0 0]] { σ:=(t,.osl 0 nm)::zdH nm s.σ,S:=((nm,zat (l.filter fun x=>!p x))::R)::O,n:=s.n }:=by
 have h:=ziI O R l nm f cb B p hl hB hR hp
 refine zd6 (c:=c) (s:=s) (o:=o) (nm:=nm) (res:=.osl 1 nm) ?_ ht hn hS (xs:=l.map fun x=>[vi x]) (wr:=true) (by rw[zab,if_pos rfl]) ⟨_,_,_,_,_,by rw[zab,if_pos rfl]⟩ ?_
 ·rw[hP,hS]
  have e:D.imms (zdJ (((nm,zat l)::R)::O)) [.osl 0 nm,.fn (.func f) [] [.own 1 cb 0 0]]=[.osl 0 nm,.fn (.func f) [] [.own 1 cb 0 0]]:=by
   simp[D.imms,D.imm,zdJ,zab]
  rw[e]
  exact h
 ·intro d m hd
  match d with
  | 0=>
   have hm:¬ nm=m:=fun e=>by rcases hd with h | h;exact h rfl;exact h e.symm
   simp only[shape,zaa,List.getElem?_cons_zero,zab,if_neg hm]
  | d+1=>simp[shape,zaa]
end Go.AI


namespace Go.AI
open Go.Proofs
set_option maxRecDepth 20000
theorem zqF (O:List Heap) (b:Int):zan Tryz.prog 30 [u8D b] O (.osl 0 17) [(17,zat (zbf b))] O:=by
 refine zau [7] Tk Tryz.func30 rfl Tryz.call30 Tryz.ntmps30 (Nat.le_of_ble_eq_true rfl) fun E=>?_
 refine zae Tk Tryz.func30 ?_
 refine zac ?_
 refine zaq (zcg 3 17 3 1 rfl rfl rfl) ?_
 refine zah (fun i:Nat=>[(0,u8D b),(3,.osl 0 17),(4,ii i)]) (fun i=>[(17,zat (rawM b i))]) (fun _=>O) 19
  (fun i=>i≤5) (fun i=>5 - i) 0 (Nat.zero_le _) ⟨rfl,rfl,rfl,trivial⟩ rfl ⟨rfl,trivial⟩ rfl rfl ?_
 intro i hi ih
 have hj1:ii (IntKind.i64.wrap ((i:Int)+1))=ii ((i+1:Nat):Int):=congrArg ii (zaC (n:=1000001) (by omega) (by decide))
 have hs:=zgc b i
 have hl:=zeL b i
 refine zae Tk Tryz.func30 ?_
 refine zai Tk Tryz.func30 rfl (fun g1=>?_) (fun g1=>?_)
 ·have g1:(i:Int)<5:=of_decide_eq_true g1
  refine zag Tk Tryz.func30 (by exact⟨by omega,by show (i:Int)≤(8:Nat);omega⟩) ?_
  refine zai Tk Tryz.func30 rfl (fun g2=>?_) (fun g2=>?_)
  ·have g2:bitP b i=true:=g2
   rw[if_pos g2] at hs
   refine zag Tk Tryz.func30 (by exact⟨by show ((rawM b i).length+1) * 8≤140737488355328;omega,by show (rawM b i).length+1≤9223372036854775807;omega⟩) ?_
   refine zac ?_
   refine ih (i+1) _ _ (by omega) (by omega) ⟨rfl,rfl,hj1,trivial⟩ rfl ⟨?_,trivial⟩ rfl rfl
   rw[hs]
   exact congrArg some (zaO (rawM b i) (i:Int))
  ·have g2:¬ bitP b i=true:=by intro h;exact absurd (g2.symm.trans h) (by decide)
   rw[if_neg g2,List.append_nil] at hs
   refine zac ?_
   exact ih (i+1) _ _ (by omega) (by omega) ⟨rfl,rfl,hj1,trivial⟩ rfl ⟨by rw[hs];rfl,trivial⟩ rfl rfl
 ·have g1:¬ (i:Int)<5:=of_decide_eq_false g1
  obtain rfl:i=5:=by omega
  refine zay ?_
  refine zae Tk Tryz.func30 ?_
  refine g_go Tk Tryz.func30 ?_
  exact⟨zbm (hT:=Tk) (r:=.osl 0 17) rfl rfl rfl ⟨⟨_,rfl,rfl⟩,trivial⟩ (zen _ _ _) rfl rfl⟩
theorem zwn (O:List Heap) (x:Int) (l:List Int) (hl:l.length≤1000000) (d nm:Nat) (ho:zaa O d nm=some (.box [ints l])):zan Tryz.prog 55 [ii x,.own d nm 0 0] O (bb (!decide (x∈l))) [] O:=by
 have h:=fun O=>za3 O l x (by simp only[zas];omega)
 refine zad Tk Tryz.func55 rfl Tryz.call55 Tryz.ntmps55 (Nat.le_of_ble_eq_true rfl) fun E=>?_
 refine zae Tk Tryz.func55 ?_
 refine zba Tk Tryz.func55 (zaD ho) ?_
 refine zaf Tk Tryz.func55 (h _) rfl rfl rfl rfl rfl ?_
 refine zak Tk (r:=bb (!decide (x∈l))) rfl rfl rfl trivial rfl rfl ?_
 rfl
def hasR (l s:List Int):List Int:=s.filter fun x=>decide (x∈l)
theorem zvL (O:List Heap) (b:Int) (l:List Int) (hl:l.length≤1000000) (nm:Nat) (ho:zaa O 0 nm=some (.box [ints l])):zan Tryz.prog 53 [u8D b,.own 0 nm 0 0] O (ints (hasR l (zbf b))) [] O:=by
 have e:hasR l (zbf b)=(zbf b).filter fun x=>!(!decide (x∈l)):=by simp[hasR]
 have h5:=(zjK b).2.2
 have hev:=fun O=>zqF O b
 rw[e]
 refine zau [200007] Tk Tryz.func53 rfl Tryz.call53 Tryz.ntmps53 (Nat.le_of_ble_eq_true rfl) fun E=>?_
 refine zae Tk Tryz.func53 ?_
 refine zaf Tk Tryz.func53 (hev _) rfl rfl rfl rfl rfl ?_
 refine zcQ Tk Tryz.func53 rfl rfl rfl rfl (zog (l:=zbf b) (R:=[]) (B:=.box [ints l]) rfl (fun x=>!decide (x∈l)) (by omega) ho rfl (fun x _ d O ho=>zwn O x l hl d nm ho) rfl (show 7<8 by decide) rfl) ?_
 refine zcG (zao 17 rfl rfl) ?_
 refine zak Tk (r:=ints ((zbf b).filter fun x=>!(!decide (x∈l)))) rfl rfl rfl trivial rfl rfl ?_
 rfl
end Go.AI


namespace Go.AI
abbrev zvN (gs:Int) (gt:Nat→Int):Prop:=0≤gs∧∀ j,0≤gt j∧gt j≤255
open Go.Proofs
set_option maxRecDepth 20000
structure Sk where
 st:Int
 ps:Int
 pm:Int
 pt:Nat→Int
 ss:Int
 sm:Int
 t2:Nat→Int
 ob:Int
 ct:Int
abbrev skC (x:Sk):List D:=[u8D x.st,u8D x.ps,u8D x.pm,u8D (x.pt 0),u8D (x.pt 1),u8D (x.pt 2),u8D (x.pt 3),u8D (x.pt 4),u8D (x.pt 5),u8D (x.pt 6),u8D (x.pt 7),u8D (x.pt 8),u8D (x.pt 9),u8D (x.pt 10),u8D (x.pt 11),u8D (x.pt 12),u8D (x.pt 13),u8D (x.pt 14),u8D (x.pt 15),u8D (x.pt 16),u8D (x.pt 17),u8D (x.pt 18),u8D (x.pt 19),u8D (x.pt 20),u8D (x.pt 21),u8D (x.pt 22),u8D (x.pt 23),u8D (x.pt 24),u8D x.ss,u8D x.sm,u8D (x.t2 0),u8D (x.t2 1),u8D (x.t2 2),u8D (x.t2 3),u8D (x.t2 4),u8D (x.t2 5),u8D (x.t2 6),u8D (x.t2 7),u8D (x.t2 8),u8D (x.t2 9),u8D (x.t2 10),u8D (x.t2 11),u8D (x.t2 12),u8D (x.t2 13),u8D (x.t2 14),u8D (x.t2 15),u8D (x.t2 16),u8D (x.t2 17),u8D (x.t2 18),u8D (x.t2 19),u8D (x.t2 20),u8D (x.t2 21),u8D (x.t2 22),u8D (x.t2 23),u8D (x.t2 24),u8D x.ob,u8D x.ct]
structure skOkB (x:Sk):Prop where
 p:zvN x.ps x.pt
 s:zvN x.ss x.t2
def mkS (x:Sk):Sys:=⟨mkA (zbf x.st) x.ps x.pm x.pt,mkA (zbf x.st) x.ss x.sm x.t2,hasR (zbf x.st) (zbf x.ob),hasR (zbf x.st) (zbf x.ct)⟩
theorem zto (O:List Heap) (x:Sk) (h:skOkB x):zan Tryz.prog 15 [.agg (skC x)] O (sysD (mkS x)) [] O:=by
 obtain⟨e1,e2,e3⟩:=zjK x.st
 have p:=zpW (gs:=x.ps) (gm:=x.pm) e1 e2 e3 h.p.2
 have s:=zpW (gs:=x.ss) (gm:=x.sm) e1 e2 e3 h.s.2
 have c1:=fun O=>ztp O (zbf x.st) x.ps x.pm x.pt e3 h.p.1 p.1.1 p.1.2
 have c2:=fun O=>ztp O (zbf x.st) x.ss x.sm x.t2 e3 h.s.1 s.1.1 s.1.2
 have c0:=fun O=>zsN O x.st
 have c3:=fun O nm ho=>zvL O x.ob (zbf x.st) (by omega) nm ho
 have c4:=fun O nm ho=>zvL O x.ct (zbf x.st) (by omega) nm ho
 unfold mkS
 clear p s e1 e2 e3 h
 generalize mkA (zbf x.st) x.ps x.pm x.pt=A at *
 generalize mkA (zbf x.st) x.ss x.sm x.t2=B at *
 generalize hasR (zbf x.st) (zbf x.ob)=M at *
 generalize hasR (zbf x.st) (zbf x.ct)=N at *
 generalize zbf x.st=l at *
 obtain⟨al,st,mk,es⟩:=A
 obtain⟨al',st',mk',es'⟩:=B
 obtain⟨xst,xps,xpm,xpt,xss,xsm,xt2,xob,xct⟩:=x
 simp only at c0 c1 c2
 refine zad Tk Tryz.func15 rfl Tryz.call15 Tryz.ntmps15 (Nat.le_of_ble_eq_true rfl) fun E=>?_
 refine zae Tk Tryz.func15 ?_
 refine zaf Tk Tryz.func15 (c0 _) rfl rfl rfl rfl rfl ?_
 refine zaF Tk Tryz.func15 zaM rfl ?_
 refine zaU Tk (fun _=>c1 _) rfl rfl rfl ?_
 refine zaU Tk (fun _=>c2 _) rfl rfl rfl ?_
 refine zpn Tk (c3 _ 3 rfl) rfl rfl rfl ?_
 refine zpn Tk (c4 _ 3 rfl) rfl rfl rfl ?_
 refine zpl Tk rfl rfl rfl ?_
 refine zaQ Tk Tryz.func15 (by kernel_rfl) ?_
 refine zak Tk (r:=sysD ⟨⟨al,st,mk,es⟩,⟨al',st',mk',es'⟩,M,N⟩) rfl rfl rfl trivial rfl rfl ?_
 rfl
end Go.AI


namespace Go.AI
open Go.Proofs
set_option maxRecDepth 20000
theorem zhk (O:List Heap) (a:Aut) (s ev:Int) (hl:a.edges.length≤1000000):zan Tryz.prog 18 [autD a,ii s,ii ev] O (ii (stp3 a.edges s ev)) [] O:=by
 obtain⟨al,st,mk,es⟩:=a
 simp only at hl ⊢
 generalize hR:stp3 es s ev=R
 refine zad Tk Tryz.func18 rfl Tryz.call18 Tryz.ntmps18 (Nat.le_of_ble_eq_true rfl) fun E=>?_
 refine zae Tk Tryz.func18 ?_
 refine zac ?_
 refine zah (fun i:Nat=>[(1,ii s),(2,ii ev),(10,edgs es),(11,ii es.length),(12,ii i)]) (fun _=>[]) (fun _=>O) 29
  (fun i=>i≤es.length∧stp3 (es.drop i) s ev=R) (fun i=>es.length - i) 0 ⟨Nat.zero_le _,hR⟩ ⟨rfl,rfl,rfl,rfl,rfl,trivial⟩ rfl trivial rfl rfl ?_
 rintro i ⟨hi,hno⟩ ih
 clear hR
 refine zae Tk Tryz.func18 ?_
 refine zai Tk Tryz.func18 rfl (fun g1=>?_) (fun g1=>?_)
 ·have h1:i<es.length:=by simpa using g1
  have ge:(es.map edgI)[(i:Int).toNat]? = some (edgI es[i]):=zaj h1
  have dl:es.drop i=es[i]::es.drop (i+1):=List.drop_eq_getElem_cons h1
  rw[dl] at hno
  simp only[stp3] at hno
  clear dl
  generalize es[i]=y at *
  obtain⟨yf,ye,yt⟩:=y
  simp only at hno
  have n1:0≤(i:Int)∧(i:Int)<(es.length:Int):=by omega
  refine zag Tk Tryz.func18 (by exact n1) ?_
  refine zap Tk Tryz.func18 (ge) ?_
  refine zaW Tk Tryz.func18 rfl (fun g2=>?_) (fun g2=>?_)
  ·have g2:yf=s:=beqT g2
   refine zai Tk Tryz.func18 rfl (fun g3=>?_) (fun g3=>?_)
   ·have g3:ye=ev:=beqT g3
    rw[if_pos ⟨g2,g3⟩] at hno
    subst hno
    refine zak Tk (r:=ii yt) rfl rfl rfl trivial rfl rfl ?_
    rfl
   ·have g3:ye≠ev:=beqF g3
    rw[if_neg (fun h=>g3 h.2)] at hno
    refine zac ?_
    exact ih (i+1) _ _ ⟨h1,hno⟩ (by omega) ⟨rfl,rfl,rfl,rfl,congrArg ii (zaC (n:=1000001) (by omega) (by decide)),trivial⟩ rfl trivial rfl rfl
  ·have g2:yf≠s:=beqF g2
   rw[if_neg (fun h=>g2 h.1)] at hno
   refine gcF Tk Tryz.func18 rfl ?_
   refine zac ?_
   exact ih (i+1) _ _ ⟨h1,hno⟩ (by omega) ⟨rfl,rfl,rfl,rfl,congrArg ii (zaC (n:=1000001) (by omega) (by decide)),trivial⟩ rfl trivial rfl rfl
 ·have h1:es.length≤i:=by simpa using g1
  rw[List.drop_eq_nil_of_le h1] at hno
  simp only[stp3] at hno
  subst hno
  refine zak Tk (r:=ii (-1)) rfl rfl rfl trivial rfl rfl ?_
  rfl
abbrev prD (z:Int × Int):D:=.agg [ii z.1,ii z.2]
def idxP (z:Int × Int):List (Int × Int)→Nat→Int
 | [],_=>-1
 | x::r,i=>if x=z then (i:Int) else idxP z r (i+1)
theorem zqb (z:Int × Int):∀ (l:List (Int × Int)) (i:Nat),idxP z l i=if z∈l then ((i+l.findIdx (eqB z):Nat):Int) else -1
 | [],i=>rfl
 | x::r,i=>by
  simp only[idxP]
  by_cases h:x=z
  ·subst h
   rw[if_pos rfl,if_pos (by simp)]
   simp[List.findIdx_cons,eqB]
  ·rw[if_neg h,zqb z r (i+1)]
   by_cases hm:z∈r
   ·rw[if_pos hm,if_pos (by simp[hm])]
    have hz:¬ z=x:=fun e=>h e.symm
    rw[List.findIdx_cons,show eqB z x=false by simp[eqB,hz]]
    simp only[cond_false]
    congr 1;omega
   ·rw[if_neg hm,if_neg (by simp[hm];exact fun e=>h e.symm)]
theorem zuJ (O:List Heap) (l:List (Int × Int)) (z:Int × Int) (e w:Nat) (ho:zaa O e w=some (zjm l)) (hl:l.length≤1000000):zan Tryz.prog 94 [.osl e w,prD z] O (ii (idxP z l 0)) [] O:=by
 have hO:∀ H,zaa (H::O) (e+1) w=some (zjm l):=fun H=>zaD ho
 generalize hR:idxP z l 0=R
 obtain⟨z1,z2⟩:=z
 refine zad Tk Tryz.func94 rfl Tryz.call94 Tryz.ntmps94 (Nat.le_of_ble_eq_true rfl) fun E=>?_
 refine zae Tk Tryz.func94 ?_
 refine zba Tk Tryz.func94 (hO _) ?_
 refine zac ?_
 refine zah (fun i:Nat=>[(0,.osl (e+1) w),(3,.own 0 3 0 0),(7,ii l.length),(8,ii i)]) (fun _=>[(3,.box [ii z1,ii z2])]) (fun _=>O) 19
  (fun i=>i≤l.length∧idxP (z1,z2) (l.drop i) i=R) (fun i=>l.length - i) 0 ⟨Nat.zero_le _,hR⟩ ⟨rfl,rfl,rfl,rfl,trivial⟩ rfl ⟨rfl,trivial⟩ rfl rfl ?_
 rintro i ⟨hi,hno⟩ ih
 clear hR
 refine zae Tk Tryz.func94 ?_
 refine zai Tk Tryz.func94 rfl (fun g1=>?_) (fun g1=>?_)
 ·have h1:i<l.length:=by simpa using g1
  have ge:(l.map prI)[(i:Int).toNat]? = some (prI l[i]):=zaj h1
  have dl:l.drop i=l[i]::l.drop (i+1):=List.drop_eq_getElem_cons h1
  rw[dl] at hno
  simp only[idxP] at hno
  clear dl
  generalize l[i]=y at *
  obtain⟨y1,y2⟩:=y
  have n1:0≤(i:Int)∧(i:Int)<(l.length:Int):=by omega
  refine zaF Tk Tryz.func94 zaM rfl ?_
  refine zf2 Tk (ho) ?_
  refine zaz Tk (by exact n1) ?_
  refine zf2 Tk (ho) ?_
  refine zaK Tk (ge) ?_
  refine zaQ Tk Tryz.func94 (by kernel_rfl) ?_
  refine zai Tk Tryz.func94 rfl (fun g2=>?_) (fun g2=>?_)
  ·have g2:(z1==y1)=true∧(z2==y2)=true:=by simpa using g2
   have e1:z1=y1:=by simpa using g2.1
   have e2:z2=y2:=by simpa using g2.2
   rw[if_pos (by rw[e1,e2])] at hno
   subst hno
   refine zak Tk (r:=ii (i:Int)) rfl rfl rfl trivial rfl rfl ?_
   rfl
  ·have g2:¬ (y1,y2)=(z1,z2):=fun e=>by
    injection e with e1 e2
    subst e1 e2
    simp at g2
   rw[if_neg g2] at hno
   refine zac ?_
   exact ih (i+1) _ _ ⟨h1,hno⟩ (by omega) ⟨rfl,rfl,rfl,congrArg ii (zaC (n:=1000001) (by omega) (by decide)),trivial⟩ rfl ⟨rfl,trivial⟩ rfl rfl
 ·have h1:l.length≤i:=by simpa using g1
  rw[List.drop_eq_nil_of_le h1] at hno
  simp only[idxP] at hno
  subst hno
  refine zak Tk (r:=ii (-1)) rfl rfl rfl trivial rfl rfl ?_
  rfl
end Go.AI


namespace Go.AI
open Go.Proofs
set_option maxRecDepth 20000
theorem zvB {x:Sys} {U:Unf (Int × Int)} (h:UOk (lpIn x) U):U.sts.length≤(lpV x).length:=zbl h.nd fun s hs=>zgt (h.ok s hs)
set_option maxHeartbeats 16000000 in
theorem zp1 (O:List Heap) (x:Sys) (h:smallS x) (hx:gSys x) (hV0:(lpV x).length≤4095):zan Tryz.prog 42 [sysD x] O (.tup [autD (lpR x).1,.i (prsI (lpR x).2)]) [] O:=by
 have hal:=zaZ (by decide) (zaA hx.p).1
 by_cases h0:0<x.p.states∧0<x.s.states
 ·obtain⟨V,hV1,hU⟩:=zgx hx h0 (by omega)
  have hF:=zmq hx false (show (lpV x).length<4096 by omega)
  have hlp:lpR x=(unfA x.p.alpha V,V.sts):=by unfold lpR;rw[if_pos h0,hV1]
  have hno:(Except.ok V:Except Int (Unf (Int × Int)))=zbx eqB false (zdF x) (lpMk x) x.p.alpha (4097 - 0) 0 (unf0 ((0:Int),(0:Int))):=hV1.symm
  have hU0:UOk (lpIn x) (unf0 ((0:Int),(0:Int))):=⟨fun s hs=>by
   rw[show s=(0,0) by simpa [unf0] using hs]
   exact⟨⟨Int.le_refl _,h0.1⟩,Int.le_refl _,h0.2⟩,by simp[unf0],rfl⟩
  have hfew:∀ U:Unf (Int × Int),UOk (lpIn x) U→U.sts.length≤4095:=fun U hU=>Nat.le_trans (zvB hU) hV0
  have hvok:=fun i s ev U V' hU hs hi hq=>@zeE (Int × Int) _ eqB false (zdF x) (lpIn x) hF i s ev U V' hU hs hi hq
  have s1:=fun O s e=>zhk O x.p s e h.p.ed
  have s2:=fun O s e=>zhk O x.s s e h.s.ed
  have m1:=fun O e=>za3 O x.p.marked e (by have:=h.p.mkd;simp only[zas];omega)
  have m2:=fun O e=>za3 O x.s.marked e (by have:=h.s.mkd;simp only[zas];omega)
  have hts:∀ z ev,zdF x z ev=((stp3 x.p.edges z.1 ev,stp3 x.s.edges z.2 ev),decide (0≤stp3 x.p.edges z.1 ev) && decide (0≤stp3 x.s.edges z.2 ev),0):=fun z ev=>rfl
  have hmr:∀ z,lpMk x z=(decide (z.1∈x.p.marked) && decide (z.2∈x.s.marked)):=fun z=>rfl
  rw[hlp]
  unfold unfA
  generalize hR:(Except.ok V:Except Int (Unf (Int × Int)))=R at *
  clear hlp hV1 hU hF hV0 hx h
  generalize zdF x=ts at *
  generalize lpMk x=mr at *
  generalize lpIn x=P at *
  obtain⟨⟨al,st,mk,es⟩,⟨al',st',mk',es'⟩,ob,ct⟩:=x
  simp only at h0 hal hts hmr s1 s2 m1 m2 hno ⊢
  refine zau [10,19,21] Tk Tryz.func42 rfl Tryz.call42 Tryz.ntmps42 (Nat.le_of_ble_eq_true rfl) fun E=>?_
  refine zae Tk Tryz.func42 ?_
  refine zaW Tk Tryz.func42 rfl (fun _=>?_) (fun h=>absurd h (by simp;omega))
  refine zai Tk Tryz.func42 rfl (fun _=>?_) (fun h=>absurd h (by simp;omega))
  refine zag Tk Tryz.func42 (by exact⟨by decide,by decide⟩) ?_
  refine zac ?_
  refine zaq (zcV 28 105 rfl rfl rfl) ?_
  refine zaq (zaR 4 59 3 1 (pre:=[ints al,ii 0]) (post:=[.i (.v (.slice none 0 0))]) rfl rfl rfl) ?_
  refine zaq (zaR 4 113 117 3 (pre:=[ints al,ii 0,.osl 0 59]) (post:=[]) rfl rfl rfl) ?_
  refine zah (fun x:Nat × Unf (Int × Int)=>[(1,.own 0 1 0 0),(2,.own 0 2 0 0),(4,.own 0 4 0 0),(5,.osl 0 105),(6,ii x.1)])
   (fun x=>[(1,.box (sysC ⟨⟨al,st,mk,es⟩,⟨al',st',mk',es'⟩,ob,ct⟩)),(2,.box [.i (.v (.slice none 0 0)),ii 0,.i (.v (.slice none 0 0)),.i (.v (.slice none 0 0))]),(4,.box [ints al,ii 0,.osl 0 59,.osl 0 113]),(105,zjm x.2.sts),(59,zat x.2.mkl),(113,zbD x.2.eds)]) (fun _=>O) 121
   (fun x=>x.1≤x.2.sts.length∧UOk P x.2∧x.2.mkl.length≤x.1∧x.2.eds.length≤32 * x.1∧R=zbx eqB false ts mr al (4097 - x.1) x.1 x.2) (fun x=>4097 - x.1) (0,unf0 ((0:Int),(0:Int)))
   ⟨Nat.zero_le _,hU0,Nat.le_refl _,Nat.le_refl _,hno⟩ ⟨rfl,rfl,rfl,rfl,rfl,trivial⟩ rfl ⟨rfl,rfl,rfl,rfl,rfl,rfl,trivial⟩ rfl rfl ?_
  clear hno hU0 h0
  rintro ⟨i,U⟩ ⟨hi,hgd,hml,hel,hno⟩ ih
  simp only at hi hgd hml hel hno
  refine zae Tk Tryz.func42 ?_
  refine zai Tk Tryz.func42 rfl (fun g1=>?_) (fun g1=>?_)
  ·have h1:i<U.sts.length:=by simpa using g1
   clear g1
   have hle:=hfew U hgd
   have hsi:U.sts[i]? = some U.sts[i]:=List.getElem?_eq_getElem h1
   have gs:(U.sts.map prI)[(i:Int).toNat]? = some (prI U.sts[i]):=zaj h1
   have hoks:=hgd.ok _ (List.getElem_mem h1)
   generalize U.sts[i]=s at *
   have hno:R=match zav eqB false ts i s al (zbk mr i s U) with
     | .error e=>.error e
     | .ok U'=>zbx eqB false ts mr al (4097 - (i+1)) (i+1) U':=by
    rw[hno,show 4097 - i=(4097 - (i+1))+1 by omega]
    simp only[zbx,hsi]
    cases zav eqB false ts i s al (zbk mr i s U) <;> rfl
   obtain⟨m1',m2'⟩:=zb7 mr i s U
   have hM:UOk P (zbk mr i s U):=⟨by rw[m1'];exact hgd.ok,by rw[m1'];exact hgd.nd,by rw[m1',m2'];exact hgd.fr⟩
   have hm3:(zbk mr i s U).mkl=if mr s=true then U.mkl++[(i:Int)] else U.mkl:=by
    unfold zbk
    by_cases h:mr s=true <;> simp[h]
   generalize zbk mr i s U=U1 at *
   rw[hmr] at hm3
   obtain⟨z1,z2⟩:=s
   simp only at hm3
   have d1:=fun O=>m1 O z1
   have d2:=fun O=>m2 O z2
   generalize decide (z1∈mk)=B1 at *
   generalize decide (z2∈mk')=B2 at *
   obtain⟨sts,mkl,eds⟩:=U
   obtain⟨sts1,mkl1,eds1⟩:=U1
   simp only at m1' m2' hm3 hsi gs hno h1 hle hel hml hi hgd
   subst m1' m2'
   have n1:0≤(i:Int)∧(i:Int)<(sts1.length:Int):=by omega
   have hml1:mkl1.length≤i+1:=by rw[hm3];split;(rw[List.length_append,List.length_singleton];omega);omega
   apply zcj (P:=True) (s6:={ σ:=[(1,.own 0 1 0 0),(2,.own 0 2 0 0),(4,.own 0 4 0 0),(5,.osl 0 105),(6,ii i)],S:=[(1,.box (sysC ⟨⟨al,st,mk,es⟩,⟨al',st',mk',es'⟩,ob,ct⟩)),(2,.box [.i (.v (.slice none 0 0)),ii 0,.i (.v (.slice none 0 0)),.i (.v (.slice none 0 0))]),(4,.box [ints al,ii 0,.osl 0 59,.osl 0 113]),(105,zjm sts1),(59,zat mkl1),(113,zbD eds1)]::O,n:=121 })
   ·intro J
    refine zaF Tk Tryz.func42 zaM rfl ?_
    refine zaz Tk (by exact n1) ?_
    refine zaz Tk (by exact⟨by decide,by decide⟩) ?_
    refine zaK Tk (gs) ?_
    refine zaU Tk (fun _=>d1 _) rfl rfl rfl ?_
    refine zch Tk (fun c1=>?_) (fun c1=>?_)
    ·have c1:B1=true:=c1
     refine zaz Tk (by exact n1) ?_
     refine zaz Tk (by exact⟨by decide,by decide⟩) ?_
     refine zaK Tk (gs) ?_
     refine zaU Tk (fun _=>d2 _) rfl rfl rfl ?_
     refine zaQ Tk Tryz.func42 (by kernel_rfl) ?_
     rw[c1,Bool.true_and] at hm3
     refine zai Tk Tryz.func42 rfl (fun c2=>?_) (fun c2=>?_)
     ·have c2:B2=true:=c2
      rw[if_pos c2] at hm3
      refine zag Tk Tryz.func42 (by exact⟨by show (mkl.length+1) * 8≤140737488355328;omega,by show mkl.length+1≤9223372036854775807;omega⟩) ?_
      refine zay ?_
      refine zaE (J trivial) ⟨rfl,rfl,rfl,rfl,rfl,trivial⟩ rfl ⟨rfl,rfl,rfl,rfl,by rw[hm3];exact congrArg some (zaO mkl (i:Int)),rfl,trivial⟩ rfl rfl
     ·have c2:¬ B2=true:=by rw[show B2=false from c2];decide
      rw[if_neg c2] at hm3
      refine zay ?_
      refine zaE (J trivial) ⟨rfl,rfl,rfl,rfl,rfl,trivial⟩ rfl ⟨rfl,rfl,rfl,rfl,by rw[hm3];rfl,rfl,trivial⟩ rfl rfl
    ·have c1:B1=false:=c1
     refine zaQ Tk Tryz.func42 (by kernel_rfl) ?_
     rw[c1,Bool.false_and,if_neg (by decide)] at hm3
     refine gcF Tk Tryz.func42 rfl ?_
     refine zay ?_
     refine zaE (J trivial) ⟨rfl,rfl,rfl,rfl,rfl,trivial⟩ rfl ⟨rfl,rfl,rfl,rfl,by rw[hm3];rfl,rfl,trivial⟩ rfl rfl
   intro _
   clear hm3 hml d1 d2 gs hgd m1 m2 hmr
   have hV0:zav eqB false ts i (z1,z2) al ⟨sts1,mkl1,eds1⟩=zav eqB false ts i (z1,z2) (al.drop 0) ⟨sts1,mkl1,eds1⟩:=rfl
   generalize zav eqB false ts i (z1,z2) al ⟨sts1,mkl1,eds1⟩=VV at *
   refine zae Tk Tryz.func42 ?_
   refine g_go Tk Tryz.func42 ?_
   refine zac ?_
   refine zah (fun x:Nat × Unf (Int × Int)=>[(1,.own 0 1 0 0),(2,.own 0 2 0 0),(4,.own 0 4 0 0),(5,.osl 0 105),(6,ii i),(62,ints al),(63,ii al.length),(64,ii x.1)])
    (fun x=>[(1,.box (sysC ⟨⟨al,st,mk,es⟩,⟨al',st',mk',es'⟩,ob,ct⟩)),(2,.box [.i (.v (.slice none 0 0)),ii 0,.i (.v (.slice none 0 0)),.i (.v (.slice none 0 0))]),(4,.box [ints al,ii 0,.osl 0 59,.osl 0 113]),(105,zjm x.2.sts),(59,zat x.2.mkl),(113,zbD x.2.eds)]) (fun _=>O) 121
    (fun x=>x.1≤al.length∧UOk P x.2∧i<x.2.sts.length∧x.2.mkl=mkl1∧x.2.eds.length≤32 * i+x.1∧x.2.sts[i]? = some (z1,z2)∧VV=zav eqB false ts i (z1,z2) (al.drop x.1) x.2) (fun x=>al.length - x.1) (0,⟨sts1,mkl1,eds1⟩)
    ⟨Nat.zero_le _,hM,h1,rfl,hel,hsi,hV0⟩ ⟨rfl,rfl,rfl,rfl,rfl,rfl,rfl,rfl,trivial⟩ rfl ⟨rfl,rfl,rfl,rfl,rfl,rfl,trivial⟩ rfl rfl ?_
   clear hV0 hsi hel hle hM n1 h1
   rintro ⟨j,⟨sts,mk0,eds⟩⟩ ⟨hj,hgd,hil,hmke,hel,hsi,hV⟩ ih2
   simp only at hj hgd hil hmke hel hsi hV
   subst hmke
   have hle:=hfew _ hgd
   simp only at hle
   have hj1:ii (IntKind.i64.wrap ((j:Int)+1))=ii ((j+1:Nat):Int):=congrArg ii (zaC (n:=4096) (by omega) (by decide))
   refine zae Tk Tryz.func42 ?_
   refine zai Tk Tryz.func42 rfl (fun g2=>?_) (fun g2=>?_)
   ·have h3:j<al.length:=by simpa using g2
    clear g2
    have ga:(al.map fun x=>[vi x])[(j:Int).toNat]? = some [vi al[j]]:=zaj (f:=fun x=>[vi x]) h3
    have da:al.drop j=al[j]::al.drop (j+1):=List.drop_eq_getElem_cons h3
    rw[da] at hV
    simp only[zav] at hV
    clear da
    generalize al[j]=e at *
    have gs:(sts.map prI)[(i:Int).toNat]? = some [vi z1,vi z2]:=by simp[hsi]
    have hvok:=fun V' h=>hvok i (z1,z2) e ⟨sts,mk0,eds⟩ V' hgd hoks hil h
    unfold zbA at hV hvok
    rw[hts] at hV hvok
    simp only at hV hvok
    have d1:=fun O=>s1 O z1 e
    have d2:=fun O=>s2 O z2 e
    generalize stp3 es z1 e=t1 at *
    generalize stp3 es' z2 e=t2 at *
    have n3:0≤(i:Int)∧(i:Int)<(sts.length:Int):=by omega
    refine zag Tk Tryz.func42 (by exact⟨by omega,by show (j:Int)<(al.length:Int);omega⟩) ?_
    refine zap Tk Tryz.func42 (ga) ?_
    refine zaF Tk Tryz.func42 zaM rfl ?_
    refine zaz Tk (by exact n3) ?_
    refine zaz Tk (by exact⟨by decide,by decide⟩) ?_
    refine zaK Tk (gs) ?_
    refine zaU Tk (fun _=>d1 _) rfl rfl rfl ?_
    refine zaz Tk (by exact n3) ?_
    refine zaz Tk (by exact⟨by decide,by decide⟩) ?_
    refine zaK Tk (gs) ?_
    refine zaU Tk (fun _=>d2 _) rfl rfl rfl ?_
    refine zpl Tk rfl rfl rfl ?_
    refine zaQ Tk Tryz.func42 (by kernel_rfl) ?_
    have hix:=zqb (t1,t2) sts 0
    clear d1 d2 gs
    refine zag Tk Tryz.func42 (by exact⟨by decide,by decide⟩) ?_
    refine zaW Tk Tryz.func42 rfl (fun c1=>?_) (fun c1=>?_)
    ·have c1:t1<0:=of_decide_eq_true c1
     rw[decide_eq_false (show ¬ 0≤t1 by omega),Bool.false_and] at hV
     simp only[ne_eq,not_true,if_false,if_true] at hV
     clear hvok
     refine gcT Tk Tryz.func42 rfl ?_
     refine zac ?_
     exact ih2 (j+1,⟨sts,mk0,eds⟩) _ _ ⟨h3,hgd,hil,rfl,by simp only;omega,hsi,hV⟩ (by simp only;omega) ⟨rfl,rfl,rfl,rfl,rfl,rfl,rfl,hj1,trivial⟩ rfl ⟨rfl,rfl,rfl,rfl,rfl,rfl,trivial⟩ rfl rfl
    have c1:¬ t1<0:=of_decide_eq_false c1
    rw[decide_eq_true (show 0≤t1 by omega),Bool.true_and] at hV hvok
    refine zag Tk Tryz.func42 (by exact⟨by decide,by decide⟩) ?_
    refine zai Tk Tryz.func42 rfl (fun c2=>?_) (fun c2=>?_)
    ·have c2:t2<0:=of_decide_eq_true c2
     rw[decide_eq_false (show ¬ 0≤t2 by omega)] at hV
     simp only[ne_eq,not_true,if_false,if_true] at hV
     clear hvok
     refine zac ?_
     exact ih2 (j+1,⟨sts,mk0,eds⟩) _ _ ⟨h3,hgd,hil,rfl,by simp only;omega,hsi,hV⟩ (by simp only;omega) ⟨rfl,rfl,rfl,rfl,rfl,rfl,rfl,hj1,trivial⟩ rfl ⟨rfl,rfl,rfl,rfl,rfl,rfl,trivial⟩ rfl rfl
    have c2:¬ t2<0:=of_decide_eq_false c2
    rw[decide_eq_true (show 0≤t2 by omega)] at hV hvok
    simp only[ne_eq,not_true,if_false,Bool.true_eq_false,Bool.false_eq_true,false_and] at hV hvok
    clear c1 c2
    obtain⟨t,ht⟩:∃ t,t=sts.findIdx (eqB (t1,t2)):=⟨_,rfl⟩
    rw[← ht] at hV hvok hix
    rw[Nat.zero_add] at hix
    obtain⟨sts2,hst3⟩:∃ sts2,sts2=if (t1,t2)∈sts then sts else sts++[(t1,t2)]:=⟨_,rfl⟩
    have hU2:VV=zav eqB false ts i (z1,z2) (al.drop (j+1)) ⟨sts2,mk0,eds++[((i:Int),e,(t:Int))]⟩∧UOk P ⟨sts2,mk0,eds++[((i:Int),e,(t:Int))]⟩∧i<sts2.length∧sts2[i]? = some (z1,z2):=by
     by_cases hm:(t1,t2)∈sts
     ·have hlt:t<sts.length:=by rw[ht];exact zcr ⟨(t1,t2),hm,by simp[eqB]⟩
      rw[if_pos hm] at hst3
      rw[if_pos hlt] at hV hvok
      subst hst3
      have h:=hvok _ rfl
      exact⟨hV,h.1,h.2.1,h.2.2.trans hsi⟩
     ·have hlt:t=sts.length:=by
       rw[ht]
       exact za6 fun x hx=>by simp only[eqB,decide_eq_false_iff_not];rintro rfl;exact hm hx
      rw[if_neg hm] at hst3
      rw[if_neg (by omega)] at hV hvok
      subst hst3
      have h:=hvok _ rfl
      exact⟨hV,h.1,h.2.1,h.2.2.trans hsi⟩
    have htm:(t1,t2) ∉ sts→t=sts.length:=fun hm=>by
     rw[ht]
     exact za6 fun x hx=>by simp only[eqB,decide_eq_false_iff_not];rintro rfl;exact hm hx
    have hic:=fun O ho=>zuJ O sts (t1,t2) 0 105 ho (by omega)
    clear hV hvok ht
    generalize idxP (t1,t2) sts 0=ix at *
    have hq1:ix<0→t=sts.length∧sts2=sts++[(t1,t2)]:=fun h=>by
     have c2:(t1,t2) ∉ sts:=fun hm=>by
      rw[if_pos hm] at hix;omega
     exact⟨htm c2,by rw[hst3,if_neg c2]⟩
    have hq2:¬ ix<0→ix=t∧sts2=sts:=fun h=>by
     have c2:(t1,t2)∈sts:=Classical.byContradiction fun hm=>by
      rw[if_neg hm] at hix;omega
     exact⟨by rw[hix,if_pos c2],by rw[hst3,if_pos c2]⟩
    clear hix htm hst3
    apply zcj (P:=True) (s6:={ σ:=[(1,.own 0 1 0 0),(2,.own 0 2 0 0),(4,.own 0 4 0 0),(5,.osl 0 105),(6,ii i),(62,ints al),(63,ii al.length),(64,ii j),(8,ii e),(10,ii t)],S:=[(1,.box (sysC ⟨⟨al,st,mk,es⟩,⟨al',st',mk',es'⟩,ob,ct⟩)),(2,.box [.i (.v (.slice none 0 0)),ii 0,.i (.v (.slice none 0 0)),.i (.v (.slice none 0 0))]),(4,.box [ints al,ii 0,.osl 0 59,.osl 0 113]),(105,zjm sts2),(59,zat mk0),(113,zbD eds)]::O,n:=121 })
    ·intro J
     refine zaf Tk Tryz.func42 (hic _ rfl) rfl rfl rfl rfl rfl ?_
     refine zai Tk Tryz.func42 rfl (fun c1=>?_) (fun c1=>?_)
     ·have c1:=hq1 (of_decide_eq_true c1)
      refine zag Tk Tryz.func42 (by exact⟨by show (sts.length+1) * 16≤140737488355328;omega,by show sts.length+1≤9223372036854775807;omega⟩) ?_
      refine zay ?_
      refine zaE (J trivial) ⟨rfl,rfl,rfl,rfl,rfl,rfl,rfl,rfl,rfl,by rw[c1.1];rfl,trivial⟩ rfl ⟨rfl,rfl,rfl,by rw[c1.2];exact congrArg some (zjl sts (t1,t2)),rfl,rfl,trivial⟩ rfl rfl
     ·have c1:=hq2 (of_decide_eq_false c1)
      refine zay ?_
      refine zaE (J trivial) ⟨rfl,rfl,rfl,rfl,rfl,rfl,rfl,rfl,rfl,congrArg ii c1.1,trivial⟩ rfl ⟨rfl,rfl,rfl,by rw[c1.2];rfl,rfl,rfl,trivial⟩ rfl rfl
    intro _
    obtain⟨hV,hg2,hi2,hs2⟩:=hU2
    clear hgd hil hsi hic hq1 hq2
    refine zae Tk Tryz.func42 ?_
    refine g_go Tk Tryz.func42 ?_
    refine zag Tk Tryz.func42 (by exact⟨by show (eds.length+1) * 24≤140737488355328;omega,by show eds.length+1≤9223372036854775807;omega⟩) ?_
    refine zac ?_
    exact ih2 (j+1,⟨sts2,mk0,eds++[((i:Int),e,(t:Int))]⟩) _ _ ⟨h3,hg2,hi2,rfl,by simp only[List.length_append,List.length_singleton];omega,hs2,hV⟩ (by simp only;omega) ⟨rfl,rfl,rfl,rfl,rfl,rfl,rfl,hj1,trivial⟩ rfl ⟨rfl,rfl,rfl,rfl,rfl,congrArg some (zc3 eds ((i:Int),e,(t:Int))),trivial⟩ rfl rfl
   ·have h3:al.length≤j:=by simpa using g2
    rw[List.drop_eq_nil_of_le h3] at hV
    simp only[zav] at hV
    subst hV
    simp only at hno
    refine zac ?_
    exact ih (i+1,⟨sts,mk0,eds⟩) _ _ ⟨by simp only;omega,hgd,hml1,by simp only;omega,hno⟩ (by simp only;omega) ⟨rfl,rfl,rfl,rfl,congrArg ii (zaC (n:=4096) (by omega) (by decide)),trivial⟩ rfl ⟨rfl,rfl,rfl,rfl,rfl,rfl,trivial⟩ rfl rfl
  ·have h1:U.sts.length≤i:=by simpa using g1
   rw[zdS h1] at hno
   rw[← hR] at hno
   simp only[Except.ok.injEq] at hno
   subst hno
   obtain⟨sts,mk0,eds⟩:=V
   refine zay ?_
   refine zaq (zao 105 rfl rfl) ?_
   refine zaq (zao 59 rfl rfl) ?_
   refine zaq (zao 113 rfl rfl) ?_
   refine zae Tk Tryz.func42 ?_
   refine g_go Tk Tryz.func42 ?_
   refine zak Tk (r:=.tup [autD ⟨al,sts.length,mk0,eds⟩,.i (prsI sts)]) rfl rfl rfl trivial rfl rfl ?_
   rfl
 ·have hlp:lpR x=(⟨x.p.alpha,0,[],[]⟩,[]):=by unfold lpR;rw[if_neg h0]
  rw[hlp]
  clear hlp
  obtain⟨⟨al,st,mk,es⟩,⟨al',st',mk',es'⟩,ob,ct⟩:=x
  simp only at h0 ⊢
  refine zau [] Tk Tryz.func42 rfl Tryz.call42 Tryz.ntmps42 (Nat.le_of_ble_eq_true rfl) fun E=>?_
  refine zae Tk Tryz.func42 ?_
  refine zaW Tk Tryz.func42 rfl (fun c1=>?_) (fun c1=>?_)
  ·have c1:st>0:=of_decide_eq_true c1
   refine zai Tk Tryz.func42 rfl (fun h=>absurd h (by simp;omega)) (fun _=>?_)
   refine zac ?_
   refine zae Tk Tryz.func42 ?_
   refine gcF Tk Tryz.func42 rfl ?_
   refine zb4 Tk (r:=.tup [.agg [ints al,ii 0,.i (.v (.slice none 0 0)),.i (.v (.slice none 0 0))],.i (.v (.slice none 0 0))]) rfl rfl rfl trivial rfl rfl ?_
   repeat' (first | refine zcT ?_ | refine zcU ?_ | refine zft ?_ | refine CoDL.cons ?_ ?_ | exact CoDL.nil | exact zb1 | refine zdO ?_ | refine CoLL.cons ?_ ?_ | exact CoLL.nil | refine CoL.cons ?_ ?_ | exact CoL.nil | exact CoI.refl _ | exact CoL.refl _ | exact CoLL.refl _ | exact CoDL.refl _ | exact CoD.refl _)
  ·refine gcF Tk Tryz.func42 rfl ?_
   refine zac ?_
   refine zae Tk Tryz.func42 ?_
   refine gcF Tk Tryz.func42 rfl ?_
   refine zb4 Tk (r:=.tup [.agg [ints al,ii 0,.i (.v (.slice none 0 0)),.i (.v (.slice none 0 0))],.i (.v (.slice none 0 0))]) rfl rfl rfl trivial rfl rfl ?_
   repeat' (first | refine zcT ?_ | refine zcU ?_ | refine zft ?_ | refine CoDL.cons ?_ ?_ | exact CoDL.nil | exact zb1 | refine zdO ?_ | refine CoLL.cons ?_ ?_ | exact CoLL.nil | refine CoL.cons ?_ ?_ | exact CoL.nil | exact CoI.refl _ | exact CoL.refl _ | exact CoLL.refl _ | exact CoDL.refl _ | exact CoD.refl _)
end Go.AI


namespace Go.AI
open Go.Proofs
set_option maxRecDepth 20000
theorem zjv {s:List Int} {gs gm:Int} {gt:Nat→Int} (hs:s.Pairwise (· < ·)) (hr:∀ x∈s,0≤x∧x<32) (hsl:s.length≤5) (hg:∀ j,0≤gt j∧gt j≤255) :
  chkA (mkA s gs gm gt)=0∧smallA (mkA s gs gm gt)∧(mkA s gs gm gt).states≤5∧(mkA s gs gm gt).alpha=s:=by
 obtain⟨_,⟨n,hn,h⟩,h3⟩:=zpW (gs:=gs) (gm:=gm) hs hr hsl hg
 exact⟨h.c,h.sm,by rw[h.st];omega,h3⟩
theorem zqe {l s:List Int} (hs:s.Pairwise (· < ·)) (hr:∀ x∈s,0≤x∧x<32):zal 32 (hasR l s) none=0:=zbi (hs.filter _) (fun x hx=>hr x (List.mem_filter.1 hx).1) (fun y e=>by cases e)
theorem zmm {x:Sk} (h:skOkB x):gSys (mkS x)∧smallS (mkS x)∧((mkS x).p.states≤5∧(mkS x).s.states≤5):=by
 obtain⟨e1,e2,e3⟩:=zjK x.st
 obtain⟨p1,p2,p3,p4⟩:=zjv (gs:=x.ps) (gm:=x.pm) e1 e2 e3 h.p.2
 obtain⟨s1,s2,s3,s4⟩:=zjv (gs:=x.ss) (gm:=x.sm) e1 e2 e3 h.s.2
 obtain⟨o1,o2,o3⟩:=zjK x.ob
 obtain⟨c1,c2,c3⟩:=zjK x.ct
 have hin:∀ s:List Int,∀ e∈hasR (zbf x.st) s,e∈zbf x.st:=fun s e he=>of_decide_eq_true (List.mem_filter.1 he).2
 refine⟨⟨p1,s1,s4.trans p4.symm,zqe o1 o2,zqe c1 c2,?_,?_⟩,⟨p2,s2,?_,?_⟩,p3,s3⟩
 ·intro e he
  rw[show (mkS x).p.alpha=zbf x.st from p4]
  exact hin _ e he
 ·intro e he
  rw[show (mkS x).p.alpha=zbf x.st from p4]
  exact hin _ e he
 ·have:(hasR (zbf x.st) (zbf x.ob)).length≤(zbf x.ob).length:=List.length_filter_le _ _
  show (hasR (zbf x.st) (zbf x.ob)).length≤1000000
  omega
 ·have:(hasR (zbf x.st) (zbf x.ct)).length≤(zbf x.ct).length:=List.length_filter_le _ _
  show (hasR (zbf x.st) (zbf x.ct)).length≤1000000
  omega
theorem zup {x:Sk} (h:skOkB x):(lpV (mkS x)).length≤25:=by
 obtain⟨_,_,h1,h2⟩:=zmm h
 rw[zgy]
 exact Nat.le_trans (Nat.mul_le_mul (show (mkS x).p.states.toNat≤5 by omega) (show (mkS x).s.states.toNat≤5 by omega)) (by decide)
theorem zvR (O:List Heap) (x:Sk) (h:skOkB x):zan Tryz.prog 13 [.agg (skC x)] O (bb (decide ((lpR (mkS x)).1.states≤10))) [] O:=by
 have h1:=fun O=>zto O x h
 obtain⟨m1,m2,_⟩:=zmm h
 have h2:=fun O=>zp1 O (mkS x) m2 m1 (by have:=zup h;omega)
 clear m1 m2 h
 generalize lpR (mkS x)=L at *
 generalize mkS x=X at *
 obtain⟨⟨lal,lst,lmk,les⟩,prs⟩:=L
 obtain⟨⟨al,st,mk,es⟩,⟨al',st',mk',es'⟩,ob,ct⟩:=X
 obtain⟨xst,xps,xpm,xpt,xss,xsm,xt2,xob,xct⟩:=x
 simp only at h1 h2 ⊢
 refine zad Tk Tryz.func13 rfl Tryz.call13 Tryz.ntmps13 (Nat.le_of_ble_eq_true rfl) fun E=>?_
 refine zae Tk Tryz.func13 ?_
 refine zaf Tk Tryz.func13 (h1 _) rfl rfl rfl rfl rfl ?_
 refine zaf Tk Tryz.func13 (h2 _) rfl rfl rfl rfl rfl ?_
 refine zak Tk (r:=bb (decide (lst≤10))) rfl rfl rfl trivial rfl rfl ?_
 rfl
def runI (es:List Edg):Int→List Int→Int
 | s,[]=>s
 | s,e::r=>if stp3 es s e<0 then -1 else runI es (stp3 es s e) r
theorem ziC {es:List Edg} (hp:es.Pairwise ltE):∀ (w:List Int) (s:Int) (k:Nat),0≤s→(0≤runI es s w→folL es w s k=(runI es s w,((k+w.length:Nat):Int)))∧(runI es s w<0→(folL es w s k).2<((k+w.length:Nat):Int))
 | [],s,k,hs=>⟨fun _=>rfl,fun h=>absurd hs (by simp only[runI] at h;omega)⟩
 | e::r,s,k,hs=>by
  simp only[folL,runI,zjt hp]
  by_cases c:stp3 es s e<0
  ·rw[if_pos c,if_pos c]
   exact⟨fun h=>absurd h (by decide),fun _=>by simp only[List.length_cons];omega⟩
  ·rw[if_neg c,if_neg c]
   have:=ziC hp r (stp3 es s e) (k+1) (by omega)
   rw[show k+1+r.length=k+(e::r).length by simp only[List.length_cons];omega] at this
   exact this
theorem zpr {es:List Edg} {al:List Int} (h:∀ e∈es,e.2.1∈al):∀ (w:List Int) (s:Int),0≤s→0≤runI es s w→∀ x∈w,x∈al
 | [],_,_,_=>by simp
 | e::r,s,hs,hr=>by
  simp only[runI] at hr
  by_cases c:stp3 es s e<0
  ·rw[if_pos c] at hr;omega
  ·rw[if_neg c] at hr
   intro x hx
   rcases List.mem_cons.1 hx with rfl | hx
   ·exact h _ (zcl (show 0≤stp3 es s x by omega))
   ·exact zpr h r (stp3 es s e) (by omega) hr x hx
theorem zpq {es:List Edg} {n:Int} (hn:0≤n) (h:∀ e∈es,0≤e.2.2∧e.2.2<n):∀ (w:List Int) (s:Int),s<n→runI es s w<n
 | [],s,hs=>hs
 | e::r,s,hs=>by
  simp only[runI]
  by_cases c:stp3 es s e<0
  ·rw[if_pos c]
   omega
  ·rw[if_neg c]
   exact zpq hn h r _ (h _ (zcl (show 0≤stp3 es s e by omega))).2
def genR (a:Aut) (w:List Int):Bool:=decide (a.states≠0) && decide (0≤runI a.edges 0 w)
theorem zpy (O:List Heap) (a:Aut) (n:Nat) (w:List Int) (h:gAut a n) (hw:w.length≤zas):∃ v,zan Tryz.prog 62 [autD a,ints w] O (.tup [ii v,bb (genR a w)]) [] O:=by
 have hst:=h.st
 by_cases h0:a.states=0
 ·refine⟨0,?_⟩
  have e:genR a w=false:=by simp[genR,h0]
  rw[e]
  obtain⟨al,st,mk,es⟩:=a
  simp only at h0
  subst h0
  refine zad Tk Tryz.func62 rfl Tryz.call62 Tryz.ntmps62 (Nat.le_of_ble_eq_true rfl) fun E=>?_
  refine zae Tk Tryz.func62 ?_
  refine gcT Tk Tryz.func62 rfl ?_
  refine zak Tk (r:=.tup [ii 0,bb false]) rfl rfl rfl trivial rfl rfl ?_
  rfl
 ·have hf:=fun O=>zjF O a 0 w h.ok ⟨Int.le_refl _,by omega⟩ hw
  refine⟨(folL a.edges w 0 0).1,?_⟩
  have hs:=(zaX (zaA h.c).2.2.2).1
  have hr:=ziC hs w 0 0 (Int.le_refl _)
  have e:genR a w=decide ((folL a.edges w 0 0).2=(w.length:Int)):=by
   unfold genR
   rw[decide_eq_true h0,Bool.true_and]
   by_cases c:0≤runI a.edges 0 w
   ·rw[decide_eq_true c,hr.1 c];simp
   ·have:=hr.2 (by omega)
    rw[Nat.zero_add] at this
    rw[decide_eq_false c,decide_eq_false (by omega)]
  rw[e]
  generalize folL a.edges w 0 0=F at *
  clear hr hs e h hst
  obtain⟨al,st,mk,es⟩:=a
  simp only at h0
  refine zad Tk Tryz.func62 rfl Tryz.call62 Tryz.ntmps62 (Nat.le_of_ble_eq_true rfl) fun E=>?_
  refine zae Tk Tryz.func62 ?_
  refine zai Tk Tryz.func62 rfl (fun h=>absurd h (by simpa using h0)) (fun _=>?_)
  refine zaf Tk Tryz.func62 (hf _) rfl rfl rfl rfl rfl ?_
  refine zak Tk (r:=.tup [ii F.1,bb (decide (F.2=(w.length:Int)))]) rfl rfl rfl trivial rfl rfl ?_
  rfl
theorem zgH (O:List Heap) (a:Aut) (n:Nat) (w:List Int) (h:gAut a n) (hw:w.length≤zas):zan Tryz.prog 21 [autD a,ints w] O (.tup [bb (genR a w),ii 0]) [] O:=by
 have h1:=fun O=>ze3 O a (by have:=h.sm.ed;simp only[zas];omega) (by have:=h.sm.al;simp only[zas];omega) (by have:=h.sm.mkd;simp only[zas];omega)
 rw[h.c] at h1
 have h2:=fun O=>zpy O a n w h hw
 generalize genR a w=b at *
 clear h
 obtain⟨al,st,mk,es⟩:=a
 refine zad Tk Tryz.func21 rfl Tryz.call21 Tryz.ntmps21 (Nat.le_of_ble_eq_true rfl) fun E=>?_
 refine zae Tk Tryz.func21 ?_
 refine zaf Tk Tryz.func21 (h1 _) rfl rfl rfl rfl rfl ?_
 refine gcF Tk Tryz.func21 rfl ?_
 obtain⟨v,h3⟩:=h2 _
 refine zaf Tk Tryz.func21 (h3) rfl rfl rfl rfl rfl ?_
 refine zak Tk (r:=.tup [bb b,ii 0]) rfl rfl rfl trivial rfl rfl ?_
 rfl
theorem zjM (O:List Heap) (x:Int) (l:List Int) (hl:l.length≤1000000) (d nm:Nat) (ho:zaa O d nm=some (.box [ints l])):zan Tryz.prog 116 [ii x,.own d nm 0 0] O (bb (!decide (x∈l))) [] O:=by
 have h:=fun O=>za3 O l x (by simp only[zas];omega)
 refine zad Tk Tryz.func116 rfl Tryz.call116 Tryz.ntmps116 (Nat.le_of_ble_eq_true rfl) fun E=>?_
 refine zae Tk Tryz.func116 ?_
 refine zba Tk Tryz.func116 (zaD ho) ?_
 refine zaf Tk Tryz.func116 (h _) rfl rfl rfl rfl rfl ?_
 refine zak Tk (r:=bb (!decide (x∈l))) rfl rfl rfl trivial rfl rfl ?_
 rfl
def obsF (on w:List Int):List Int:=w.filter fun x=>decide (x∈on)
theorem zu7 (O:List Heap) (on v w:List Int) (hon:on.length≤1000000) (hv:v.length≤1000000) (hw:w.length≤1000000):zan Tryz.prog 64 [ints on,ints v,ints w] O (bb (decide (obsF on v=obsF on w))) [] O:=by
 have e:∀ l:List Int,obsF on l=l.filter fun x=>!(!decide (x∈on)):=fun l=>by simp[obsF]
 have h3:=fun O=>zdM O (v.filter fun x=>!(!decide (x∈on))) (w.filter fun x=>!(!decide (x∈on))) (Nat.le_trans (List.length_filter_le _ _) (by simp only[zas];omega))
 rw[e,e]
 refine zau [200012,200016,200017] Tk Tryz.func64 rfl Tryz.call64 Tryz.ntmps64 (Nat.le_of_ble_eq_true rfl) fun E=>?_
 refine zae Tk Tryz.func64 ?_
 refine zaf Tk Tryz.func64 (zkY 40 _ v (by simp only[big];omega)) rfl rfl rfl rfl rfl ?_
 refine zcQ Tk Tryz.func64 rfl rfl rfl rfl (zjQ (l:=v) (R:=[(3,.box [ints on])]) (B:=.box [ints on]) rfl (fun x=>!decide (x∈on)) hv (by decide) rfl rfl (fun x _ d O ho=>zjM O x on hon d 3 ho) rfl (show 12<18 by decide) rfl) ?_
 refine zaf Tk Tryz.func64 (zkY 41 _ w (by simp only[big];omega)) rfl rfl rfl rfl rfl ?_
 refine zcQ Tk Tryz.func64 rfl rfl rfl rfl (zjQ (l:=w) (R:=[(40,zat (v.filter fun x=>!(!decide (x∈on)))),(3,.box [ints on])]) (B:=.box [ints on]) rfl (fun x=>!decide (x∈on)) hw (by decide) rfl rfl (fun x _ d O ho=>zjM O x on hon d 3 ho) rfl (show 16<18 by decide) rfl) ?_
 refine ziA Tk Tryz.func64 rfl rfl ((zao 40 rfl rfl).trans (zao 41 rfl rfl)) ?_
 refine zaf Tk Tryz.func64 (h3 _) rfl rfl rfl rfl rfl ?_
 refine zak Tk (r:=bb (decide ((v.filter fun x=>!(!decide (x∈on)))=(w.filter fun x=>!(!decide (x∈on)))))) rfl rfl rfl trivial rfl rfl ?_
 rfl
end Go.AI


namespace Go.AI
open Go.Proofs
set_option maxRecDepth 20000
theorem zqi {a:Aut} {n:Nat} (h:gAut a n) {w:List Int} (hw:w.length≤1000000) (hg:genR a w=true):(0≤runI a.edges 0 w∧runI a.edges 0 w<(n:Int))∧∀ O,zan Tryz.prog 63 [autD a,ii 0,ints w] O (.tup [ii (runI a.edges 0 w),ii w.length,ii 0]) [] O:=by
 unfold genR at hg
 simp only[Bool.and_eq_true,decide_eq_true_eq] at hg
 obtain⟨h0,h1⟩:=hg
 have hst:=h.st
 have hs:=(zaX (zaA h.c).2.2.2).1
 have hto:∀ e∈a.edges,0≤e.2.2∧e.2.2<(n:Int):=by rw[← hst];exact (zcz h.c).2.1
 refine⟨⟨h1,zpq (Int.natCast_nonneg n) hto w 0 (by omega)⟩,fun O=>?_⟩
 have hr:=(ziC hs w 0 0 (Int.le_refl _)).1 h1
 have:=zvm O a 0 w h.ok ⟨Int.le_refl _,by omega⟩ (by simp only[zas];omega) (zpr (zcz h.c).2.2 w 0 (Int.le_refl _) h1)
 rw[hr,Nat.zero_add] at this
 exact this
def verR (x:Sys) (a:Aut) (ps:List (Int × Int)) (w:Wit):Bool:=
 genR a w.1 && (genR a w.2.1 && (decide (obsF x.ob w.1=obsF x.ob w.2.1) && (decide (w.2.2∈x.ct) && (zeM a (runI a.edges 0 w.1) w.2.2 && refF x a ps (runI a.edges 0 w.2.1) w.2.2))))
theorem zrB {g:Nat} (hg:zfH g) {ty:TypeId} {fr:Nat × Nat} (O:List Heap) (x:Sys) (w:Wit) (h:smallS x) (hx:gSys x) (h64:x.p.states≤64∧x.s.states≤64) (hV:(lpV x).length≤4095) (hn:(lpR x).2.length≤12) (hw1:w.1.length≤1000000) (hw2:w.2.1.length≤1000000) :
  ASpecT g (ptab ty fr) Tryz.prog 23 [sysD x,.agg (witC w)] O (ii (if verR x (lpR x).1 (lpR x).2 w=true then 0 else 24)) [] O:=by
 have h1:=fun O=>zpK hg (ty:=ty) (fr:=fr) O x h hx h64 hV hn
 have h1:∀ O,ASpecT g (ptab ty fr) Tryz.prog 51 [sysD x] O (.tup [zbB x (lpR x).1 (lpR x).2 (esR x).1 (esR x).2,ii 0]) [] O:=h1
 have hga:=(lp_g hx hV).1
 have hso:stOk x (lpR x).1 (lpR x).2:=⟨hx,h,hga,fun z hz=>(zvC hx hV z hz).1,by omega⟩
 have hperm:=fun O=>zgh O x _ _ (esR x).1 (esR x).2 hso
 have href:=fun O=>zjf O x _ _ (esR x).1 (esR x).2 hso
 have hal:=fun O=>zu7 O x.ob w.1 w.2.1 h.ob hw1 hw2
 have hct:=fun O=>zda O x.ct w.2.2 (by have:=h.ct;simp only[zas];omega) (zam hx.ct).1
 have g1:=fun O=>zgH O _ _ w.1 hga (by simp only[zas];omega)
 have g2:=fun O=>zgH O _ _ w.2.1 hga (by simp only[zas];omega)
 have r1:=zqi hga hw1
 have r2:=zqi hga hw2
 clear hso hga hn hV h64 hx h
 generalize (lpR x).1=a at *
 generalize (lpR x).2=ps at *
 generalize (esR x).1=o at *
 generalize (esR x).2=es at *
 obtain⟨w1,w2,ev⟩:=w
 unfold verR
 simp only at *
 generalize genR a w1=b1 at *
 generalize genR a w2=b2 at *
 generalize decide (obsF x.ob w1=obsF x.ob w2)=b3 at *
 generalize decide (ev∈x.ct)=b4 at *
 generalize runI a.edges 0 w1=e1 at *
 generalize runI a.edges 0 w2=e2 at *
 have hp1:=fun O=>hperm O e1 ev
 have hp2:=fun O=>href O e2 ev
 clear hperm href
 generalize zeM a e1 ev=b5 at *
 generalize refF x a ps e2 ev=b6 at *
 obtain⟨⟨al,st,mk,eds⟩,⟨al',st',mk',eds'⟩,ob,ct⟩:=x
 obtain⟨lal,lst,lmk,leds⟩:=a
 refine zaV [200030] Tk Tryz.func23 rfl Tryz.call23 Tryz.ntmps23 (Nat.le_of_ble_eq_true rfl) fun E hE=>?_
 refine zae Tk Tryz.func23 ?_
 refine zbe Tk Tryz.func23 hE (h1 _) rfl rfl rfl rfl rfl rfl ?_
 refine gcF Tk Tryz.func23 rfl ?_
 refine zac ?_
 refine zae Tk Tryz.func23 ?_
 refine gcT Tk Tryz.func23 rfl ?_
 refine zn6 Tk Tryz.func23 0 (ie:=zcC) (ints w1) rfl rfl rfl rfl rfl Tryz.underlying127 rfl rfl rfl (by decide) rfl rfl ?_
 refine zap Tk Tryz.func23 (rfl) ?_
 refine zaf Tk Tryz.func23 (g1 _) rfl rfl rfl rfl rfl ?_
 refine zai Tk Tryz.func23 rfl (fun c1=>?_) (fun c1=>?_)
 ·have c1:b1=false:=notT c1
  rw[c1,Bool.false_and]
  refine zak Tk (r:=ii 24) rfl rfl rfl trivial rfl rfl ?_
  rfl
 have c1:b1=true:=notF c1
 obtain⟨q1,r1⟩:=r1 c1
 rw[c1,Bool.true_and]
 refine zap Tk Tryz.func23 (rfl) ?_
 refine zaf Tk Tryz.func23 (r1 _) rfl rfl rfl rfl rfl ?_
 refine zag Tk Tryz.func23 (by exact⟨by decide,by decide⟩) ?_
 refine zac ?_
 refine zcH (l:=[(2,.own 0 2 0 0),(3,.own 0 3 0 0),(5,zbB ⟨⟨al,st,mk,eds⟩,⟨al',st',mk',eds'⟩,ob,ct⟩ ⟨lal,lst,lmk,leds⟩ ps o es),(7,.osl 0 55),(27,.agg [ints w1,ints w2]),(28,ii 1)]) (Hv:=[(2,.box (sysC ⟨⟨al,st,mk,eds⟩,⟨al',st',mk',eds'⟩,ob,ct⟩)),(3,.box [ints w1,ints w2,ii ev]),(55,zat [e1])]) (O:=O) (n:=89) ⟨rfl,rfl,rfl,rfl,rfl,rfl,trivial⟩ rfl ⟨rfl,rfl,rfl,trivial⟩ rfl rfl ?_
 refine zae Tk Tryz.func23 ?_
 refine gcT Tk Tryz.func23 rfl ?_
 refine zn6 Tk Tryz.func23 1 (ie:=zcC) (ints w2) rfl rfl rfl rfl rfl Tryz.underlying127 rfl rfl rfl (by decide) rfl rfl ?_
 refine zap Tk Tryz.func23 (rfl) ?_
 refine zaf Tk Tryz.func23 (g2 _) rfl rfl rfl rfl rfl ?_
 refine zai Tk Tryz.func23 rfl (fun c2=>?_) (fun c2=>?_)
 ·have c2:b2=false:=notT c2
  rw[c2,Bool.false_and]
  refine zak Tk (r:=ii 24) rfl rfl rfl trivial rfl rfl ?_
  rfl
 have c2:b2=true:=notF c2
 obtain⟨q2,r2⟩:=r2 c2
 rw[c2,Bool.true_and]
 refine zap Tk Tryz.func23 (rfl) ?_
 refine zaf Tk Tryz.func23 (r2 _) rfl rfl rfl rfl rfl ?_
 refine zag Tk Tryz.func23 (by exact⟨by show 2 * 8≤140737488355328;decide,by simp⟩) ?_
 refine zac ?_
 refine zcH (l:=[(2,.own 0 2 0 0),(3,.own 0 3 0 0),(5,zbB ⟨⟨al,st,mk,eds⟩,⟨al',st',mk',eds'⟩,ob,ct⟩ ⟨lal,lst,lmk,leds⟩ ps o es),(7,.osl 0 55),(27,.agg [ints w1,ints w2]),(28,ii 2)]) (Hv:=[(2,.box (sysC ⟨⟨al,st,mk,eds⟩,⟨al',st',mk',eds'⟩,ob,ct⟩)),(3,.box [ints w1,ints w2,ii ev]),(55,zat [e1,e2])]) (O:=O) (n:=89) ⟨rfl,rfl,rfl,rfl,rfl,rfl,trivial⟩ rfl ⟨rfl,rfl,rfl,trivial⟩ rfl rfl ?_
 refine zae Tk Tryz.func23 ?_
 refine gcF Tk Tryz.func23 rfl ?_
 refine zaF Tk Tryz.func23 zaM rfl ?_
 refine zaU Tk (fun _=>hal _) rfl rfl rfl ?_
 refine zch Tk (fun c3=>?_) (fun c3=>?_)
 ·have c3:b3=true:=c3
  rw[c3,Bool.true_and]
  refine zaU Tk (fun _=>hct _) rfl rfl rfl ?_
  refine zch Tk (fun c4=>?_) (fun c4=>?_)
  ·have c4:b4=true:=c4
   rw[c4,Bool.true_and]
   refine zaz Tk (by exact⟨by simp,by simp⟩) ?_
   refine zaK Tk (rfl) ?_
   refine zaU Tk (fun _=>hp1 _ q1) rfl rfl rfl ?_
   refine zch Tk (fun c5=>?_) (fun c5=>?_)
   ·have c5:b5=true:=c5
    rw[c5,Bool.true_and]
    refine zaz Tk (by exact⟨by simp,by simp⟩) ?_
    refine zaK Tk (rfl) ?_
    refine zaU Tk (fun _=>hp2 _ q2) rfl rfl rfl ?_
    refine zaQ Tk Tryz.func23 (by kernel_rfl) ?_
    refine zai Tk Tryz.func23 rfl (fun c6=>?_) (fun c6=>?_)
    ·have c6:b6=true:=c6
     rw[if_pos c6]
     refine zak Tk (r:=ii 0) rfl rfl rfl trivial rfl rfl ?_
     rfl
    ·have c6:b6=false:=c6
     rw[if_neg (by rw[c6];decide)]
     refine zak Tk (r:=ii 24) rfl rfl rfl trivial rfl rfl ?_
     rfl
   ·have c5:b5=false:=c5
    rw[c5,Bool.false_and]
    refine zaQ Tk Tryz.func23 (by kernel_rfl) ?_
    refine gcF Tk Tryz.func23 rfl ?_
    refine zak Tk (r:=ii 24) rfl rfl rfl trivial rfl rfl ?_
    rfl
  ·have c4:b4=false:=c4
   rw[c4,Bool.false_and]
   refine skF Tk ?_
   refine zaQ Tk Tryz.func23 (by kernel_rfl) ?_
   refine gcF Tk Tryz.func23 rfl ?_
   refine zak Tk (r:=ii 24) rfl rfl rfl trivial rfl rfl ?_
   rfl
 ·have c3:b3=false:=c3
  rw[c3,Bool.false_and]
  refine skF Tk ?_
  refine skF Tk ?_
  refine zaQ Tk Tryz.func23 (by kernel_rfl) ?_
  refine gcF Tk Tryz.func23 rfl ?_
  refine zak Tk (r:=ii 24) rfl rfl rfl trivial rfl rfl ?_
  rfl
end Go.AI


namespace Go.AI
section
variable {c:Cx} {s:St} {H:Heap} {O:List Heap}
end
end Go.AI


namespace Go.AI
open Go.Proofs
set_option maxRecDepth 20000
end Go.AI


namespace Go.AI
open Go.Proofs
set_option maxRecDepth 20000
theorem zta {x:Sk} (h:skOkB x) (hf:(lpR (mkS x)).1.states≤10):(lpR (mkS x)).2.length≤10:=by
 obtain⟨m1,m2,_⟩:=zmm h
 have:=(lp_g m1 (by have:=zup h;omega)).1.st
 omega
end Go.AI


namespace Go.Proofs.YtlcekmemdnjjbaaGreatDoor
open Go.ChangeShapes Go.WideShapes Go.ChangeAt Go.RowKit Go.Deep Go.WideElems
set_option maxRecDepth 100000
section
variable {H:Type} {enc:TypeId × Value→H} {P:Program} {W:World}
theorem znV {t e:TypeId} {m z:Nat} {R:List AI.I→Prop} (ht:P.underlying t=some (.array m e)) (hc:P.cellsOf e=z) (hct:P.cellsOf t=m * z) (he:Opn enc P W e R) :
  Opn enc P W t fun is=>∃ xs:List (List AI.I),xs.length=m∧is=xs.flatten∧∀ x∈xs,R x:=by
 intro n cs x h
 obtain⟨xs,f,rfl,rfl,hl,hlen,hx⟩:=DataW.trod_array ht h
 rw[hct] at hl
 have build:∀ k,k≤m→∃ ys:List (List AI.I),ys.length=k∧AI.RepL (KW W) (cs.take (k * z)) ys.flatten∧∀ y∈ys,R y:=by
  intro k
  induction k with
  | zero=>intro _;exact⟨[],rfl,by rw[Nat.zero_mul,List.take_zero];exact .nil,by simp⟩
  | succ k ih=>
   intro hk
   obtain⟨ys,h1,h2,h3⟩:=ih (by omega)
   have h0:=hx k (by omega)
   rw[hc,List.getElem?_eq_getElem (by omega)] at h0
   obtain⟨is,hr,hR⟩:=he _ _ _ h0
   refine⟨ys++[is],by simp[h1],?_,fun y hy=>?_⟩
   ·rw[Nat.succ_mul,List.take_add,List.flatten_append]
    simpa using zfK h2 hr
   ·rcases List.mem_append.1 hy with hy | hy
    ·exact h3 y hy
    ·rw[List.mem_singleton] at hy
     subst hy
     exact hR
 obtain⟨ys,h1,h2,h3⟩:=build m (Nat.le_refl _)
 rw[List.take_of_length_le (by omega)] at h2
 exact⟨_,h2,ys,h1,rfl,h3⟩
theorem zqu:∀ {xs:List (List AI.I)},(∀ x∈xs,∃ zs:List Int,zs.length=5∧x=zs.map (fun z=>AI.I.v (.int .u8 z))∧∀ z∈zs,(Lit.int .u8 z).wf=true)→∃ L:List Int,L.length=5 * xs.length∧xs.flatten=L.map (fun z=>AI.I.v (.int .u8 z))∧∀ z∈L,0≤z∧z≤255
 | [],_=>⟨[],rfl,rfl,by simp⟩
 | x::r,h=>by
  obtain⟨zs,h1,h2,h3⟩:=h x (by simp)
  obtain⟨L,g1,g2,g3⟩:=zqu (xs:=r) fun y hy=>h y (by simp[hy])
  refine⟨zs++L,by rw[List.length_append,h1,g1,List.length_cons];omega,by rw[List.flatten_cons,h2,g2,List.map_append],fun z hz=>?_⟩
  rcases List.mem_append.1 hz with hz | hz
  ·exact wf_u8 (h3 z hz)
  ·exact g3 z hz
def OpnB (enc:TypeId × Value→H) (P:Program) (W:World) (N:Nat) (t:TypeId) (R:List AI.I→Prop):Prop:=
 ∀ n,n<N→∀ cs x,DataW.trod enc P W 0 (fun _=>true) true n t cs=some x→∃ is,AI.RepL (KW W) cs is∧R is
theorem Opn.b {t:TypeId} {R:List AI.I→Prop} (h:Opn enc P W t R) (N:Nat):OpnB enc P W N t R:=fun n _ cs x hx=>h n cs x hx
theorem Opn.ofB {t:TypeId} {R:List AI.I→Prop} (h:∀ N,OpnB enc P W N t R):Opn enc P W t R:=fun n cs x hx=>h (n+1) n (Nat.lt_succ_self n) cs x hx
theorem OpnB.less {t:TypeId} {R:List AI.I→Prop} {N:Nat} (h:OpnB enc P W (N+1) t R):OpnB enc P W N t R:=fun n hn cs x hx=>h n (by omega) cs x hx
def AllP:List (List AI.I→Prop)→List (List AI.I)→Prop
 | [],[]=>True
 | R::Rs,a::l=>R a∧AllP Rs l
 | _,_=>False
def FldB (enc:TypeId × Value→H) (P:Program) (W:World) (N:Nat):List Field→List (List AI.I→Prop)→Prop
 | [],[]=>True
 | f::fs,R::Rs=>OpnB enc P W N f.type R∧FldB enc P W N fs Rs
 | _,_=>False
def SeqB (P:Program):Nat→List Field→Nat→Bool
 | o,[],n=>o==n
 | o,f::fs,n=>f.offset==o && SeqB P (o+P.cellsOf f.type) fs n
theorem zhJ {N n:Nat} (hn:n<N) {cs:List Value}:∀ {fs:List Field} {Rs:List (List AI.I→Prop)} {o:Nat},FldB enc P W N fs Rs→SeqB P o fs cs.length=true →
  (∀ f∈fs,∃ y,DataW.trod enc P W 0 (fun _=>true) true n f.type ((cs.drop f.offset).take (P.cellsOf f.type))=some y)→∃ parts,AI.RepL (KW W) (cs.drop o) parts.flatten∧AllP Rs parts
 | [],[],o,_,hs,_=>by
  have:o=cs.length:=by simpa [SeqB] using hs
  subst this
  exact⟨[],by simpa using AI.RepL.nil,trivial⟩
 | f::fs,R::Rs,o,⟨hf,hF⟩,hs,hx=>by
  simp only[SeqB,Bool.and_eq_true,beq_iff_eq] at hs
  obtain⟨rfl,hs⟩:=hs
  obtain⟨y,hy⟩:=hx f (by simp)
  obtain⟨a,ra,ha⟩:=hf n hn _ _ hy
  obtain⟨parts,rp,hp⟩:=zhJ hn hF hs fun g hg=>hx g (by simp[hg])
  refine⟨a::parts,?_,ha,hp⟩
  have e:cs.drop f.offset=(cs.drop f.offset).take (P.cellsOf f.type)++cs.drop (f.offset+P.cellsOf f.type):=by
   rw[← List.drop_drop,List.take_append_drop]
  rw[e,List.flatten_cons]
  exact zfK ra rp
 | [],_::_,_,h,_,_=>h.elim
 | _::_,[],_,h,_,_=>h.elim
theorem zkp {t:TypeId} {fs:Array Field} {Rs:List (List AI.I→Prop)} {N:Nat} (ht:P.underlying t=some (.struct fs)) (hs:SeqB P 0 fs.toList (P.cellsOf t)=true) (hf:FldB enc P W N fs.toList Rs) :
  OpnB enc P W (N+1) t fun is=>∃ parts,is=parts.flatten∧AllP Rs parts:=by
 intro n hn cs x h
 obtain⟨xs,m,rfl,rfl,hl,hlen,hx⟩:=DataW.trod_struct ht h
 rw[← hl] at hs
 obtain⟨parts,hr,hp⟩:=zhJ (n:=m) (by omega) hf hs fun f hfm=>by
  obtain⟨i,hi,e⟩:=List.mem_iff_getElem.1 hfm
  have h1:=hx i f (by rw[← e];simp)
  rw[h1]
  have:i<xs.length:=by rw[hlen];simpa using hi
  exact⟨xs[i],by simp[this]⟩
 exact⟨_,by simpa using hr,parts,rfl,hp⟩
end
section
variable {H:Type} {enc:TypeId × Value→H} {W:World}
abbrev u8V (z:Int):AI.I:=AI.I.v (.int .u8 z)
theorem opn_graph:Opn enc Tryz.prog W 26 fun is=>∃ (x y:Int) (L:List Int),is=[u8V x,u8V y]++L.map u8V∧0≤x∧L.length=25∧∀ z∈L,0≤z∧z≤255:=by
 intro n cs y hn
 obtain⟨is,hr,a,b,c,rfl,⟨x,rfl,hx⟩,⟨y,rfl,_⟩,⟨xs,h5,rfl,hxs⟩⟩:=zko Tryz.underlying26 (z0:=1) (z1:=1) (z2:=25) (by kernel_rfl) (by kernel_rfl) (by kernel_rfl) (by kernel_rfl) rfl rfl rfl
  (zgm Tryz.underlying5) (zgm Tryz.underlying5) (znV Tryz.underlying24 (z:=5) (by kernel_rfl) (by kernel_rfl) (zpJ Tryz.underlying23 Tryz.underlying5 (by kernel_rfl) (by kernel_rfl))) n _ _ hn
 obtain⟨L,g1,g2,g3⟩:=zqu hxs
 rw[h5] at g1
 rw[g2] at hr
 exact⟨_,hr,x,y,L,rfl,(wf_u8 hx).1,g1,g3⟩
theorem zqh {L:List Int} (h:∀ z∈L,0≤z∧z≤255) (j:Nat):0≤L.getD j 0∧L.getD j 0≤255:=by
 rw[List.getD_eq_getElem?_getD]
 cases hj:L[j]? with
 | none=>exact⟨by decide,by decide⟩
 | some z=>exact h z (List.mem_of_getElem? hj)
end
end Go.Proofs.YtlcekmemdnjjbaaGreatDoor


namespace Go.Proofs.YtlcekmemdnjjbaaGreatDoor
open Go.ChangeShapes Go.WideShapes Go.ChangeAt Go.RowKit Go.Deep Go.WideElems
set_option maxRecDepth 100000
section
variable {H:Type} {enc:TypeId × Value→H} {W:World}
theorem zjn {r:Reach} {b0:Nat} {v:Value} {d:DataW H} {p:List MemPlace} (hv:Value.okWide Tryz.prog W r b0 28 v) (h:DataW.Trod enc Tryz.prog W 0 (fun _=>true) true 28 v d p) :
  ∃ x:AI.Sk,(AI.skOkB x∧(0≤x.ob∧x.ob≤255)∧0≤x.ct∧x.ct≤255)∧∀ ρ sh,AI.RepD (KW W) ρ sh v (.agg (AI.skC x)):=by
 obtain⟨cs,rfl,_⟩:=okWide_struct Tryz.underlying28 hv
 obtain⟨n,hn⟩:=h
 have hop:Opn enc Tryz.prog W 28 fun is=>∃ parts,is=parts.flatten∧AllP [_,_,_,_,_] parts:=Opn.ofB fun N=>(zkp (Rs:=[_,_,_,_,_]) Tryz.underlying28 (by kernel_rfl) ⟨(zgm Tryz.underlying22).b N,opn_graph.b N,opn_graph.b N,(zgm Tryz.underlying22).b N,(zgm Tryz.underlying22).b N,trivial⟩).less
 obtain⟨is,hr,parts,rfl,hp⟩:=hop n _ _ hn
 match parts,hp with
 | [_,_,_,_,_],⟨⟨st,e1,_⟩,⟨ps,pm,L,e2,hps,hL,hLb⟩,⟨ss,sm,M,e3,hss,hM,hMb⟩,⟨ob,e4,hob⟩,⟨ct,e5,hct⟩,_⟩=>
  subst e1 e2 e3 e4 e5
  refine⟨⟨st,ps,pm,fun j=>L.getD j 0,ss,sm,fun j=>M.getD j 0,ob,ct⟩,⟨⟨⟨hps,zqh hLb⟩,⟨hss,zqh hMb⟩⟩,wf_u8 hob,wf_u8 hct⟩,fun ρ sh=>?_⟩
  have:=AI.RepD.agg (AI.RepDL.ofL (ρ:=ρ) (sh:=sh) hr)
  match L,hL,M,hM with
  | [a0,a1,a2,a3,a4,a5,a6,a7,a8,a9,a10,a11,a12,a13,a14,a15,a16,a17,a18,a19,a20,a21,a22,a23,a24],_,[b0,b1,b2,b3,b4,b5,b6,b7,b8,b9,b10,b11,b12,b13,b14,b15,b16,b17,b18,b19,b20,b21,b22,b23,b24],_=>exact this
end
end Go.Proofs.YtlcekmemdnjjbaaGreatDoor
