/- The layer of abstract runs, part 30. -/
import Derived.Test.YtlcekmemdnjjbaaGreatDoorCorZC
set_option linter.unusedSimpArgs false
set_option linter.unusedVariables false
set_option linter.all false

set_option maxHeartbeats 4000000
namespace Go.AI
def cmpI (x y:Int):Int:=if x<y then -1 else if x>y then 1 else 0
def cmpL:List Int→List Int→Int
 | [],[]=>0
 | [],_::_=>-1
 | _::_,[]=>1
 | a::r,b::s=>if cmpI a b≠0 then cmpI a b else cmpL r s
def cmpW (a b:List Int):Int:=if cmpI a.length b.length≠0 then cmpI a.length b.length else cmpL a b
def rkA:Nat→List Int→Nat
 | r,[]=>r
 | r,e::w=>rkA (r * 33+e.toNat+1) w
abbrev rk (w:List Int):Nat:=rkA 0 w
abbrev inW (w:List Int):Prop:=∀ x∈w,0≤x∧x<32
theorem zl9:∀ (w:List Int) (r:Nat) (e:Int),rkA r (w++[e])=rkA r w * 33+e.toNat+1
 | [],r,e=>rfl
 | x::w,r,e=>by
  simp only[List.cons_append,rkA]
  exact zl9 w _ e
theorem zbz (w:List Int) (e:Int):rk (w++[e])=rk w * 33+e.toNat+1:=zl9 w 0 e
theorem zh8:∀ {a b:List Int} {r s:Nat},inW a→a.length=b.length→r<s→rkA r a<rkA s b
 | [],[],_,_,_,_,h=>h
 | [],_::_,_,_,_,h,_=>by simp at h
 | _::_,[],_,_,_,h,_=>by simp at h
 | x::a,y::b,r,s,ha,hl,h=>by
  simp only[rkA]
  have:=ha x (by simp)
  exact zh8 (fun z hz=>ha z (by simp[hz])) (by simpa using hl) (by omega)
theorem zgW (x:Int):cmpI x x=0:=by unfold cmpI;rw[if_neg (by omega),if_neg (by omega)]
theorem zqT:∀ {a b:List Int} {r:Nat},inW a→inW b→a.length=b.length→cmpL a b=cmpI (rkA r a:Int) (rkA r b:Int)
 | [],[],r,_,_,_=>by rw[cmpL,rkA,zgW]
 | [],_::_,_,_,_,h=>by simp at h
 | _::_,[],_,_,_,h=>by simp at h
 | x::a,y::b,r,ha,hb,hl=>by
  have hx:=ha x (by simp)
  have hy:=hb y (by simp)
  have ha':inW a:=fun z hz=>ha z (by simp[hz])
  have hb':inW b:=fun z hz=>hb z (by simp[hz])
  have hl':a.length=b.length:=by simpa using hl
  simp only[cmpL,rkA]
  rcases Int.lt_trichotomy x y with h | h | h
  ·have h1:cmpI x y = -1:=by unfold cmpI;rw[if_pos h]
   rw[h1,if_pos (by decide)]
   have:=zh8 (r:=r * 33+x.toNat+1) (s:=r * 33+y.toNat+1) ha' hl' (by omega)
   unfold cmpI
   rw[if_pos (by omega)]
  ·subst h
   rw[zgW,if_neg (by simp)]
   exact zqT ha' hb' hl'
  ·have h1:cmpI x y=1:=by unfold cmpI;rw[if_neg (by omega),if_pos h]
   rw[h1,if_pos (by decide)]
   have:=zh8 (r:=r * 33+y.toNat+1) (s:=r * 33+x.toNat+1) hb' hl'.symm (by omega)
   unfold cmpI
   rw[if_neg (by omega),if_pos (by omega)]
theorem zbV (w:List Int):w=[]∨∃ v e,w=v++[e]:=by
 by_cases h:w=[]
 ·exact .inl h
 ·exact .inr ⟨w.dropLast,w.getLast h,(List.dropLast_concat_getLast h).symm⟩
theorem zl7:∀ (n:Nat) {a b:List Int},a.length≤n→inW a→a.length<b.length→rk a<rk b
 | n,a,b,hn,ha,hl=>by
  rcases zbV b with rfl | ⟨v,f,rfl⟩
  ·simp at hl
  rw[zbz]
  rcases zbV a with rfl | ⟨u,e,rfl⟩
  ·show rkA 0 []<_
   rw[rkA]
   omega
  ·cases n with
   | zero=>simp at hn
   | succ n=>
    rw[zbz]
    simp only[List.length_append,List.length_singleton] at hl hn
    have:=zl7 n (a:=u) (b:=v) (by omega) (fun z hz=>ha z (by simp[hz])) (by omega)
    have he:=ha e (by simp)
    omega
theorem zuY {a b:List Int} (ha:inW a) (hb:inW b):cmpW a b=cmpI (rk a:Int) (rk b:Int):=by
 unfold cmpW
 rcases Nat.lt_trichotomy a.length b.length with h | h | h
 ·have h1:cmpI (a.length:Int) (b.length:Int) = -1:=by unfold cmpI;rw[if_pos (by omega)]
  have:=zl7 _ (Nat.le_refl _) ha h
  rw[h1,if_pos (by decide)]
  unfold cmpI
  rw[if_pos (by omega)]
 ·rw[h,zgW,if_neg (by simp)]
  exact zqT ha hb h
 ·have h1:cmpI (a.length:Int) (b.length:Int)=1:=by unfold cmpI;rw[if_neg (by omega),if_pos (by omega)]
  have:=zl7 _ (Nat.le_refl _) hb h
  rw[h1,if_pos (by decide)]
  unfold cmpI
  rw[if_neg (by omega),if_pos (by omega)]
theorem zey {a b:List Int} (ha:inW a) (hb:inW b):cmpW a b<0 ↔ rk a<rk b:=by
 rw[zuY ha hb]
 unfold cmpI
 by_cases h:(rk a:Int)<rk b
 ·rw[if_pos h];constructor <;> intro _ <;> omega
 ·rw[if_neg h]
  split <;> constructor <;> intro _ <;> omega
theorem ztd:∀ (n:Nat) {a b:List Int},a.length≤n→inW a→inW b→rk a=rk b→a=b
 | n,a,b,hn,ha,hb,h=>by
  rcases zbV a with rfl | ⟨u,e,rfl⟩
  ·rcases zbV b with rfl | ⟨v,f,rfl⟩
   ·rfl
   ·rw[zbz] at h
    have:rk []=0:=rfl
    omega
  ·cases n with
   | zero=>simp at hn
   | succ n=>
    rcases zbV b with rfl | ⟨v,f,rfl⟩
    ·rw[zbz] at h
     have:rk []=0:=rfl
     omega
    ·rw[zbz,zbz] at h
     have he:=ha e (by simp)
     have hf:=hb f (by simp)
     simp only[List.length_append,List.length_singleton] at hn
     have h1:rk u=rk v:=by omega
     have h2:e=f:=by omega
     rw[ztd n (a:=u) (b:=v) (by omega) (fun z hz=>ha z (by simp[hz])) (fun z hz=>hb z (by simp[hz])) h1,h2]
theorem zpt {a b:List Int} (ha:inW a) (hb:inW b) (h:rk a=rk b):a=b:=ztd _ (Nat.le_refl _) ha hb h
theorem znM {a b:List Int} {e:Int} (h:rk a≤rk b):rk (a++[e])≤rk (b++[e]):=by
 rw[zbz,zbz];omega
theorem zl8:∀ (n:Nat) {a:List Int},inW a→a.length≤n→rk a<33 ^ n
 | n,a,ha,hn=>by
  rcases zbV a with rfl | ⟨u,e,rfl⟩
  ·show rkA 0 []<_
   rw[rkA]
   exact Nat.pow_pos (by decide)
  ·cases n with
   | zero=>simp at hn
   | succ n=>
    simp only[List.length_append,List.length_singleton] at hn
    have:=zl8 n (a:=u) (fun z hz=>ha z (by simp[hz])) (by omega)
    have he:=ha e (by simp)
    rw[zbz,Nat.pow_succ]
    omega
theorem zr1 {a b:List Int} (ha:inW a) (hb:inW b) (h:rk a≤rk b):a.length≤b.length:=by
 rcases Nat.lt_or_ge b.length a.length with h1 | h1
 ·have:=zl7 _ (Nat.le_refl _) hb h1
  omega
 ·exact h1
end Go.AI


namespace Go.AI
set_option maxRecDepth 20000
theorem zfe {u v:List Int} {a b:Int} (ha:0≤a∧a<32) (h:rk u<rk v):rk (u++[a])<rk (v++[b]):=by
 rw[zbz,zbz]
 omega
theorem zff {u:List Int} {a b:Int} (ha:0≤a) (h:a<b):rk (u++[a])<rk (u++[b]):=by
 rw[zbz,zbz]
 omega
theorem zfd {u:List Int} {a:Int}:rk u<rk (u++[a]):=by
 rw[zbz]
 omega
section
variable {S:Type} [DecidableEq S]
inductive GP (nx:S→Int→S) (evs:S→List Int) (s0:S):S→List Int→Prop
 | base:GP nx evs s0 s0 []
 | step {s:S} {w:List Int} {e:Int}:GP nx evs s0 s w→e∈evs s→GP nx evs s0 (nx s e) (w++[e])
structure BI (nx:S→Int→S) (evs:S→List Int) (s0:S) (i:Nat) (l:List (S × List Int)):Prop where
 hd:l[0]? = some (s0,[])
 srt:l.Pairwise (fun a b=>rk a.2<rk b.2)
 inw:∀ z∈l,inW z.2
 gp:∀ z∈l,GP nx evs s0 z.1 z.2
 frm:∀ z∈l,z.2=[]∨∃ (j:Nat) (y:S × List Int) (ev:Int),j<i∧l[j]? = some y∧z.2=y.2++[ev]∧0≤ev∧ev<32
 cov:∀ (j:Nat) y,j<i→l[j]? = some y→∀ ev∈evs y.1,∃ z∈l,z.1=nx y.1 ev∧rk z.2≤rk (y.2++[ev])
structure BJ (nx:S→Int→S) (evs:S→List Int) (s0:S) (i:Nat) (x:S × List Int) (done:List Int) (l:List (S × List Int)):Prop where
 hd:l[0]? = some (s0,[])
 at_:l[i]? = some x
 srt:l.Pairwise (fun a b=>rk a.2<rk b.2)
 inw:∀ z∈l,inW z.2
 gp:∀ z∈l,GP nx evs s0 z.1 z.2
 frm:∀ z∈l,z.2=[]∨∃ (j:Nat) (y:S × List Int) (ev:Int),(j<i∨(j=i∧ev∈done))∧l[j]? = some y∧z.2=y.2++[ev]∧0≤ev∧ev<32
 cov:∀ (j:Nat) y,j<i→l[j]? = some y→∀ ev∈evs y.1,∃ z∈l,z.1=nx y.1 ev∧rk z.2≤rk (y.2++[ev])
 cox:∀ ev∈done,∃ z∈l,z.1=nx x.1 ev∧rk z.2≤rk (x.2++[ev])
theorem zvp {l:List (S × List Int)} (h:l.Pairwise (fun a b=>rk a.2<rk b.2)) {i j:Nat} {x y:S × List Int} (hij:i<j) (hi:l[i]? = some x) (hj:l[j]? = some y):rk x.2<rk y.2:=by
 obtain⟨h1,rfl⟩:=List.getElem?_eq_some_iff.1 hi
 obtain⟨h2,rfl⟩:=List.getElem?_eq_some_iff.1 hj
 exact List.pairwise_iff_getElem.1 h i j h1 h2 hij
variable {nx:S→Int→S} {evs:S→List Int} {s0:S}
theorem BJ.step {i:Nat} {x:S × List Int} (he32:∀ ev∈evs x.1,0≤ev∧ev<32):∀ (es done:List Int) (l:List (S × List Int)),done++es=evs x.1→(done++es).Pairwise (· < ·)→BJ nx evs s0 i x done l→BJ nx evs s0 i x (evs x.1) (bvis nx (fun _=>true) x es l)
 | [],done,l,h1,h2,h=>by
  rw[List.append_nil] at h1
  subst h1
  exact h
 | ev::r,done,l,h1,h2,h=>by
  simp only[bvis]
  have hev:ev∈evs x.1:=by rw[← h1];simp
  have h32:=he32 ev hev
  have hlt:∀ e' ∈ done,e' < ev:=fun e' he'=>(List.pairwise_append.1 h2).2.2 e' he' ev (by simp)
  refine BJ.step he32 r (done++[ev]) _ (by rw[List.append_assoc];exact h1) (by rw[List.append_assoc];exact h2) ?_
  have hsm:∀ z∈l,rk z.2<rk (x.2++[ev]):=fun z hz=>by
   rcases h.frm z hz with h0 | ⟨j,y,e',hj,hy,hz2,he1,he2⟩
   ·rw[h0]
    exact Nat.lt_of_le_of_lt (Nat.zero_le _) zfd
   ·rw[hz2]
    rcases hj with hj | ⟨rfl,hd⟩
    ·exact zfe ⟨he1,he2⟩ (zvp h.srt hj hy h.at_)
    ·rw[h.at_] at hy
     obtain rfl:=Option.some.inj hy
     exact zff he1 (hlt e' hd)
  by_cases c:∀ z∈l,z.1≠nx x.1 ev
  ·rw[if_pos ⟨trivial,c⟩]
   have hget:∀ {j:Nat} {y:S × List Int},l[j]? = some y→(l++[(nx x.1 ev,x.2++[ev])])[j]? = some y:=fun {j y} hy=>by
    rw[List.getElem?_append_left (List.getElem?_eq_some_iff.1 hy).1];exact hy
   have hxm:=List.mem_of_getElem? h.at_
   have hx:=h.inw x hxm
   refine⟨hget h.hd,hget h.at_,?_,?_,?_,?_,?_,?_⟩
   ·rw[List.pairwise_append]
    exact⟨h.srt,List.pairwise_singleton _ _,fun a ha b hb=>by rw[List.mem_singleton.1 hb];exact hsm a ha⟩
   ·intro z hz
    rcases List.mem_append.1 hz with hz | hz
    ·exact h.inw z hz
    ·rw[List.mem_singleton.1 hz]
     intro y hy
     rcases List.mem_append.1 hy with hy | hy
     ·exact hx y hy
     ·rw[List.mem_singleton.1 hy];exact h32
   ·intro z hz
    rcases List.mem_append.1 hz with hz | hz
    ·exact h.gp z hz
    ·rw[List.mem_singleton.1 hz]
     exact .step (h.gp x hxm) hev
   ·intro z hz
    rcases List.mem_append.1 hz with hz | hz
    ·rcases h.frm z hz with h0 | ⟨j,y,e',hj,hy,hz2,he1,he2⟩
     ·exact .inl h0
     ·exact .inr ⟨j,y,e',hj.imp id (fun h=>⟨h.1,by simp[h.2]⟩),hget hy,hz2,he1,he2⟩
    ·rw[List.mem_singleton.1 hz]
     exact .inr ⟨i,x,ev,.inr ⟨rfl,by simp⟩,hget h.at_,rfl,h32.1,h32.2⟩
   ·intro j y hj hy e' he'
    have hy':l[j]? = some y:=by
     have hil:=(List.getElem?_eq_some_iff.1 h.at_).1
     rwa [List.getElem?_append_left (by omega)] at hy
    obtain⟨z,hz,e1,e2⟩:=h.cov j y hj hy' e' he'
    exact⟨z,by simp[hz],e1,e2⟩
   ·intro e' he'
    rcases List.mem_append.1 he' with he' | he'
    ·obtain⟨z,hz,e1,e2⟩:=h.cox e' he'
     exact⟨z,by simp[hz],e1,e2⟩
    ·rw[List.mem_singleton.1 he']
     exact⟨(nx x.1 ev,x.2++[ev]),by simp,rfl,Nat.le_refl _⟩
  ·rw[if_neg (fun h=>c h.2)]
   obtain⟨z0,hz0,hz1⟩:∃ z∈l,z.1=nx x.1 ev:=Classical.byContradiction fun hn=>c fun z hz he=>hn ⟨z,hz,he⟩
   refine⟨h.hd,h.at_,h.srt,h.inw,h.gp,?_,h.cov,?_⟩
   ·intro z hz
    rcases h.frm z hz with h0 | ⟨j,y,e',hj,hy,hz2,he1,he2⟩
    ·exact .inl h0
    ·exact .inr ⟨j,y,e',hj.imp id (fun h=>⟨h.1,by simp[h.2]⟩),hy,hz2,he1,he2⟩
   ·intro e' he'
    rcases List.mem_append.1 he' with he' | he'
    ·exact h.cox e' he'
    ·rw[List.mem_singleton.1 he']
     exact⟨z0,hz0,hz1,Nat.le_of_lt (hsm z0 hz0)⟩
theorem BI.next {i:Nat} {l:List (S × List Int)} {x:S × List Int} (he:∀ s,(evs s).Pairwise (· < ·)∧∀ ev∈evs s,0≤ev∧ev<32) (h:BI nx evs s0 i l) (hx:l[i]? = some x):BI nx evs s0 (i+1) (bvis nx (fun _=>true) x (evs x.1) l):=by
 have h1:BJ nx evs s0 i x [] l:=⟨h.hd,hx,h.srt,h.inw,h.gp,fun z hz=>(h.frm z hz).imp id fun ⟨j,y,e,a,b⟩=>⟨j,y,e,.inl a,b⟩,h.cov,fun ev hev=>by cases hev⟩
 have h2:=BJ.step (he x.1).2 (evs x.1) [] l rfl (he x.1).1 h1
 refine⟨h2.hd,h2.srt,h2.inw,h2.gp,fun z hz=>(h2.frm z hz).imp id fun ⟨j,y,e,a,b⟩=>⟨j,y,e,by omega,b⟩,fun j y hj hy ev hev=>?_⟩
 by_cases hji:j<i
 ·exact h2.cov j y hji hy ev hev
 ·obtain rfl:j=i:=by omega
  rw[h2.at_] at hy
  obtain rfl:=Option.some.inj hy
  exact h2.cox ev hev
theorem BI.low {i:Nat} {l:List (S × List Int)} {x:S × List Int} (h:BI nx evs s0 i l) (hx:l[i]? = some x):∀ s w,GP nx evs s0 s w→rk w<rk x.2→∃ (j:Nat) (y:S × List Int),j<i∧l[j]? = some y∧y.1=s∧rk y.2≤rk w:=by
 have hidx:∀ z∈l,rk z.2<rk x.2→∃ j:Nat,j<i∧l[j]? = some z:=fun z hz hlt=>by
  obtain⟨j,hj⟩:=List.getElem?_of_mem hz
  refine⟨j,Classical.byContradiction fun hn=>?_,hj⟩
  by_cases hji:j=i
  ·subst hji
   rw[hx] at hj
   obtain rfl:=Option.some.inj hj
   omega
  ·have:=zvp h.srt (show i<j by omega) hx hj
   omega
 intro s w hp
 induction hp with
 | base=>
  intro hlt
  obtain⟨j,hj,hl⟩:=hidx (s0,[]) (List.mem_of_getElem? h.hd) hlt
  exact⟨j,_,hj,hl,rfl,Nat.le_refl _⟩
 | @step s w e hp hev ih=>
  intro hlt
  obtain⟨j,y,hj,hy,e1,e2⟩:=ih (Nat.lt_trans zfd hlt)
  obtain⟨z,hz,f1,f2⟩:=h.cov j y hj hy e (by rw[e1];exact hev)
  have h3:rk z.2≤rk (w++[e]):=Nat.le_trans f2 (znM e2)
  obtain⟨k,hk,hl⟩:=hidx z hz (by omega)
  exact⟨k,z,hk,hl,by rw[f1,e1],h3⟩
theorem zhN {bad:S→Bool} (he:∀ s,(evs s).Pairwise (· < ·)∧∀ ev∈evs s,0≤ev∧ev<32):∀ (f i:Nat) (l:List (S × List Int)) (z:S × List Int),BI nx evs s0 i l→(∀ (j:Nat) y,j<i→l[j]? = some y→bad y.1=false)→bsr nx (fun _=>true) evs bad f i l=some z →
  bad z.1=true∧GP nx evs s0 z.1 z.2∧inW z.2∧∀ s w,GP nx evs s0 s w→bad s=true→rk z.2≤rk w
 | 0,i,l,z,h,hb,hz=>by simp[bsr] at hz
 | f+1,i,l,z,h,hb,hz=>by
  simp only[bsr] at hz
  cases hx:l[i]? with
  | none=>rw[hx] at hz;cases hz
  | some x=>
   rw[hx] at hz
   simp only at hz
   by_cases c:bad x.1=true
   ·rw[if_pos c] at hz
    obtain rfl:=Option.some.inj hz
    have hxm:=List.mem_of_getElem? hx
    refine⟨c,h.gp x hxm,h.inw x hxm,fun s w hp hs=>Classical.byContradiction fun hn=>?_⟩
    obtain⟨j,y,hj,hy,e1,_⟩:=h.low hx s w hp (by omega)
    have:=hb j y hj hy
    rw[e1,hs] at this
    cases this
   ·rw[if_neg c] at hz
    refine zhN he f (i+1) _ z (h.next he hx) (fun j y hj hy=>?_) hz
    obtain⟨r,hr⟩:=zb5 nx (fun _=>true) x (evs x.1) l
    have hil:=(List.getElem?_eq_some_iff.1 hx).1
    rw[← hr,List.getElem?_append_left (by omega)] at hy
    by_cases hji:j<i
    ·exact hb j y hji hy
    ·obtain rfl:j=i:=by omega
     rw[hx] at hy
     obtain rfl:=Option.some.inj hy
     simpa using c
theorem zjZ {bad:S→Bool} (he:∀ s,(evs s).Pairwise (· < ·)∧∀ ev∈evs s,0≤ev∧ev<32) {f:Nat} {z:S × List Int} (hz:bsr nx (fun _=>true) evs bad f 0 [(s0,[])]=some z) :
  bad z.1=true∧GP nx evs s0 z.1 z.2∧inW z.2∧∀ s w,GP nx evs s0 s w→bad s=true→rk z.2≤rk w:=
 zhN he f 0 _ z ⟨rfl,List.pairwise_singleton _ _,(fun z hz=>by rw[List.mem_singleton.1 hz];exact fun y hy=>by cases hy),(fun z hz=>by rw[List.mem_singleton.1 hz];exact .base),(fun z hz=>by rw[List.mem_singleton.1 hz];exact .inl rfl),(fun j y hj=>by omega)⟩ (fun j y hj=>by omega) hz
end
end Go.AI


namespace Go.AI
open Go.Proofs
set_option maxRecDepth 20000
theorem ztJ (O:List Heap) (x y:Int):zan Tryz.prog 148 [ii x,ii y] O (ii (cmpI x y)) [] O:=by
 have h:=fun O x=>zp5 O x
 unfold cmpI
 refine zad Tk Tryz.func148 rfl Tryz.call148 Tryz.ntmps148 (Nat.le_of_ble_eq_true rfl) fun E=>?_
 refine zae Tk Tryz.func148 ?_
 refine zaf Tk Tryz.func148 (h _ _) rfl rfl rfl rfl rfl ?_
 refine zaf Tk Tryz.func148 (h _ _) rfl rfl rfl rfl rfl ?_
 refine gcF Tk Tryz.func148 rfl ?_
 refine gcF Tk Tryz.func148 rfl ?_
 refine zai Tk Tryz.func148 rfl (fun c1=>?_) (fun c1=>?_)
 ·have c1:x<y:=of_decide_eq_true c1
  rw[if_pos c1]
  refine zak Tk (r:=ii (-1)) rfl rfl rfl trivial rfl rfl ?_
  rfl
 have c1:¬ x<y:=of_decide_eq_false c1
 rw[if_neg c1]
 refine zai Tk Tryz.func148 rfl (fun c2=>?_) (fun c2=>?_)
 ·have c2:x>y:=of_decide_eq_true c2
  rw[if_pos c2]
  refine zak Tk (r:=ii 1) rfl rfl rfl trivial rfl rfl ?_
  rfl
 ·have c2:¬ x>y:=of_decide_eq_false c2
  rw[if_neg c2]
  refine zak Tk (r:=ii 0) rfl rfl rfl trivial rfl rfl ?_
  rfl
theorem zsT:∀ {a b:List Int},a=[]→cmpL a b=if a.length<b.length then -1 else 0
 | _,[],rfl=>rfl
 | _,_::_,rfl=>by simp[cmpL]
theorem zv1 (O:List Heap) (a b:List Int) (ha:a.length≤1000000) (hb:b.length≤1000000):zan Tryz.prog 149 [ints a,ints b] O (ii (cmpL a b)) [] O:=by
 have h:=fun O x y=>ztJ O x y
 obtain⟨R,hR⟩:∃ R,R=cmpL (a.drop 0) (b.drop 0):=⟨_,rfl⟩
 have e0:cmpL a b=R:=hR.symm
 rw[e0]
 refine zad Tk Tryz.func149 rfl Tryz.call149 Tryz.ntmps149 (Nat.le_of_ble_eq_true rfl) fun E=>?_
 refine zae Tk Tryz.func149 ?_
 refine zac ?_
 refine zah (fun i:Nat=>[(0,ints a),(1,ints b),(9,ints a),(10,ii a.length),(11,ii i)]) (fun _=>[]) (fun _=>O) 36
  (fun i=>(i≤a.length∧i≤b.length)∧R=cmpL (a.drop i) (b.drop i)) (fun i=>a.length - i) 0 ⟨⟨Nat.zero_le _,Nat.zero_le _⟩,hR⟩ ⟨rfl,rfl,rfl,rfl,rfl,trivial⟩ rfl trivial rfl rfl ?_
 clear hR e0
 rintro i ⟨⟨hi,hib⟩,hno⟩ ih
 refine zae Tk Tryz.func149 ?_
 refine zai Tk Tryz.func149 rfl (fun g1=>?_) (fun g1=>?_)
 ·have h3:i<a.length:=by simpa using g1
  clear g1
  have hi1:ii (IntKind.i64.wrap ((i:Int)+1))=ii ((i+1:Nat):Int):=congrArg ii (zaC (n:=1000001) (by omega) (by decide))
  have ga:(a.map fun x=>[vi x])[(i:Int).toNat]? = some [vi a[i]]:=zaj (f:=fun x=>[vi x]) h3
  have da:a.drop i=a[i]::a.drop (i+1):=List.drop_eq_getElem_cons h3
  refine zag Tk Tryz.func149 (by exact⟨by omega,by show (i:Int)<(a.length:Int);omega⟩) ?_
  refine zap Tk Tryz.func149 (ga) ?_
  refine zai Tk Tryz.func149 rfl (fun c1=>?_) (fun c1=>?_)
  ·have c1:(i:Int) ≥ (b.length:Int):=of_decide_eq_true c1
   rw[da,List.drop_eq_nil_of_le (show b.length≤i by omega)] at hno
   simp only[cmpL] at hno
   subst hno
   refine zak Tk (r:=ii 1) rfl rfl rfl trivial rfl rfl ?_
   rfl
  have c1:¬ (i:Int) ≥ (b.length:Int):=of_decide_eq_false c1
  have h4:i<b.length:=by omega
  have gb:(b.map fun x=>[vi x])[(i:Int).toNat]? = some [vi b[i]]:=zaj (f:=fun x=>[vi x]) h4
  have db:b.drop i=b[i]::b.drop (i+1):=List.drop_eq_getElem_cons h4
  rw[da,db] at hno
  simp only[cmpL] at hno
  clear da db ga
  generalize a[i]=x at *
  generalize b[i]=y at *
  have h':=fun O=>h O x y
  generalize cmpI x y=t at *
  refine zag Tk Tryz.func149 (by exact⟨by omega,by show (i:Int)<(b.length:Int);omega⟩) ?_
  refine zap Tk Tryz.func149 (gb) ?_
  refine zaf Tk Tryz.func149 (h' _) rfl rfl rfl rfl rfl ?_
  refine zai Tk Tryz.func149 rfl (fun c2=>?_) (fun c2=>?_)
  ·have c2:t≠0:=by simpa using c2
   rw[if_pos c2] at hno
   subst hno
   refine zak Tk (r:=ii R) rfl rfl rfl trivial rfl rfl ?_
   rfl
  ·have c2:¬ t≠0:=by simpa using c2
   rw[if_neg c2] at hno
   refine zac ?_
   refine ih (i+1) _ _ ⟨⟨h3,h4⟩,hno⟩ (by omega) ⟨rfl,rfl,rfl,rfl,hi1,trivial⟩ rfl trivial rfl rfl
 ·have h3:a.length≤i:=by simpa using g1
  rw[zsT (List.drop_eq_nil_of_le h3),List.length_drop,List.length_drop] at hno
  refine zai Tk Tryz.func149 rfl (fun c1=>?_) (fun c1=>?_)
  ·have c1:(a.length:Int)<(b.length:Int):=of_decide_eq_true c1
   rw[if_pos (by omega)] at hno
   subst hno
   refine zak Tk (r:=ii (-1)) rfl rfl rfl trivial rfl rfl ?_
   rfl
  ·have c1:¬ (a.length:Int)<(b.length:Int):=of_decide_eq_false c1
   rw[if_neg (by omega)] at hno
   subst hno
   refine zak Tk (r:=ii 0) rfl rfl rfl trivial rfl rfl ?_
   rfl
theorem zwg (O:List Heap) (x y:Int):zan Tryz.prog 147 [.i (.sl 1 2 [[vi x],[vi y]])] O (ii (if x≠0 then x else y)) [] O:=by
 refine zad Tk Tryz.func147 rfl Tryz.call147 Tryz.ntmps147 (Nat.le_of_ble_eq_true rfl) fun E=>?_
 refine zae Tk Tryz.func147 ?_
 refine zac ?_
 refine zae Tk Tryz.func147 ?_
 refine gcT Tk Tryz.func147 rfl ?_
 refine zag Tk Tryz.func147 (by decide) ?_
 refine zap Tk Tryz.func147 (rfl) ?_
 refine zai Tk Tryz.func147 rfl (fun c1=>?_) (fun c1=>?_)
 ·have c1:x≠0:=by simpa using c1
  rw[if_pos c1]
  refine zak Tk (r:=ii x) rfl rfl rfl trivial rfl rfl ?_
  rfl
 have c1:¬ x≠0:=by simpa using c1
 rw[if_neg c1]
 refine zac ?_
 refine zae Tk Tryz.func147 ?_
 refine gcT Tk Tryz.func147 rfl ?_
 refine zag Tk Tryz.func147 (by decide) ?_
 refine zap Tk Tryz.func147 (rfl) ?_
 refine zai Tk Tryz.func147 rfl (fun c2=>?_) (fun c2=>?_)
 ·refine zak Tk (r:=ii y) rfl rfl rfl trivial rfl rfl ?_
  rfl
 have c2:¬ y≠0:=by simpa using c2
 obtain rfl:y=0:=Classical.byContradiction c2
 refine zac ?_
 refine zae Tk Tryz.func147 ?_
 refine gcF Tk Tryz.func147 rfl ?_
 refine zak Tk (r:=ii 0) rfl rfl rfl trivial rfl rfl ?_
 rfl
theorem zmI (O:List Heap) (a b:List Int) (ha:a.length≤1000000) (hb:b.length≤1000000):zan Tryz.prog 101 [ints a,ints b] O (ii (cmpW a b)) [] O:=by
 have h1:=fun O=>ztJ O a.length b.length
 have h2:=fun O=>zv1 O a b ha hb
 have h3:=fun O=>zwg O (cmpI a.length b.length) (cmpL a b)
 unfold cmpW
 generalize cmpI a.length b.length=x at *
 generalize cmpL a b=y at *
 refine zad Tk Tryz.func101 rfl Tryz.call101 Tryz.ntmps101 (Nat.le_of_ble_eq_true rfl) fun E=>?_
 refine zae Tk Tryz.func101 ?_
 refine zaf Tk Tryz.func101 (h1 _) rfl rfl rfl rfl rfl ?_
 refine zaf Tk Tryz.func101 (h2 _) rfl rfl rfl rfl rfl ?_
 refine zaf Tk Tryz.func101 (h3 _) rfl rfl rfl rfl rfl ?_
 refine zak Tk (r:=ii (if x≠0 then x else y)) rfl rfl rfl trivial rfl rfl ?_
 rfl
theorem zmJ (O:List Heap) (l:List Int) (hl:l.length≤1000000):zan Tryz.prog 77 [ints l] O (.osl 0 207) [(207,zat l)] O:=by
 refine zad Tk Tryz.func77 rfl Tryz.call77 Tryz.ntmps77 (Nat.le_of_ble_eq_true rfl) fun E=>?_
 refine zae Tk Tryz.func77 ?_
 refine zqn Tk Tryz.func77 rfl rfl fun b hb=>?_
 refine zai Tk Tryz.func77 rfl (fun h1=>?_) (fun h1=>?_)
 ·have hl0:l=[]:=List.eq_nil_of_length_eq_zero (hb h1)
  subst hl0
  refine zcG (zcg 2 207 3 1 rfl rfl rfl) ?_
  exact⟨zbm (hT:=Tk) (r:=.osl 0 207) rfl rfl rfl ⟨⟨_,rfl,rfl⟩,trivial⟩ (zen _ _ _) rfl rfl⟩
 ·refine zag Tk Tryz.func77 (by exact⟨by show (0+l.length) * 8≤140737488355328;omega,by show 0+l.length≤9223372036854775807;omega⟩) ?_
  refine zcG (ziV (l:=[(2,.osl 0 7)]) (Hv:=[(7,.arr 3 1 (0+l.length) ([]++l.map fun x=>[vi x]) true)]) ⟨rfl,trivial⟩ rfl ⟨rfl,trivial⟩ rfl rfl) ?_
  rw[Nat.zero_add,List.nil_append]
  refine zcG (zcV 7 207 rfl rfl rfl) ?_
  exact⟨zbm (hT:=Tk) (r:=.osl 0 207) rfl rfl rfl ⟨⟨_,rfl,rfl⟩,trivial⟩ (zen _ _ _) rfl rfl⟩
end Go.AI


namespace Go.AI
abbrev Fd:=Int × List Int
inductive RP (a:Aut) (on:List Int) (frm:List Fd):Int→List Int→Prop
 | base {x:Fd}:x∈frm→RP a on frm x.1 x.2
 | step {s e:Int} {w:List Int}:RP a on frm s w→e∈a.alpha→e ∉ on→0≤stp3 a.edges s e→RP a on frm (stp3 a.edges s e) (w++[e])
structure fdOk (a:Aut) (n:Nat) (frm:List Fd):Prop where
 al:∀ e∈a.alpha,0≤e∧e<32
 st:∀ e∈a.edges,0≤e.2.2∧e.2.2<(n:Int)
 rng:∀ x∈frm,0≤x.1∧x.1<(n:Int)
 wrd:∀ x∈frm,inW x.2
theorem zcY {es:List Edg} {s ev:Int} (h:0≤stp3 es s ev):∃ x∈es,x.1=s∧x.2.1=ev∧x.2.2=stp3 es s ev:=by
 induction es with
 | nil=>rw[stp3] at h;omega
 | cons x r ih=>
  simp only[stp3] at h ⊢
  by_cases c:x.1=s∧x.2.1=ev
  ·rw[if_pos c] at h ⊢
   exact⟨x,by simp,c.1,c.2,rfl⟩
  ·rw[if_neg c] at h ⊢
   obtain⟨y,hy,h1⟩:=ih h
   exact⟨y,by simp[hy],h1⟩
section
variable {a:Aut} {on:List Int} {frm:List Fd} {n:Nat}
theorem RP.ok (h:fdOk a n frm) {t:Int} {w:List Int} (hp:RP a on frm t w):(0≤t∧t<(n:Int))∧inW w:=by
 induction hp with
 | base hx=>exact⟨h.rng _ hx,h.wrd _ hx⟩
 | @step s e w hp he ho ht ih=>
  obtain⟨x,hx,_,_,h3⟩:=zcY ht
  refine⟨⟨ht,by rw[← h3];exact (h.st x hx).2⟩,fun z hz=>?_⟩
  rcases List.mem_append.1 hz with hz | hz
  ·exact ih.2 z hz
  ·rw[List.mem_singleton] at hz
   subst hz
   exact h.al _ he
structure RQ (a:Aut) (on:List Int) (frm:List Fd) (l:List Fd):Prop where
 snd:∀ y∈l,RP a on frm y.1 y.2
 nd:(l.map (·.1)).Nodup
 low:∀ t w,RP a on frm t w→∃ y∈l,y.1=t∧rk y.2≤rk w
 srt:l.Pairwise fun x y=>rk x.2<rk y.2
theorem zkw {α:Type} {f:α→Nat}:∀ {l m:List α},(l.Pairwise fun x y=>f x<f y)→(m.Pairwise fun x y=>f x<f y)→(∀ x,x∈l ↔ x∈m)→l=m
 | [],[],_,_,_=>rfl
 | [],y::m,_,_,h=>by have:=(h y).2 (by simp);cases this
 | x::l,[],_,_,h=>by have:=(h x).1 (by simp);cases this
 | x::l,y::m,hl,hm,h=>by
  rw[List.pairwise_cons] at hl hm
  have hxy:x=y:=by
   rcases List.mem_cons.1 ((h x).1 (by simp)) with e | e
   ·exact e
   ·rcases List.mem_cons.1 ((h y).2 (by simp)) with e2 | e2
    ·exact e2.symm
    ·have:=hm.1 x e
     have:=hl.1 y e2
     omega
  subst hxy
  congr 1
  refine zkw hl.2 hm.2 fun z=>⟨fun hz=>?_,fun hz=>?_⟩
  ·rcases List.mem_cons.1 ((h z).1 (by simp[hz])) with e | e
   ·subst e
    have:=hl.1 z hz
    omega
   ·exact e
  ·rcases List.mem_cons.1 ((h z).2 (by simp[hz])) with e | e
   ·subst e
    have:=hm.1 z hz
    omega
   ·exact e
theorem zjs {l:List Fd} (h:(l.map (·.1)).Nodup) {x y:Fd} (hx:x∈l) (hy:y∈l) (e:x.1=y.1):x=y:=by
 induction l with
 | nil=>cases hx
 | cons z l ih=>
  rw[List.map_cons,List.nodup_cons] at h
  rcases List.mem_cons.1 hx with h1 | h1 <;> rcases List.mem_cons.1 hy with h2 | h2
  ·rw[h1,h2]
  ·subst h1;exact absurd (List.mem_map.2 ⟨y,h2,e.symm⟩) h.1
  ·subst h2;exact absurd (List.mem_map.2 ⟨x,h1,e⟩) h.1
  ·exact ih h.2 h1 h2
theorem RQ.mem (h:fdOk a n frm) {l m:List Fd} (hl:RQ a on frm l) (hm:RQ a on frm m) {x:Fd} (hx:x∈l):x∈m:=by
 have p:=hl.snd x hx
 obtain⟨y,hy,e1,e2⟩:=hm.low _ _ p
 have q:=hm.snd y hy
 obtain⟨z,hz,e3,e4⟩:=hl.low _ _ q
 have:z=x:=zjs hl.nd hz hx (e3.trans e1)
 subst this
 have:y.2=z.2:=zpt (q.ok h).2 (p.ok h).2 (by omega)
 have:y=z:=Prod.ext e1 this
 rwa [← this]
theorem RQ.eq (h:fdOk a n frm) {l m:List Fd} (hl:RQ a on frm l) (hm:RQ a on frm m):l=m:=zkw hl.srt hm.srt fun x=>⟨RQ.mem h hl hm,RQ.mem h hm hl⟩
open Classical in
noncomputable def rchF (a:Aut) (on:List Int) (frm:List Fd):List Fd:=if h:∃ l,RQ a on frm l then h.choose else []
theorem zpD (h:fdOk a n frm) {l:List Fd} (hl:RQ a on frm l):l=rchF a on frm:=by
 have hex:∃ l,RQ a on frm l:=⟨l,hl⟩
 have h1:rchF a on frm=hex.choose:=by unfold rchF;rw[dif_pos hex]
 rw[h1]
 exact RQ.eq h hl hex.choose_spec
structure RGd (a:Aut) (on:List Int) (frm:List Fd) (l:List Fd):Prop where
 snd:∀ y∈l,RP a on frm y.1 y.2
 nd:(l.map (·.1)).Nodup
 cov:∀ x∈frm,∃ y∈l,y.1=x.1∧rk y.2≤rk x.2
abbrev clE (a:Aut) (on:List Int) (l:List Fd) (x:Fd) (e:Int):Prop:=e ∉ on→0≤stp3 a.edges x.1 e→∃ y∈l,y.1=stp3 a.edges x.1 e∧rk y.2≤rk (x.2++[e])
theorem RGd.low {l:List Fd} (h:RGd a on frm l) (hc:∀ x∈l,∀ e∈a.alpha,clE a on l x e):∀ t w,RP a on frm t w→∃ y∈l,y.1=t∧rk y.2≤rk w:=by
 intro t w hp
 induction hp with
 | base hx=>exact h.cov _ hx
 | @step s e w hp he ho ht ih=>
  obtain⟨x,hx,e1,e2⟩:=ih
  subst e1
  obtain⟨y,hy,e3,e4⟩:=hc x hx e he ho ht
  exact⟨y,hy,e3,Nat.le_trans e4 (znM e2)⟩
theorem RGd.q {l:List Fd} (h:RGd a on frm l) (hs:l.Pairwise fun x y=>rk x.2<rk y.2) (hc:∀ x∈l,∀ e∈a.alpha,clE a on l x e):RQ a on frm l:=⟨h.snd,h.nd,h.low hc,hs⟩
theorem RGd.few {l:List Fd} (h:RGd a on frm l) (ho:fdOk a n frm):l.length≤n:=by
 have h1:=zdh (n:=n) (l:=l.map fun y=>y.1.toNat) ?_ ?_
 ·rwa [List.length_map] at h1
 ·have:=h.nd
  unfold List.Nodup at this ⊢
  rw[List.pairwise_map] at this ⊢
  refine this.imp_of_mem fun {x y} hx hy hne e=>hne ?_
  have:=((h.snd x hx).ok ho).1
  have:=((h.snd y hy).ok ho).1
  omega
 ·intro z hz
  obtain⟨y,hy,rfl⟩:=List.mem_map.1 hz
  have:=((h.snd y hy).ok ho).1
  show y.1.toNat<n
  omega
def sumR:List Fd→Nat
 | []=>0
 | y::r=>rk y.2+sumR r
theorem zlZ:∀ (l m:List Fd),sumR (l++m)=sumR l+sumR m
 | [],m=>by simp[sumR]
 | y::l,m=>by simp only[List.cons_append,sumR,zlZ l m];omega
theorem zlY:∀ {l:List Fd} {k:Nat} (h:k<l.length) (z:Fd),sumR (l.set k z)+rk l[k].2=sumR l+rk z.2
 | [],k,h,z=>by simp at h
 | y::l,0,h,z=>by simp only[List.set_cons_zero,List.getElem_cons_zero,sumR];omega
 | y::l,k+1,h,z=>by
  have:=zlY (l:=l) (k:=k) (by simpa using h) z
  simp only[List.set_cons_succ,List.getElem_cons_succ,sumR]
  omega
def meas (n B:Nat) (l:List Fd):Nat:=(n - l.length) * 33 ^ (B+n)+sumR l
theorem zso {B:Nat} {l:List Fd} {y:Fd} (hn:l.length<n) (hw:inW y.2) (hl:y.2.length≤B+n):meas n B (l++[y])<meas n B l:=by
 unfold meas
 have h1:=zl8 _ hw hl
 rw[zlZ,List.length_append,List.length_singleton]
 have h2:n - l.length=(n - (l.length+1))+1:=by omega
 rw[h2,Nat.succ_mul]
 simp only[sumR]
 omega
theorem zsn {B:Nat} {l:List Fd} {k:Nat} (h:k<l.length) {z:Fd} (hz:rk z.2<rk l[k].2):meas n B (l.set k z)<meas n B l:=by
 unfold meas
 have:=zlY h z
 rw[List.length_set]
 omega
structure Pss (a:Aut) (on:List Int) (frm:List Fd) (n B:Nat) (l0 l:List Fd) (al:Option (List Fd)) (ch:Bool):Prop where
 g:RGd a on frm l
 len:∀ y∈l,y.2.length≤B+l.length
 k:l0.length≤l.length
 alo:∀ old,al=some old→l0.length≤old.length∧∀ y∈old,RP a on frm y.1 y.2∧y.2.length≤B+l.length
 same:ch=false→l=l0∧al=none
 less:ch=true→meas n B l<meas n B l0
theorem Pss.at {B:Nat} {l0 l:List Fd} {al:Option (List Fd)} {ch:Bool} (h:Pss a on frm n B l0 l al ch) {x:Fd} (hx:x∈al.getD l):RP a on frm x.1 x.2∧x.2.length≤B+l.length:=by
 cases al with
 | none=>exact⟨h.g.snd x hx,h.len x hx⟩
 | some old=>exact (h.alo old rfl).2 x hx
theorem Pss.app {B:Nat} {l0 l:List Fd} {al al':Option (List Fd)} {ch:Bool} (ho:fdOk a n frm) (h:Pss a on frm n B l0 l al ch) (hal:al' = al∨al' = some l) {s e:Int} {w:List Int} (hp:RP a on frm s w) (hw:w.length≤B+l.length) (he:e∈a.alpha) (hon:e ∉ on) (ht:0≤stp3 a.edges s e)
  (hno:∀ y∈l,y.1≠stp3 a.edges s e):Pss a on frm n B l0 (l++[(stp3 a.edges s e,w++[e])]) al' true∧l.length<n:=by
 have hp':=RP.step hp he hon ht
 have hg:RGd a on frm (l++[(stp3 a.edges s e,w++[e])]):=by
  refine⟨fun y hy=>?_,?_,fun x hx=>?_⟩
  ·rcases List.mem_append.1 hy with hy | hy
   ·exact h.g.snd y hy
   ·rw[List.mem_singleton] at hy
    subst hy
    exact hp'
  ·rw[List.map_append,List.nodup_append]
   refine⟨h.g.nd,by simp,fun x hx y hy=>?_⟩
   obtain⟨z,hz,rfl⟩:=List.mem_map.1 hx
   simp only[List.map_cons,List.map_nil,List.mem_singleton] at hy
   subst hy
   exact hno z hz
  ·obtain⟨y,hy,h1⟩:=h.g.cov x hx
   exact⟨y,by simp[hy],h1⟩
 have hlt:=hg.few ho
 rw[List.length_append,List.length_singleton] at hlt
 have hm:=zso (B:=B) (y:=(stp3 a.edges s e,w++[e])) (show l.length<n by omega) (hp'.ok ho).2 (by simp only[List.length_append,List.length_singleton];omega)
 refine⟨⟨hg,fun y hy=>?_,by rw[List.length_append];have:=h.k;omega,fun old ho'=>?_,fun e=>(by cases e),fun _=>?_⟩,by omega⟩
 ·rw[List.length_append,List.length_singleton]
  rcases List.mem_append.1 hy with hy | hy
  ·have:=h.len y hy
   omega
  ·rw[List.mem_singleton] at hy
   subst hy
   simp only[List.length_append,List.length_singleton]
   omega
 ·rw[List.length_append,List.length_singleton]
  rcases hal with rfl | rfl
  ·obtain⟨h1,h2⟩:=h.alo old ho'
   exact⟨h1,fun y hy=>⟨(h2 y hy).1,by have:=(h2 y hy).2;omega⟩⟩
  ·obtain rfl:=Option.some.inj ho'
   exact⟨h.k,fun y hy=>⟨h.g.snd y hy,by have:=h.len y hy;omega⟩⟩
 ·cases ch with
  | false=>obtain⟨rfl,_⟩:=h.same rfl;exact hm
  | true=>exact Nat.lt_trans hm (h.less rfl)
theorem Pss.upd {B:Nat} {l0 l:List Fd} {al:Option (List Fd)} {ch:Bool} (ho:fdOk a n frm) (h:Pss a on frm n B l0 l al ch) {s e:Int} {w:List Int} (hp:RP a on frm s w) (he:e∈a.alpha) (hon:e ∉ on) (ht:0≤stp3 a.edges s e)
  {k:Nat} (hk:k<l.length) (hs:l[k].1=stp3 a.edges s e) (hr:rk (w++[e])<rk l[k].2):Pss a on frm n B l0 (l.set k (l[k].1,w++[e])) al true:=by
 have hp':=RP.step hp he hon ht
 have hmap:(l.set k (l[k].1,w++[e])).map (·.1)=l.map (·.1):=by
  rw[List.map_set]
  have:l[k].1=(l.map (·.1))[k]'(by rw[List.length_map];exact hk):=by simp
  simp only
  rw[this,List.set_getElem_self]
 have hm:=zsn (n:=n) (B:=B) hk (z:=(l[k].1,w++[e])) hr
 have hle:=zr1 (hp'.ok ho).2 ((h.g.snd _ (List.getElem_mem hk)).ok ho).2 (Nat.le_of_lt hr)
 refine⟨⟨fun y hy=>?_,by rw[hmap];exact h.g.nd,fun x hx=>?_⟩,fun y hy=>?_,by rw[List.length_set];exact h.k,fun old ho'=>by rw[List.length_set];exact h.alo old ho',fun e=>(by cases e),fun _=>?_⟩
 ·rcases List.mem_or_eq_of_mem_set hy with hy | rfl
  ·exact h.g.snd y hy
  ·simp only
   rw[hs]
   exact hp'
 ·obtain⟨y,hy,h1,h2⟩:=h.g.cov x hx
  obtain⟨i,hi,rfl⟩:=List.mem_iff_getElem.1 hy
  by_cases hik:k=i
  ·subst hik
   exact⟨(l[k].1,w++[e]),List.mem_set hk _,h1,by simp only;omega⟩
  ·exact⟨l[i],by
    rw[List.mem_iff_getElem]
    exact⟨i,by rw[List.length_set];exact hi,by rw[List.getElem_set_ne hik]⟩,h1,h2⟩
 ·rw[List.length_set]
  rcases List.mem_or_eq_of_mem_set hy with hy | rfl
  ·exact h.len y hy
  ·have:=h.len _ (List.getElem_mem hk)
   simp only
   omega
 ·cases ch with
  | false=>obtain⟨rfl,_⟩:=h.same rfl;exact hm
  | true=>exact Nat.lt_trans hm (h.less rfl)
end
end Go.AI


namespace Go.AI
structure FlOK (c:Cx) (ops:Array Oper) (O:List Heap) (n:Nat) (x:SH) (o:Oper) (p:Pl):Prop where
 w:zaw ops (St.of O n (zaB ops o x)) o=some true
 r:p.rem=zbr (St.of O n (zaB ops o x)) o
 d:Does c o (St.of O n (zaB ops o x)) (PQ O n (zaB ops o x) p) (exec c.T (St.of O n (zaB ops o x)) o)
theorem zui {c:Cx} (hT:TOk c.P c.T) (hm:c.P.follows .mixedOrders=true) {id:Nat} {ops:Array Oper} {O O':List Heap} {n:Nat} {x0:SH} {ps:List Pl} {k:List Item} {oF:Oper}
  (hoF:ops[ps.length]? = some oF) (hg:oF.guard=none)
  (hF:∀ x:SH,(∀ t d,look (zaB ops oF (zbt ps x0)).1 t=some d→look x.1 t=some d)→Does c oF (St.of O n x) (fun s'=>s' = St.of O' n x) (exec c.T (St.of O n x) oF))
  (hok:okT ops (ps++[noPl]) x0=true) (hch:zdr c ops O n ops.toList ps x0)
  (hfl:∀ i o p,ops[i]? = some o→ps[i]? = some p→i ∉ getL (zci ops.toList []) ps.length→zdq c ops O' n o (zaB ops o (zbt (ps.take i) x0)) p)
  (hend:RG c ops (List.range' (ps.length+1) (ops.size - (ps.length+1))) (St.of O' n (zbt ps x0)) k):Rch c (.code (.region id ops true)::k) (St.of O n x0):=by
 have hun:zg8 ops (zci ops.toList [])=true∧znz ops (zci ops.toList []) (ps.length+1)=true∧ps.length+1≤ops.size ∧
   ∀ i o p,ops.toList[i]? = some o→(ps++[noPl])[i]? = some p→okI ops (zci ops.toList []) (ps++[noPl]) x0 (0+i) o (zbt ((ps++[noPl]).take i) x0) p=true:=by
  have h:=hok
  simp only[okT,Bool.and_eq_true] at h
  obtain⟨⟨hpre,hgo⟩,htl⟩:=h
  obtain⟨hlen,hget⟩:=zfL hgo
  exact⟨hpre,by simpa using htl,by simpa using hlen,hget⟩
 obtain⟨hpre,htl,hlen,hget⟩:=hun
 have hpl:pl (ps++[noPl]) ps.length=noPl:=by
  unfold pl
  rw[List.getElem?_append_right (Nat.le_refl _),Nat.sub_self]
  rfl
 refine zjg (p:=ps.length+1) hm rfl hpre htl hlen (fun L a w=>∃ K ρ,Inv c.E K ρ (St.of (if L ps.length=true then O' else O) n (fold (ps++[noPl]) (ord ops.size L) x0)) a w) ?_ ?_ ?_ ?_
 ·rintro L L' a w hL ⟨K,ρ,hi⟩
  refine⟨K,ρ,?_⟩
  rw[← hL _ (by omega),← zc2 fun k hk=>hL k hk]
  exact hi
 ·intro K ρ a w hi
  refine⟨K,ρ,?_⟩
  have e:ord ops.size (fun _=>false)=[]:=by simp[ord]
  rw[e]
  exact hi
 ·rintro L hc i o ho hip hLi hbef hno a w ⟨K,ρ,hinv⟩ Q next hnext
  by_cases hie:i=ps.length
  ·subst hie
   rw[hLi,if_neg (by decide)] at hinv
   rw[hoF] at ho
   simp only[Option.some.injEq] at ho
   subst ho
   have hok1:=hget ps.length oF noPl (by simpa using hoF) (by rw[List.getElem?_append_right (Nat.le_refl _),Nat.sub_self];rfl)
   rw[Nat.zero_add] at hok1
   have e:(ps++[noPl]).take ps.length=ps:=by simp
   rw[e] at hok1
   have e2:zbt ps x0=fold (ps++[noPl]) (ord ops.size fun k=>Nat.ble (k+1) ps.length) x0:=by
    rw[zbC (n:=ops.size) (by omega),za8 _ (by simp),e]
   have hok2:okI ops (zci ops.toList []) (ps++[noPl]) x0 ps.length oF (zbt ps x0) (pl (ps++[noPl]) ps.length)=true:=by
    rw[hpl]
    exact hok1
   obtain⟨hf,hy1,hy2⟩:=fits hpre hoF hok2 e2 hc hLi hbef
   have hw:zaw ops (St.of O n (fold (ps++[noPl]) (ord ops.size L) x0)) oF=some true:=by unfold zaw;rw[hg]
   unfold wpOp
   rw[hoF]
   dsimp only
   rw[za9 hinv hw,if_pos rfl]
   refine .inl ?_
   refine zbF hT (hF _ fun t d e=>hf.v1 t d e) K ρ a w hinv _ _ fun v w' s' K' ρ' _ _ hi' hq=>hnext _ _ ⟨K',ρ',?_⟩
   have e3:(if (L ps.length || Nat.beq ps.length ps.length)=true then O' else O)=O':=by
    rw[if_pos (by rw[beq_of_eq rfl,Bool.or_true])]
   show Inv c.E K' ρ' (St.of (if (L ps.length || Nat.beq ps.length ps.length)=true then O' else O) n _) (a.put oF.dst v) w'
   rw[e3]
   subst hq
   refine Inv.sameX hi' (fun t=>?_) fun nm=>?_
   ·rw[hy1,hpl];simp[noPl,Pl.ap]
   ·rw[hy2,hpl];simp[noPl,Pl.ap,rmv]
  ·have hil:i<ps.length:=by omega
   have hp:(ps++[noPl])[i]? = some ps[i]:=by rw[List.getElem?_append_left hil,List.getElem?_eq_getElem hil]
   have hok1:=hget i o _ (by simpa using ho) hp
   have e:(ps++[noPl]).take i=ps.take i:=by rw[List.take_append_of_le_length (by omega)]
   have hbq:Nat.beq ps.length i=false:=by
    cases hb:Nat.beq ps.length i with
    | false=>rfl
    | true=>exact absurd (Nat.eq_of_beq_eq_true hb).symm hie
   have hst:zdq c ops (if L ps.length=true then O' else O) n o (zaB ops o (zbt (ps.take i) x0)) ps[i]:=by
    cases hL:L ps.length with
    | false=>
     rw[if_neg (by decide)]
     exact zdP hch i o _ (by simpa using ho) (List.getElem?_eq_getElem hil)
    | true=>
     rw[if_pos rfl]
     refine hfl i o _ ho (List.getElem?_eq_getElem hil) fun hmem=>?_
     have:=(zbM hpre hc (ps.length+1) ps.length oF (Nat.lt_succ_self _) hoF (fun j hj=>hc ps.length oF hoF hL j hj) i hmem).1
     rw[this] at hLi;cases hLi
   rw[← e] at hst
   have hpl':pl (ps++[noPl]) i=ps[i]:=by simp[pl,hp]
   rw[Nat.zero_add] at hok1
   rw[← za8 i (by simp;omega),← zbC (n:=ops.size) (by omega)] at hok1 hst
   rw[← hpl'] at hok1 hst
   obtain⟨hf,hy1,hy2⟩:=fits hpre ho hok1 rfl hc hLi hbef
   refine zdT ho hst hf hy1 hy2 hinv fun a' w' K' ρ' hinv'=>?_
   refine hnext a' w' ⟨K',ρ',?_⟩
   have e3:(L ps.length || Nat.beq ps.length i)=L ps.length:=by rw[hbq,Bool.or_false]
   show Inv c.E K' ρ' (St.of (if (L ps.length || Nat.beq ps.length i)=true then O' else O) n _) a' w'
   rw[e3]
   exact hinv'
 ·rintro a w ⟨K,ρ,hinv⟩
  rw[if_pos (Nat.ble_eq_true_of_le (Nat.le_refl _)),zbC (n:=ops.size) hlen,za8 _ (by simp),List.take_of_length_le (by simp)] at hinv
  have e:zbt (ps++[noPl]) x0=zbt ps x0:=by
   unfold zbt
   rw[List.foldl_append]
   simp[noPl,Pl.ap,rmv]
  rw[e] at hinv
  exact hend K ρ a w hinv
theorem zkX {c:Cx} {s:St} {o:Oper} {t nm d n j:Nat} {px pv:Operand} {ti:TI} {es:Nat} {ty:Nat} {xs:List (List I)} {cs:List D} {l:List I} (hop:o.op = .store t px pv) (hdn:o.dst=none) (h1:look c.T t=some ti) (hx:evD s px = .own (d+1) nm j 0) (hv:evD s pv = .agg cs) (hl:D.toIs cs=some l)
  (hc:(Nat.beq cs.length ti.size && D.ones cs)=true) (hes:Nat.beq ti.size es=true) (hS:zaa s.S (d+1) nm=some (.arr ty es n xs true)):Does c o s (fun s'=>s' = { s with S:=setAt s.S (d+1) nm (.arr ty es n (xs.set j l) true) }) (exec c.T s o):=by
 have e:exec c.T s o=zcR c.T s t (.own (d+1) nm j 0) (.agg cs):=by
  unfold exec
  rw[hop]
  simp only[hx,hv,hdn]
 rw[e]
 unfold zcR
 rw[h1]
 have hcells:(D.agg cs).cells=cs:=rfl
 simp only[hcells]
 rw[hc]
 show Does c o s _ (zcc s (d+1) nm _)
 unfold zcc
 refine⟨_,hS,?_⟩
 simp only[hl,hes]
 refine⟨?_,rfl⟩
 unfold turns
 rw[hop]
theorem znC {c:Cx} (hT:TOk c.P c.T) {ops:Array Oper} {O:List Heap} {n:Nat} {o:Oper} {v:SH} {t:Nat} {d:D} (hw:zaw ops (St.of O n v) o=some true) (ht:o.dst=some t) (hn:Nat.ble (t+1) n=true) (hex:exec c.T (St.of O n v) o = .val d) (hro:roB o=true) :
  zdq c ops O n o v ⟨[(t,d)],[],none⟩:=by
 refine zeH hw (ziz hro).symm fun E hE=>zbF (c:={ c with E:=E }) hT ?_
 rw[show exec ({ c with E:=E }:Cx).T (St.of O n v) o = .val d from hex]
 show match o.dst with
  | some t=>t<(St.of O n v).n∧_
  | none=>False
 rw[ht]
 refine⟨Nat.le_of_ble_eq_true hn,rfl,rfl,fun t' d' e=>?_⟩
 obtain⟨rfl,rfl⟩:=zaN e
 exact .inr (.inl (by simp[St.set,zab]))
def FDS (c:Cx) (id:Nat) (ops:Array Oper) (O:List Heap) (n:Nat) (x0:SH) (k:List Item) (x:SH) (ps:List Pl):Prop:=
 x=zbt ps x0→zdr c ops O n ops.toList ps x0→Rch c (.code (.region id ops true)::k) (St.of O n x0)
theorem zsE {c:Cx} {s:St} {k:List Item} {ops:Array Oper} (hT:TOk c.P c.T) (m:Nat) {id:Nat} {O:List Heap} {H:Heap} (hS:s.S=H::O)
  (h:GE c ops O s.n (FDS c id ops O s.n (s.σ,H) k) (runS c.T ops O s.n 0 (ops.toList.take m) (s.σ,H) [])):GM c (.drawn id ops s k):=by
 obtain⟨qs,h1,h2⟩:=za0 (c:=c) hT _ _ _ _ h.h
 rw[List.nil_append] at h2
 have hs:s=St.of O s.n (s.σ,H):=by
  cases s
  simp only at hS
  subst hS
  rfl
 refine⟨?_⟩
 show Rch c (.code (.region id ops true)::k) s
 rw[hs]
 exact h2 rfl (zfw h1)
theorem zwD {c:Cx} (hT:TOk c.P c.T) (hfn:c.P.funcs[c.f]? = some c.fn) (hm:c.P.follows .mixedOrders=true) {id:Nat} {ops:Array Oper} {O:List Heap} {n:Nat} {x0 x:SH} {acc:List Pl} {k:List Item} {oF:Oper} {N:Nat} {t tx tv nm d nn j:Nat} {ti:TI} {es ty:Nat} {xs:List (List I)} {cs:List D} {l0:List I} (l:List Nat)
  (fl:List Nat) (hN:acc.length=N) (hoF:ops[N]? = some oF) (hg:oF.guard=none) (hdn:oF.dst=none) (hop:oF.op = .store t (.tmp tx) (.tmp tv)) (h1:look c.T t=some ti) (hx:look (zaB ops oF x).1 tx=some (.own (d+1) nm j 0)) (hv:look (zaB ops oF x).1 tv=some (.agg cs)) (hl0:D.toIs cs=some l0)
  (hc:(Nat.beq cs.length ti.size && D.ones cs)=true) (hes:Nat.beq ti.size es=true) (hO:zaa O d nm=some (.arr ty es nn xs true))
  (hok:okT ops (acc++[noPl]) x0=true)
  (hfi:allN N (fun i=>memN fl i || memN (getL (zci ops.toList []) N) i)=true)
  (hfl:∀ i∈fl,∃ o t' d',ops[i]? = some o∧acc[i]? = some ⟨[(t',d')],[],none⟩∧zaw ops (St.of (setAt O d nm (.arr ty es nn (xs.set j l0) true)) n (zaB ops o (zbt (acc.take i) x0))) o=some true∧o.dst=some t' ∧ Nat.ble (t' + 1) n=true∧exec c.T (St.of (setAt O d nm (.arr ty es nn (xs.set j l0) true)) n (zaB ops o (zbt (acc.take i) x0))) o = .val d' ∧ roB o=true)
  (hl:List.range' (N+1) (ops.size - (N+1))=l)
  (hend:GM c (zgK x fun x=>run c.T c.stop 1000 (.inRegion ops l::k) (St.of (setAt O d nm (.arr ty es nn (xs.set j l0) true)) n x))) :
  GE c ops O n (FDS c id ops O n x0 k) (.done x acc):=by
 subst hl
 subst hN
 refine⟨?_⟩
 show FDS c id ops O n x0 k x acc
 intro hx0 hch
 subst hx0
 refine zui (O':=setAt O d nm (.arr ty es nn (xs.set j l0) true)) hT hm hoF hg (fun x' hsub=>?_) hok hch (fun i o p ho hp hni=>?_) ?_
 rotate_left 1
 ·have hil:i<acc.length:=(List.getElem?_eq_some_iff.1 hp).1
  have h:=zbj hfi i hil
  simp only[Bool.or_eq_true] at h
  rcases h with h | h
  ·obtain⟨o',t',d',f1,f2,f3,f4,f5,f6,f7⟩:=hfl i (zbq.1 h)
   rw[ho] at f1
   obtain rfl:=Option.some.inj f1
   rw[hp] at f2
   obtain rfl:=Option.some.inj f2
   exact znC hT f3 f4 f5 f6 f7
  ·exact absurd (zbq.1 h) hni
 rotate_left 1
 ·have e1:=hsub _ _ hx
  have e2:=hsub _ _ hv
  refine zkX (s:=St.of O n x') hop hdn h1 ?_ ?_ hl0 hc hes ?_
  ·show St.get (St.of O n x') tx=_
   unfold St.get
   have:look (St.of O n x').σ tx=some (.own (d+1) nm j 0):=e1
   rw[this]
  ·show St.get (St.of O n x') tv=_
   unfold St.get
   have:look (St.of O n x').σ tv=some (.agg cs):=e2
   rw[this]
  ·exact hO
 ·have h:=hend.h
  rw[zeU] at h
  exact zaH hT hfn 1000 (.inRegion ops _::k) _ h
end Go.AI


namespace Go.AI
open Go.Proofs
set_option maxRecDepth 20000
abbrev fdI (x:Fd):List I:=[vi x.1,zbE x.2]
abbrev fdD (x:Fd):D:=.agg [ii x.1,ints x.2]
abbrev ofds (l:List Fd):Ob:=.arr 178 2 l.length (l.map fdI) true
abbrev fdsD (l:List Fd):D:=.i (.sl 2 l.length (l.map fdI))
abbrev Srt (l:List Fd):Prop:=l.Pairwise fun x y=>rk x.2<rk y.2
open Classical in
noncomputable def srtF (l:List Fd):List Fd:=if h:∃ m:List Fd,Srt m∧m.Perm l then h.choose else l
theorem zeI {l m:List Fd} (h1:Srt m) (h2:m.Perm l):m=srtF l∧Srt (srtF l)∧(srtF l).Perm l:=by
 have hex:∃ m:List Fd,Srt m∧m.Perm l:=⟨m,h1,h2⟩
 have e:srtF l=hex.choose:=by unfold srtF;rw[dif_pos hex]
 have hs:=hex.choose_spec
 rw[e]
 exact⟨zkw h1 hs.1 fun x=>by rw[h2.mem_iff,hs.2.mem_iff],hs⟩
theorem zo1:∀ (P:List Fd) (p x:Fd) (T:List Fd),(((P++p::x::T).map fdI).set (P.length+1) (fdI p)).set P.length (fdI x)=(P++x::p::T).map fdI
 | [],p,x,T=>rfl
 | q::P,p,x,T=>by
  have:=zo1 P p x T
  simp only[List.cons_append,List.map_cons,List.length_cons,List.set_cons_succ,this]
theorem zwo (P:List Fd):P=[]∨∃ Q p,P=Q++[p]:=by
 by_cases h:P=[]
 ·exact .inl h
 ·exact .inr ⟨P.dropLast,P.getLast h,(List.dropLast_concat_getLast h).symm⟩
theorem zuy (O:List Heap) (x y:Fd) (hx:x.2.length≤1000000) (hy:y.2.length≤1000000):zan Tryz.prog 143 [fdD x,fdD y] O (ii (cmpW x.2 y.2)) [] O:=by
 have h:=fun O=>zmI O x.2 y.2 hx hy
 refine zad Tk Tryz.func143 rfl Tryz.call143 Tryz.ntmps143 (Nat.le_of_ble_eq_true rfl) fun E=>?_
 refine zae Tk Tryz.func143 ?_
 refine zaf Tk Tryz.func143 (h _) rfl rfl rfl rfl rfl ?_
 refine zak Tk (r:=ii (cmpW x.2 y.2)) rfl rfl rfl trivial rfl rfl ?_
 rfl
abbrev zqt:D:=.fn (.func 143) [] []
theorem fget {A:List Fd} {x:Fd} {T:List Fd} {k:Nat} (hk:k=A.length):((A++x::T).map fdI)[((k:Nat):Int).toNat]? = some (fdI x):=by
 subst hk
 simp
set_option maxHeartbeats 8000000 in
theorem zvK (O:List Heap) (d nm:Nat) (l:List Fd) (hl:l.length≤1000) (hw:∀ x∈l,x.2.length≤1000000) (hin:∀ x∈l,inW x.2) (hnd:l.Pairwise fun x y=>rk x.2≠rk y.2) (ho:zaa O d nm=some (ofds l)):zan Tryz.prog 210 [.osl d nm,ii 0,ii l.length,zqt] O (.tup []) [] (setAt O d nm (ofds (srtF l))):=by
 have hc:=fun O x y (hx:x∈l) (hy:y∈l)=>zuy O x y (hw x hx) (hw y hy)
 cases l with
 | nil=>
  have hs:srtF []=[]:=(zeI (l:=[]) (m:=[]) .nil (List.Perm.refl _)).1.symm
  rw[hs]
  refine zad Tk Tryz.func210 rfl Tryz.call210 Tryz.ntmps210 (Nat.le_of_ble_eq_true rfl) fun E=>?_
  refine zae Tk Tryz.func210 ?_
  refine zac ?_
  refine zae Tk Tryz.func210 ?_
  refine gcF Tk Tryz.func210 rfl ?_
  refine zcG (wk_S (S':=_::setAt O d nm (ofds [])) (zfg (zdC ho))) ?_
  refine zak Tk (r:=.tup []) rfl rfl rfl trivial rfl rfl ?_
  rfl
 | cons z r=>
 generalize hL:z::r=l at *
 have hpos:1≤l.length:=by rw[← hL];simp
 refine zad Tk Tryz.func210 rfl Tryz.call210 Tryz.ntmps210 (Nat.le_of_ble_eq_true rfl) fun E=>?_
 refine zae Tk Tryz.func210 ?_
 refine g_wk (wk_S (S':=_::setAt O d nm (ofds ([z]++r))) (zfg (zdC (by rw[ho,← hL];rfl)))) ?_
 refine zac ?_
 refine zah (fun x:List Fd × List Fd=>[(0,.osl (d+1) nm),(1,ii 0),(2,ii l.length),(3,zqt),(8,ii x.1.length)]) (fun _=>[]) (fun x=>setAt O d nm (ofds (x.1++x.2))) 53
  (fun x=>Srt x.1∧(x.1++x.2).Perm l) (fun x=>x.2.length) ([z],r) ⟨List.pairwise_singleton _ _,by rw[← hL];exact List.Perm.refl _⟩ ⟨rfl,rfl,rfl,rfl,rfl,trivial⟩ rfl trivial rfl rfl ?_
 rintro ⟨A,R⟩ ⟨hA,hp⟩ ih
 simp only at hA hp
 have hlen:A.length+R.length=l.length:=by rw[← hp.length_eq,List.length_append]
 refine zae Tk Tryz.func210 ?_
 refine zai Tk Tryz.func210 rfl (fun g1=>?_) (fun g1=>?_)
 ·have g1:A.length<l.length:=by simpa using g1
  obtain⟨x,R',rfl⟩:∃ x R',R=x::R':=by
   cases R with
   | nil=>simp at hlen;omega
   | cons x R'=>exact⟨x,R',rfl⟩
  have hxl:x∈l:=hp.mem_iff.1 (by simp)
  refine zac ?_
  refine zah (fun y:List Fd × List Fd=>[(0,.osl (d+1) nm),(1,ii 0),(2,ii l.length),(3,zqt),(8,ii A.length),(9,ii y.1.length)]) (fun _=>[]) (fun y=>setAt O d nm (ofds (y.1++x::(y.2++R')))) 53
   (fun y=>Srt (y.1++y.2)∧(∀ s∈y.2,rk x.2<rk s.2)∧y.1++y.2=A∧(y.1++x::(y.2++R')).Perm l) (fun y=>y.1.length) (A,[]) ⟨by simpa using hA,by simp,by simp,by simpa using hp⟩ ⟨rfl,rfl,rfl,rfl,rfl,rfl,trivial⟩ rfl trivial rfl rfl ?_
  rintro ⟨P,S⟩ ⟨hPS,hS,hA2,hp2⟩ ih2
  simp only at hPS hS hA2 hp2
  have hxx:=hin x hxl
  rcases zwo P with rfl | ⟨Q,p,rfl⟩
  ·rw[List.nil_append] at hPS hA2 hp2
   subst hA2
   have hi1:ii (IntKind.i64.wrap ((S.length:Int)+1))=ii ((x::S:List Fd).length:Int):=congrArg ii (zaC (n:=1000001) (by omega) (by decide))
   refine zae Tk Tryz.func210 ?_
   refine zaF Tk Tryz.func210 zaM rfl ?_
   refine zch Tk (fun h=>absurd h (by simp)) (fun _=>?_)
   refine zaQ Tk Tryz.func210 (by kernel_rfl) ?_
   refine zai Tk Tryz.func210 rfl (fun h=>absurd h (by simp)) (fun _=>?_)
   refine zac ?_
   refine ih (x::S,R') _ _ ⟨List.pairwise_cons.2 ⟨hS,hPS⟩,by simpa using hp2⟩ (by simp) ⟨rfl,rfl,rfl,rfl,hi1,trivial⟩ rfl trivial rfl rfl
  ·have hpl:p∈l:=hp2.mem_iff.1 (by simp)
   have e1:(Q++[p])++x::(S++R')=Q++p::x::(S++R'):=by simp
   have e2:((Q++[p]).length:Int)=((Q.length+1:Nat):Int):=by simp
   have hq:=hlen
   have hQA:Q.length+1+S.length=A.length:=by rw[← hA2];simp;omega
   have w1:IntKind.i64.wrap (((Q.length+1:Nat):Int) - 1)=(Q.length:Int):=by rw[w64 (by omega) (by omega)];omega
   have gx:((Q++p::x::(S++R')).map fdI)[(((Q.length+1:Nat):Int)).toNat]? = some (fdI x):=by
    have:=fget (A:=Q++[p]) (x:=x) (T:=S++R') (k:=Q.length+1) (by simp)
    rwa [e1] at this
   have gp:((Q++p::x::(S++R')).map fdI)[(IntKind.i64.wrap (((Q.length+1:Nat):Int) - 1)).toNat]? = some (fdI p):=by rw[w1];exact fget rfl
   have hlt:=zey hxx (hin p hpl)
   have hcc:=fun O=>hc O x p hxl hpl
   rw[e2,e1]
   rw[e1] at hp2
   have hll:(Q++p::x::(S++R')).length=l.length:=hp2.length_eq
   generalize cmpW x.2 p.2=cw at *
   obtain⟨xs,xw⟩:=x
   obtain⟨ps,pw⟩:=p
   have hob:=fun O' (h:zaa O' d nm=some (ofds (Q++(ps,pw)::(xs,xw)::(S++R'))))=>zaD (H:=([]:Heap)) h
   refine zae Tk Tryz.func210 ?_
   refine zaF Tk Tryz.func210 zaM rfl ?_
   refine zch Tk (fun _=>?_) (fun h=>absurd h (by simp))
   refine zf2 Tk (zaD (H:=([]:Heap)) (zaG ho)) ?_
   refine zaz Tk (by exact⟨by omega,by show ((Q.length+1:Nat):Int)<((Q++(ps,pw)::(xs,xw)::(S++R')).length:Int);rw[hll];omega⟩) ?_
   refine zf2 Tk (zaD (H:=([]:Heap)) (zaG ho)) ?_
   refine zaK Tk (gx) ?_
   refine zf2 Tk (zaD (H:=([]:Heap)) (zaG ho)) ?_
   refine zaz Tk (by exact⟨by show (0:Int)≤IntKind.i64.wrap (((Q.length+1:Nat):Int) - 1);rw[w1];omega,by show IntKind.i64.wrap (((Q.length+1:Nat):Int) - 1)<((Q++(ps,pw)::(xs,xw)::(S++R')).length:Int);rw[w1,hll];omega⟩) ?_
   refine zf2 Tk (zaD (H:=([]:Heap)) (zaG ho)) ?_
   refine zaK Tk (gp) ?_
   refine zaU Tk (fun _=>hcc _) rfl rfl rfl ?_
   refine zaQ Tk Tryz.func210 (by kernel_rfl) ?_
   refine zai Tk Tryz.func210 rfl (fun c1=>?_) (fun c1=>?_)
   ·have c1:cw<0:=of_decide_eq_true c1
    have hrk:=hlt.1 c1
    have e3:Ob.arr 178 2 (Q++(ps,pw)::(xs,xw)::(S++R')).length ((((Q++(ps,pw)::(xs,xw)::(S++R')).map fdI).set (((Q.length+1:Nat):Int)).toNat (fdI (ps,pw))).set (IntKind.i64.wrap (((Q.length+1:Nat):Int) - 1)).toNat (fdI (xs,xw))) true=ofds (Q++(xs,xw)::((ps,pw)::S++R')):=by
     rw[w1]
     show Ob.arr 178 2 _ ((((Q++(ps,pw)::(xs,xw)::(S++R')).map fdI).set (Q.length+1) (fdI (ps,pw))).set Q.length (fdI (xs,xw))) true=_
     rw[zo1]
     simp[ofds]
    refine zsE Tk 15 rfl ?_
    refine zf2 Tk (zaD (H:=([]:Heap)) (zaG ho)) ?_
    refine zaz Tk (by exact⟨by show (0:Int)≤IntKind.i64.wrap (((Q.length+1:Nat):Int) - 1);rw[w1];omega,by show IntKind.i64.wrap (((Q.length+1:Nat):Int) - 1)<((Q++(ps,pw)::(xs,xw)::(S++R')).length:Int);rw[w1,hll];omega⟩) ?_
    refine zf2 Tk (zaD (H:=([]:Heap)) (zaG ho)) ?_
    refine zaK Tk (gp) ?_
    refine zf2 Tk (zaD (H:=([]:Heap)) (zaG ho)) ?_
    refine zaz Tk (by exact⟨by omega,by show ((Q.length+1:Nat):Int)<((Q++(ps,pw)::(xs,xw)::(S++R')).length:Int);rw[hll];omega⟩) ?_
    refine zf2 Tk (zaD (H:=([]:Heap)) (zaG ho)) ?_
    refine zaK Tk (gx) ?_
    refine zf2 Tk (zaD (H:=([]:Heap)) (zaG ho)) ?_
    refine zaz Tk (by exact⟨by omega,by show ((Q.length+1:Nat):Int)<((Q++(ps,pw)::(xs,xw)::(S++R')).length:Int);rw[hll];omega⟩) ?_
    refine zwD Tk Tryz.func210 zaM (N:=15) [16,17] [2,3,4] (by kernel_rfl) rfl rfl rfl rfl rfl rfl rfl rfl rfl rfl (zaG ho) (by kernel_rfl) (by kernel_rfl) ?_ (by kernel_rfl) ?_
    ·intro i hi
     simp only[List.mem_cons,List.not_mem_nil,or_false] at hi
     rcases hi with rfl | rfl | rfl
     ·exact⟨_,_,_,rfl,rfl,rfl,rfl,rfl,rfl,rfl⟩
     ·exact⟨_,_,_,rfl,rfl,rfl,rfl,rfl,rfl,rfl⟩
     ·exact⟨_,_,_,rfl,rfl,rfl,rfl,rfl,rfl,rfl⟩
    refine zba Tk Tryz.func210 (zaD (H:=([]:Heap)) (zaG (zaG ho))) ?_
    refine zag Tk Tryz.func210 (by exact⟨by show (0:Int)≤IntKind.i64.wrap (((Q.length+1:Nat):Int) - 1);rw[w1];omega,by show IntKind.i64.wrap (((Q.length+1:Nat):Int) - 1)<((Q++(ps,pw)::(xs,xw)::(S++R')).length:Int);rw[w1,hll];omega⟩) ?_
    refine zba Tk Tryz.func210 (zaD (H:=([]:Heap)) (zaG (zaG ho))) ?_
    refine g_wk (wk_S (S':=_::setAt O d nm (ofds (Q++(xs,xw)::((ps,pw)::S++R')))) (zfg fun d' n'=>by rw[← e3];exact (zhv d' n').trans (zhv d' n'))) ?_
    refine zac ?_
    refine ih2 (Q,(ps,pw)::S) _ _ ⟨by simpa using hPS,fun s hs=>?_,by simpa using hA2,?_⟩ (by simp) ⟨rfl,rfl,rfl,rfl,rfl,congrArg ii w1,trivial⟩ rfl trivial rfl rfl
    ·rcases List.mem_cons.1 hs with rfl | hs
     ·exact hrk
     ·exact hS s hs
    ·exact (List.Perm.append_left Q (List.Perm.swap _ _ _)).trans hp2
   ·have c1:¬ cw<0:=of_decide_eq_false c1
    have hrk:¬ rk xw<rk pw:=fun h=>c1 (hlt.2 h)
    have hne:=(hp2.pairwise_iff (R:=fun x y:Fd=>rk x.2≠rk y.2) (fun h=>Ne.symm h)).2 hnd
    have hne2:rk pw≠rk xw:=by
     have h1:=(List.pairwise_append.1 hne).2.1
     exact (List.pairwise_cons.1 h1).1 (xs,xw) (by simp)
    have hsrt:Srt ((Q++[(ps,pw)])++(xs,xw)::S):=by
     obtain⟨h1,h2,h3⟩:=List.pairwise_append.1 hPS
     refine List.pairwise_append.2 ⟨h1,List.pairwise_cons.2 ⟨hS,h2⟩,fun a ha b hb=>?_⟩
     rcases List.mem_cons.1 hb with rfl | hb
     ·rcases List.mem_append.1 ha with ha' | ha'
      ·have:=(List.pairwise_append.1 h1).2.2 a ha' (ps,pw) (by simp)
       simp only at this ⊢
       omega
      ·rw[List.mem_singleton] at ha'
       subst ha'
       simp only
       omega
     ·exact h3 a ha b hb
    have hi1:ii (IntKind.i64.wrap ((A.length:Int)+1))=ii (((Q++[(ps,pw)])++(xs,xw)::S:List Fd).length:Int):=by
     rw[zaC (n:=1000001) (by omega) (by decide),← hA2]
     simp
     omega
    refine zac ?_
    refine ih ((Q++[(ps,pw)])++(xs,xw)::S,R') _ _ ⟨hsrt,by simpa using hp2⟩ (by simp) ⟨rfl,rfl,rfl,rfl,hi1,trivial⟩ (congrArg (fun L=>_::setAt O d nm (ofds L)) (by simp:Q++(ps,pw)::(xs,xw)::(S++R')=((Q++[(ps,pw)])++(xs,xw)::S)++R')) trivial rfl rfl
 ·have g1:l.length≤A.length:=by simpa using g1
  obtain rfl:R=[]:=List.eq_nil_of_length_eq_zero (by omega)
  rw[List.append_nil] at hp ⊢
  have hs:=(zeI hA hp).1
  rw[← hs]
  refine zak Tk (r:=.tup []) rfl rfl rfl trivial rfl rfl ?_
  rfl
end Go.AI


namespace Go.AI
open Go.Proofs
set_option maxRecDepth 20000
theorem zj8 {l:List Fd} (hnd:l.Pairwise fun x y=>rk x.2≠rk y.2):(srtF l).length=l.length:=by
 by_cases h:∃ m:List Fd,Srt m∧m.Perm l
 ·obtain⟨m,h1,h2⟩:=h
  exact (zeI h1 h2).2.2.length_eq
 ·unfold srtF;rw[dif_neg h]
theorem zo9 (O:List Heap) (d nm:Nat) (l:List Fd) (hl:l.length≤19) (hw:∀ x∈l,x.2.length≤1000000) (hin:∀ x∈l,inW x.2) (hnd:l.Pairwise fun x y=>rk x.2≠rk y.2) (ho:zaa O d nm=some (ofds l)):zan Tryz.prog 178 [.osl d nm,ii l.length,zqt] O (.tup []) [] (setAt O d nm (ofds (srtF l))):=by
 have h:=fun O d ho=>zvK O d nm l (by omega) hw hin hnd ho
 have hsl:=zj8 hnd
 refine zad Tk Tryz.func178 rfl Tryz.call178 Tryz.ntmps178 (Nat.le_of_ble_eq_true rfl) fun E=>?_
 refine zae Tk Tryz.func178 ?_
 refine zac ?_
 refine zae Tk Tryz.func178 ?_
 refine zai Tk Tryz.func178 rfl (fun h=>absurd h (by simp;omega)) (fun _=>?_)
 refine zaf Tk Tryz.func178 (h _ (d+1) (zaD (H:=([]:Heap)) ho)) rfl rfl rfl (zi7 (zaD (H:=([]:Heap)) ho) (by simp[Ob.sh,hsl])) rfl ?_
 refine zac ?_
 refine zae Tk Tryz.func178 ?_
 refine zai Tk Tryz.func178 rfl (fun h=>absurd h (by simp;omega)) (fun _=>?_)
 refine zak Tk (r:=.tup []) rfl rfl rfl trivial rfl rfl ?_
 rfl
theorem zt7 (O:List Heap) (d nm:Nat) (l:List Fd) (hl:l.length≤19) (hw:∀ x∈l,x.2.length≤1000000) (hin:∀ x∈l,inW x.2) (hnd:l.Pairwise fun x y=>rk x.2≠rk y.2) (ho:zaa O d nm=some (ofds l)):zan Tryz.prog 142 [.osl d nm,zqt] O (.tup []) [] (setAt O d nm (ofds (srtF l))):=by
 have h:=fun O d ho=>zo9 O d nm l hl hw hin hnd ho
 have hsl:=zj8 hnd
 refine zad Tk Tryz.func142 rfl Tryz.call142 Tryz.ntmps142 (Nat.le_of_ble_eq_true rfl) fun E=>?_
 refine zae Tk Tryz.func142 ?_
 refine zba Tk Tryz.func142 (zaD ho) ?_
 refine zaf Tk Tryz.func142 (h _ (d+1) (zaD (H:=([]:Heap)) ho)) rfl rfl rfl (zi7 (zaD (H:=([]:Heap)) ho) (by simp[Ob.sh,hsl])) rfl ?_
 refine zak Tk (r:=.tup []) rfl rfl rfl trivial rfl rfl ?_
 rfl
theorem zwl (O:List Heap) (x:Fd) (t:Int) (d nm:Nat) (ho:zaa O d nm=some (.box [ii t])):zan Tryz.prog 144 [fdD x,.own d nm 0 0] O (bb (x.1==t)) [] O:=by
 refine zad Tk Tryz.func144 rfl Tryz.call144 Tryz.ntmps144 (Nat.le_of_ble_eq_true rfl) fun E=>?_
 refine zae Tk Tryz.func144 ?_
 refine zba Tk Tryz.func144 (zaD ho) ?_
 refine zak Tk (r:=bb (x.1==t)) rfl rfl rfl trivial rfl rfl ?_
 rfl
theorem zwm (O:List Heap) (x:Fd) (t:Int) (d nm:Nat) (ho:zaa O d nm=some (.box [ii t])):zan Tryz.prog 100 [fdD x,.own d nm 0 0] O (bb (x.1==t)) [] O:=by
 refine zad Tk Tryz.func100 rfl Tryz.call100 Tryz.ntmps100 (Nat.le_of_ble_eq_true rfl) fun E=>?_
 refine zae Tk Tryz.func100 ?_
 refine zba Tk Tryz.func100 (zaD ho) ?_
 refine zak Tk (r:=bb (x.1==t)) rfl rfl rfl trivial rfl rfl ?_
 rfl
theorem zp9 (O:List Heap) (l:List Fd) (f:Nat) (e w d nm:Nat) (p:Fd→Bool) (hl:l.length≤1000000) (ho:zaa O e w=some (ofds l)) (hp:∀ x∈l,zan Tryz.prog f [fdD x,.own (d+1) nm 0 0] ([]::O) (bb (p x)) [] ([]::O)) :
  zan Tryz.prog 99 [.osl e w,.fn (.func f) [] [.own d nm 0 0]] O (ii (zax p l 0)) [] O:=by
 generalize hR:zax p l 0=R
 refine zad Tk Tryz.func99 rfl Tryz.call99 Tryz.ntmps99 (Nat.le_of_ble_eq_true rfl) fun E=>?_
 refine zae Tk Tryz.func99 ?_
 refine zba Tk Tryz.func99 (zaD ho) ?_
 refine zac ?_
 refine zah (fun i:Nat=>[(0,.osl (e+1) w),(1,.fn (.func f) [] [.own (d+1) nm 0 0]),(7,ii l.length),(8,ii i)]) (fun _=>[]) (fun _=>O) 19
  (fun i=>i≤l.length∧zax p (l.drop i) i=R) (fun i=>l.length - i) 0 ⟨Nat.zero_le _,hR⟩ ⟨rfl,rfl,rfl,rfl,trivial⟩ rfl trivial rfl rfl ?_
 rintro i ⟨hi,hno⟩ ih
 clear hR
 refine zae Tk Tryz.func99 ?_
 refine zai Tk Tryz.func99 rfl (fun g1=>?_) (fun g1=>?_)
 ·have h1:i<l.length:=by simpa using g1
  have gs:(l.map fdI)[(i:Int).toNat]? = some (fdI l[i]):=zaj h1
  have hps:=hp l[i] (List.getElem_mem h1)
  have hd:l.drop i=l[i]::l.drop (i+1):=List.drop_eq_getElem_cons h1
  rw[hd] at hno
  simp only[zax] at hno
  clear hd
  generalize l[i]=s at *
  refine zba Tk Tryz.func99 (zaD ho) ?_
  refine zag Tk Tryz.func99 (by exact⟨by omega,by show (i:Int)<(l.length:Int);omega⟩) ?_
  refine zba Tk Tryz.func99 (zaD ho) ?_
  refine zap Tk Tryz.func99 (gs) ?_
  refine zaf Tk Tryz.func99 (hps) rfl rfl rfl rfl rfl ?_
  refine zai Tk Tryz.func99 rfl (fun g2=>?_) (fun g2=>?_)
  ·rw[if_pos g2] at hno
   subst hno
   refine zak Tk (r:=ii (i:Int)) rfl rfl rfl trivial rfl rfl ?_
   rfl
  ·rw[if_neg (by rw[g2];simp)] at hno
   refine zac ?_
   exact ih (i+1) _ _ ⟨h1,hno⟩ (by omega) ⟨rfl,rfl,rfl,congrArg ii (zaC (n:=1000001) (by omega) (by decide)),trivial⟩ rfl trivial rfl rfl
 ·have h1:l.length≤i:=by simpa using g1
  rw[List.drop_eq_nil_of_le h1] at hno
  simp only[zax] at hno
  subst hno
  refine zak Tk (r:=ii (-1)) rfl rfl rfl trivial rfl rfl ?_
  rfl
theorem zqU (O:List Heap) (l:List Fd) (hl:l.length≤1000000):zan Tryz.prog 141 [fdsD l] O (.osl 0 208) [(208,ofds l)] O:=by
 refine zad Tk Tryz.func141 rfl Tryz.call141 Tryz.ntmps141 (Nat.le_of_ble_eq_true rfl) fun E=>?_
 refine zae Tk Tryz.func141 ?_
 refine zqn Tk Tryz.func141 rfl rfl fun b hb=>?_
 refine zai Tk Tryz.func141 rfl (fun h1=>?_) (fun h1=>?_)
 ·have hl0:l=[]:=List.eq_nil_of_length_eq_zero (hb h1)
  subst hl0
  refine zcG (zcg 2 208 178 2 rfl rfl rfl) ?_
  exact⟨zbm (hT:=Tk) (r:=.osl 0 208) rfl rfl rfl ⟨⟨_,rfl,rfl⟩,trivial⟩ (zen _ _ _) rfl rfl⟩
 ·refine zag Tk Tryz.func141 (by exact⟨by show (0+l.length) * 32≤140737488355328;omega,by show 0+l.length≤9223372036854775807;omega⟩) ?_
  refine zcG (ziV (l:=[(2,.osl 0 7)]) (Hv:=[(7,.arr 178 2 (0+l.length) ([]++l.map fdI) true)]) ⟨rfl,trivial⟩ rfl ⟨rfl,trivial⟩ rfl rfl) ?_
  rw[Nat.zero_add,List.nil_append]
  refine zcG (zcV 7 208 rfl rfl rfl) ?_
  exact⟨zbm (hT:=Tk) (r:=.osl 0 208) rfl rfl rfl ⟨⟨_,rfl,rfl⟩,trivial⟩ (zen _ _ _) rfl rfl⟩
end Go.AI


namespace Go.AI
section
variable {P:Program} {T:TT} {E:Env} {K:Kn} {ρ:Nat→Nat→Loc} {S:List Heap} {w:World}
theorem zdI (w:World) (o:Obj) (b:Nat) (h:b<w.heap.size):(w.alloc o).heap[b]? = w.heap[b]?:=by first | exact heap_alloc_old w o b h | exact heap_alloc_old w o h
theorem zs3 {t:Nat} {i:TI} {l:Loc} {ty n m:Nat} {xs ys:List (List I)} {sh:Nat→Nat→Option Sh} (hu:P.underlying t=some (.slice ty)) (hok:TIok P ty i) (h:OwnAt K ρ sh w l (.arr ty i.size n xs true))
  {v:Value} (hy:Now K w v i.size m ys) (hb:(n+m) * i.bytes≤140737488355328) (h63:n+m≤9223372036854775807) (rty:TypeId) (hfresh:∀ o,K w.heap.size o=none) :
  ∃ l' w',(Builtin.append_ #[t,t] rty #[.slice l.base n l.cap,v]).run P w = .ok (.slice l'.base (n+m) l'.cap) w' ∧
   (∀ (ρ':Nat→Nat→Loc) (sh':Nat→Nat→Option Sh),OwnAt K ρ' sh' w' l' (.arr ty i.size (n+m) (xs++ys) true))∧Apnd K w w' l l' ∧ (l' = l∨(w.heap.size≤l'.block∧∀ b,b<w.heap.size→w'.heap[b]? = w.heap[b]?)):=by
 obtain⟨inf,hi1,hi2,hi3,z,hi4,hi5,-⟩:=hok.info
 have hzs:z.cells.size=i.size:=by rw[← Array.length_toList,hi5,hok.len]
 obtain⟨olds,hrx,hrow⟩:=zie h
 obtain⟨hym,hyel,p,cap,rfl,hyat⟩:=hy
 have h':=h
 obtain⟨h1,h2,h3,h4,h5⟩:=h'
 have hlx:olds.length=n * i.size:=by rw[hrx.length,zbg xs h1,h2]
 have sameR:∀ v',v' = Value.slice l.base n l.cap→(Builtin.append_ #[t,t] rty #[.slice l.base n l.cap,.slice p m cap]).run P w = .ok v' w→m=0 →
   ∃ l' w',(Builtin.append_ #[t,t] rty #[.slice l.base n l.cap,.slice p m cap]).run P w = .ok (.slice l'.base (n+m) l'.cap) w' ∧
    (∀ (ρ':Nat→Nat→Loc) (sh':Nat→Nat→Option Sh),OwnAt K ρ' sh' w' l' (.arr ty i.size (n+m) (xs++ys) true))∧Apnd K w w' l l' ∧ (l' = l∨(w.heap.size≤l'.block∧∀ b,b<w.heap.size→w'.heap[b]? = w.heap[b]?)):=by
  intro v' hv' hrun hm0
  subst hv'
  subst hm0
  have hys:ys=[]:=List.eq_nil_of_length_eq_zero hym
  subst hys
  refine⟨l,w,by simpa using hrun,fun ρ' sh'=>by simpa using (show OwnAt K ρ' sh' w l (.arr ty i.size n xs true) from h),⟨Nat.le_refl _,fun _ _ _=>rfl,⟨rfl,rfl,rfl⟩,fun hb=>.inr ⟨hb,rfl⟩⟩,.inl rfl⟩
 rcases hyat with ⟨rfl,rfl,rfl⟩ | ⟨ad,news,rfl,hry,hadd⟩
 ·exact sameR _ rfl (run_append_owned_none w 0 t rty ty inf i.size hu hi1 _ n olds hrow) rfl
 ·have hly:news.length=m * i.size:=by rw[hry.length,zbg ys hyel,hym]
  have hgm:∀ old,grownCap w (n+m) old ty≤maxLen:=fun old=>grownCap_le_maxLen w (n+m) old ty (by simp only[maxLen];omega)
  have hgg:∀ old,n+m≤grownCap w (n+m) old ty:=fun old=>grownCap_ge w (n+m) old ty
  rcases h5 with ⟨h5,h6⟩ | ⟨h5,c,h6,h7,h8,h9,_⟩
  ·have hn:n=0:=by omega
   subst hn
   have hx:xs=[]:=List.eq_nil_of_length_eq_zero h2
   subst hx
   by_cases hm0:m=0
   ·subst hm0
    have hnews:news=[]:=List.eq_nil_of_length_eq_zero (by simpa using hly)
    subst hnews
    refine sameR (.slice none 0 0) (by rw[h5,h6]) ?_ rfl
    rw[h5,h6]
    simp[Builtin.append_,run_underlying hu,Go.sizeOf,typeInfo,hi1,Builtin.lenOf,Builtin.firstCells,loadCells,loadCellsFrom]
   ·have hr:=run_append_nil (P:=P) w t rty ty inf z hu hi1 hi4 ad m cap news (by rw[hi2];exact hly) hadd (by omega) (by omega) (by rw[hi3];simp only[Nat.zero_add] at hb;omega)
    have hg:=hgg 0
    have hgm0:=hgm 0
    simp only[Nat.zero_add] at hg hgm0
    have hf:=fun (ρ':Nat→Nat→Loc) (sh':Nat→Nat→Option Sh)=>ze5 (K:=K) (w:=w) (l:=l) (xs:=[]) (ys:=ys) (n:=0) (m:=m) (ρ':=ρ') (sh':=sh') (sh:=sh') hok rfl .nil hry (by simp) hyel rfl hym (by simpa using hg) hgm0 hzs hfresh (w1:=w.drew) ⟨rfl,rfl,rfl,rfl⟩
    refine⟨⟨w.heap.size,_,some ⟨w.heap.size,0,none⟩⟩,_,?_,fun ρ' sh'=>(hf ρ' sh').1,(hf ρ sh).2,.inr ⟨Nat.le_refl _,fun b hb=>zdI w.drew _ b hb⟩⟩
    rw[h5,h6,hr]
    simp
  ·by_cases hroom:n+m≤l.cap
   ·have hfit:n * inf.size+news.length≤c.size:=by rw[hi2,hly,h7,← Nat.add_mul];exact Nat.mul_le_mul_right _ hroom
    have hr:=run_append_room (P:=P) w t rty ty inf hu hi1 l.block n l.cap c h6 ad m cap news (by rw[hi2];exact hly) hadd hry.one hroom hfit
    rw[hi2] at hr hfit
    refine⟨l,_,by rw[h5];exact hr,fun ρ' sh'=>⟨?_,by simp[h2,hym],hroom,h4,.inr ⟨h5,(c.toList.take (n * i.size)++news++c.toList.drop (n * i.size+news.length)).toArray,setRow_heap _ _ _ _ _ _ h6,?_,?_,h9,fun o _=>h9 rfl o,fun e=>by cases e⟩⟩,⟨by simp,fun b' hb' hne=>?_,⟨rfl,rfl,rfl⟩,fun hbn=>.inr ⟨hbn,rfl⟩⟩,.inl rfl⟩
    ·intro d hd
     rcases List.mem_append.1 hd with h | h
     ·exact h1 d h
     ·exact hyel d h
    ·simp only[List.size_toArray,List.length_append,List.length_take,List.length_drop,Array.length_toList]
     omega
    ·rw[List.flatten_append]
     have e:(n+m) * i.size=(c.toList.take (n * i.size)++news).length:=by
      rw[List.length_append,hly,Nat.add_mul,List.length_take,Array.length_toList]
      omega
     rw[e]
     simp only
     rw[List.take_left]
     exact h8.append hry
    ·exact setRow_other _ _ _ _ (hne (by rw[h5];simp))
   ·have holds:∀ j u,olds[j]? = some u→w.cell? ((⟨l.block,0,none⟩:Addr).add j)=some u:=by
     have:=hrow.cells (g:=l.block) (by rw[h5];rfl)
     exact this
    have hr:=run_append_grow (P:=P) w t rty ty inf z hu hi1 hi4 ⟨l.block,0,none⟩ n l.cap olds (by rw[hi2];exact hlx) holds ad m cap news (by rw[hi2];exact hly) hadd (by omega) (by omega) (by rw[hi3];exact growslice_fits (by omega) hb)
    have hf:=fun (ρ':Nat→Nat→Loc) (sh':Nat→Nat→Option Sh)=>ze5 (K:=K) (w:=w) (l:=l) (xs:=xs) (ys:=ys) (n:=n) (m:=m) (ρ':=ρ') (sh':=sh') (sh:=sh') hok rfl hrx hry h1 hyel h2 hym (hgg l.cap) (hgm l.cap) hzs hfresh (w1:=w.drew) ⟨rfl,rfl,rfl,rfl⟩
    refine⟨⟨w.heap.size,_,some ⟨w.heap.size,0,none⟩⟩,_,?_,fun ρ' sh'=>(hf ρ' sh').1,(hf ρ sh).2,.inr ⟨Nat.le_refl _,fun b hb=>zdI w.drew _ b hb⟩⟩
    rw[h5,hr]
end
section
variable {c:Cx} {s:St} {k:List Item} {ops:Array Oper} {rest:List Nat} {o:Oper} {H:Heap} {O:List Heap}
theorem zva (t nm:Nat) {ty es n:Nat} {xs:List (List I)} {wr:Bool} (ht:s.get t = .osl 0 nm) (hS:s.S=H::O) (hl:look H nm=some (.arr ty es n xs wr)):Wk c s { σ:=(t,.psl nm n)::s.σ,S:=s.S,n:=s.n }:=by
 intro K ρ a w hi
 refine⟨K,ρ,hi.h,hi.defers,hi.size,fun t' d e=>?_⟩
 simp only[zab] at e
 split at e
 ·rename_i e2
  subst e2
  simp only[Option.some.injEq] at e
  subst e
  have hsh:shape s.S 0 nm=some (.arr es n):=by rw[hS];simp[shape,zaa,hl,Ob.sh]
  have h1:=hi.get t
  rw[ht] at h1
  rw[zce h1 hsh]
  exact .psl hsh (Nat.le_refl _)
 ·exact hi.slots _ _ e
theorem zuG {K:Kn} {ρ:Nat→Nat→Loc} {sh:Nat→Nat→Option Sh} {v:Value} {nm k:Nat} (h:RepD K ρ sh v (.psl nm k)):v = .slice (ρ 0 nm).base k (ρ 0 nm).cap∧∃ es len,sh 0 nm=some (.arr es len)∧k≤len:=by
 cases h with
 | psl e l=>exact⟨rfl,_,_,e,l⟩
theorem zuM (hT:TOk c.P c.T) (hfn:c.P.funcs[c.f]? = some c.fn) {i t t1 ta kk ty nm n m:Nat} {cl:Call} {x y:Operand} {ti1 ti2:TI} {xs ys:List (List I)} (hb:(n+m) * ti2.bytes≤140737488355328∧n+m≤9223372036854775807)
  (ho:ops[i]? = some o) (hg:o.guard=none) (hd:o.dst=some t) (hop:o.op = .call cl) (hc1:cl.callee = .builtin .append) (hc2:cl.args = #[x,y]) (hc3:cl.argTypes = #[t1,t1])
  (h1:look c.T t1=some ti1) (hk1:ti1.k = .slice ty) (h2:look c.T ty=some ti2) (hx:evD s x = .osl 0 nm) (hy:evD s y = .i (.sl ti2.size m ys)) (hS:s.S=H::O) (hl:look H nm=some (.arr ty ti2.size n xs true)) (hn:Nat.ble (t+1) s.n=true)
  (hlt:look H t=none) (hne:Nat.beq ta t=false) (hta:look s.σ ta=some (.psl nm kk))
  (hin:GM c (run c.T c.stop 1000 (.inRegion ops rest::k) { σ:=(ta,.psl t kk)::(t,.osl 0 t)::zdH nm s.σ,S:=((t,.arr ty ti2.size (n+m) (xs++ys) true)::zaS nm H)::O,n:=s.n }))
  (hmv:GM c (run c.T c.stop 1000 (.inRegion ops rest::k) { σ:=(t,.osl 0 t)::s.σ,S:=((t,.arr ty ti2.size (n+m) (xs++ys) true)::H)::O,n:=s.n })):GM c (.pause ops i rest o s k):=by
 have hin':RG c ops rest _ k:=zaH hT hfn 1000 (.inRegion ops rest::k) _ hin.h
 have hmv':RG c ops rest _ k:=zaH hT hfn 1000 (.inRegion ops rest::k) _ hmv.h
 refine⟨?_⟩
 intro K ρ a w hi
 simp only[wpOps,ho,za9 hi (show zaw ops s o=some true by unfold zaw;rw[hg]),if_true]
 have hok1:=hT _ _ h1
 have hu:c.P.underlying t1=some (.slice ty):=by have:=hok1.kind;rw[hk1] at this;exact this
 have hh:=hi.h
 rw[hS] at hh
 have hob:zaa (H::O) 0 nm=some (.arr ty ti2.size n xs true):=by simpa [zaa] using hl
 have hshn:shape s.S 0 nm=some (.arr ti2.size n):=by rw[hS];simp[shape,hob,Ob.sh]
 have hrx:=hi.ev x
 rw[hx] at hrx
 have hvx:a.eval x = .slice (ρ 0 nm).base n (ρ 0 nm).cap:=zce (es:=ti2.size) hrx hshn
 have hry:=hi.ev y
 rw[hy] at hry
 have hnow:Now K w (a.eval y) ti2.size m ys:=by
  revert hry
  generalize a.eval y=vy
  intro hr
  cases hr with
  | i r=>
   cases r with
   | @nil es p=>
    refine⟨rfl,by simp,p,0,rfl,?_⟩
    cases p with
    | none=>exact .inl ⟨rfl,rfl,rfl⟩
    | some ad=>exact .inr ⟨ad,[],rfl,.nil,fun j c hc=>by cases hc⟩
   | sl r e k' c' l=>exact⟨l,e,_,_,rfl,.inr ⟨_,_,rfl,r,fun j x hc=>by rw[Addr.add_lit];exact hi.h.holds _ _ _ (k' j x hc)⟩⟩
 have hown:=hh.own _ _ _ hob
 obtain⟨l',w',hrun,hown',hap,hcase⟩:=zs3 hu (hT _ _ h2) hown hnow hb.1 hb.2 o.type (fun o=>hh.K_fresh (Nat.le_refl _))
 have hKo:zar (ρ 0 nm) (.arr ty ti2.size n xs true)→∀ o,K (ρ 0 nm).block o=none:=by
  intro hbk
  obtain⟨_,_,_,_,h5⟩:=hown
  rcases h5 with ⟨_,h6⟩ | ⟨_,c,_,_,_,h9,_⟩
  ·exact absurd h6 hbk
  ·exact h9 rfl
 refine .inl ?_
 have hexec:(execOp a.eval o).run c.P w = .ok (.value (.slice l'.base (n+m) l'.cap)) w':=by
  unfold execOp
  simp only[hop,hc1,hc2,hc3,resolve,invoke,builtin,Sem.run_bind,Sem.run_pure,Result.andThen_ok,List.map_toArray,List.map_cons,List.map_nil,hvx,hrun]
 simp only[Oper.wp,hexec,Oper.upon]
 have hrta:=hi.slots _ _ hta
 obtain⟨hva,es0,len0,hsa,hka⟩:=zuG hrta
 rw[hshn] at hsa
 simp only[Option.some.injEq,Sh.arr.injEq] at hsa
 obtain⟨rfl,rfl⟩:=hsa
 rcases hcase with hcase | ⟨hfresh,hold⟩
 ·subst hcase
  obtain⟨hI,hbut⟩:=hh.renew (dst:=t) hl (by rw[za2,hlt];split <;> rfl) hap Iff.rfl (ob':=.arr ty ti2.size (n+m) (xs++ys) true) Iff.rfl hKo hown'
  have hsh:shape (((t,Ob.arr ty ti2.size (n+m) (xs++ys) true)::zaS nm H)::O) 0 t=some (.arr ti2.size (n+m)):=by simp[shape,zaa,zab,Ob.sh]
  refine hin' K (upd ρ t (ρ 0 nm)) _ w' ?_
  rw[hd]
  refine⟨hI,hi.defers,by simp[Act.put];exact hi.size,fun t' d' e'=>?_⟩
  rw[zbp (by rw[hi.size];exact Nat.le_of_ble_eq_true hn)]
  simp only[zab] at e'
  split at e'
  ·rename_i e2
   simp only[Option.some.injEq] at e'
   subst e'
   subst e2
   rw[if_neg (fun e=>by subst e;rw[beq_of_eq rfl] at hne;cases hne),hva]
   have:=RepD.psl (K:=K) (ρ:=upd ρ t (ρ 0 nm)) hsh (show kk≤n+m by omega)
   rwa [zaJ] at this
  split at e'
  ·rename_i e1 e2
   simp only[Option.some.injEq] at e'
   subst e'
   rw[if_pos e2]
   have:=RepD.osl (K:=K) (ρ:=upd ρ t (ρ 0 nm)) hsh
   rwa [zaJ] at this
  ·rename_i e1 e2
   rw[if_neg e2]
   rw[zbZ] at e'
   cases hls:look s.σ t' with
   | none=>simp[hls] at e'
   | some d0=>
    simp only[hls,Option.map_some,Option.some.injEq] at e'
    subst e'
    have hr:=hi.slots _ _ hls
    rw[hS] at hr
    exact hr.kill hbut
 ·have hg':Grow K ρ (H::O) w [(t,.arr ty ti2.size (n+m) (xs++ys) true)] K (upd ρ t l') w':=by
   refine⟨K.le_refl,fun _ _ _ h=>.inl h,hap.size,hold,hap.rest,fun dep nm' h=>zaI _ _ _ ?_,fun b o x hx=>?_,fun nm' ob' h=>?_,fun nm1 ob1 nm2 ob2 h1 h2 _ _ _=>?_⟩
   ·rcases h with h | h
    ·exact .inl h
    ·refine .inr fun e=>?_
     subst e
     simp[zab] at h
   ·have h1:=hh.holds _ _ _ hx
    have hlt:b<w.heap.size:=by
     rcases Nat.lt_or_ge b w.heap.size with h' | h'
     ·exact h'
     ·rw[hh.K_fresh h'] at hx;cases hx
    rw[World.cell?,hold b hlt]
    exact h1
   ·simp only[zab] at h
    split at h
    ·rename_i e
     subst e
     simp only[Option.some.injEq] at h
     subst h
     rw[zaJ]
     exact⟨hown' _ _,fun _=>hfresh⟩
    ·cases h
   ·simp only[zab] at h1 h2
    split at h1
    ·rename_i e1
     split at h2
     ·rename_i e2;rw[← e1,← e2]
     ·cases h2
    ·cases h1
  obtain⟨hI,hst⟩:=HInv.grow (S:=H::O) rfl hh (fun _ _ _ h=>h) (fun nm' h=>by
   simp only[zab] at h
   split at h
   ·rename_i e;subst e;exact hlt
   ·exact absurd rfl h) hg'
  refine hmv' K (upd ρ t l') _ w' ?_
  rw[hd]
  refine⟨hI,hi.defers,by simp[Act.put];exact hi.size,fun t' d' e'=>?_⟩
  rw[zbp (by rw[hi.size];exact Nat.le_of_ble_eq_true hn)]
  simp only[zab] at e'
  split at e'
  ·rename_i e2
   simp only[Option.some.injEq] at e'
   subst e'
   rw[if_pos e2]
   have hsh:shape (((t,Ob.arr ty ti2.size (n+m) (xs++ys) true)::H)::O) 0 t=some (.arr ti2.size (n+m)):=by simp[shape,zaa,zab,Ob.sh]
   have:=RepD.osl (K:=K) (ρ:=upd ρ t l') hsh
   rwa [zaJ] at this
  ·rename_i e2
   rw[if_neg e2]
   have hr:=hi.slots _ _ e'
   rw[hS] at hr
   exact hr.stays hst
end
end Go.AI
