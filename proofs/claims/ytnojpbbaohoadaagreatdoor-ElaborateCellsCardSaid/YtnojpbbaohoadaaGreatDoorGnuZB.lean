/- The layer of abstract runs, part 28. -/
import Derived.Test.YtnojpbbaohoadaaGreatDoorGnuZA
import Derived.RangeFuncBox
import Derived.RangeFuncLeaves
import Derived.Shelf.Abstract
import Derived.WalkKit
import Derived.OwnWalkIn
import Derived.TacticsInMore
import Derived.LoopNIn
import Derived.LoopIn
import Derived.Maps.AppendAt
import Derived.KernelRfl
set_option linter.unusedSimpArgs false
set_option linter.unusedVariables false
set_option linter.all false
set_option maxHeartbeats 4000000
namespace Go.AI
open Go.Proofs
set_option maxRecDepth 20000
abbrev mvDc (m:Mv):D:=.agg [ii m.frm,ii m.ev,ii m.to,ii m.g.op,ii m.g.vl,ii m.g.ix,exs m.g.args,upds m.us]
abbrev zcr (l:List Mv):Ob:=.arr 187 8 l.length (l.map mvI) true
def zt9 (x y:Mv):Int:=if cmpI x.frm y.frm≠0 then cmpI x.frm y.frm else cmpI x.ev y.ev
abbrev ltMv (x y:Mv):Prop:=x.frm<y.frm∨x.frm=y.frm∧x.ev<y.ev
theorem zwH {x y:Mv}:zt9 x y<0↔ltMv x y:=by
 unfold zt9 cmpI ltMv
 by_cases h1:x.frm<y.frm
 ·rw[if_pos h1,if_pos (by decide)];simp[h1]
 rw[if_neg h1]
 by_cases h2:x.frm>y.frm
 ·rw[if_pos h2,if_pos (by decide)];constructor
  ·intro h;omega
  ·intro h;omega
 rw[if_neg h2,if_neg (by decide)]
 by_cases h3:x.ev<y.ev
 ·rw[if_pos h3];constructor
  ·intro _;exact .inr ⟨by omega,h3⟩
  ·intro _;decide
 rw[if_neg h3]
 by_cases h4:x.ev>y.ev
 ·rw[if_pos h4];constructor
  ·intro h;omega
  ·intro h;omega
 ·rw[if_neg h4];constructor
  ·intro h;omega
  ·intro h;omega
abbrev SrtM (l:List Mv):Prop:=l.Pairwise fun x y=>¬ltMv y x
theorem zeT {x:Mv}:∀{P S:List Mv},(∀p∈P,¬ltMv x p)→(∀s∈S,ltMv x s)→zcO x (P++S)=P++x::S
 |[],[],_,_=>rfl
 |[],s::r,_,h=>by
  have:=h s (by simp);simp only[List.nil_append,zcO];rw[if_pos this]
 |p::P,S,h,h2=>by
  have:=h p (by simp);simp only[List.cons_append,zcO];rw[if_neg this,zeT (fun q hq=>h q (by simp[hq])) h2]
theorem zib {x:Mv} {P S:List Mv} (h:SrtM (P++S)) (hp:∀p∈P,¬ltMv x p) (hs:∀s∈S,ltMv x s):SrtM (P++x::S):=by
 obtain⟨h1,h2,h3⟩:=List.pairwise_append.1 h;refine List.pairwise_append.2 ⟨h1,List.pairwise_cons.2 ⟨fun s hs'=>?_,h2⟩,fun a ha b hb=>?_⟩
 ·have:=hs s hs';unfold ltMv at *;omega
 ·rcases List.mem_cons.1 hb with rfl|hb
  ·exact hp a ha
  ·exact h3 a ha b hb
theorem zsb:∀(P:List Mv) (p x:Mv) (T:List Mv),(((P++p::x::T).map mvI).set (P.length+1) (mvI p)).set P.length (mvI x)=(P++x::p::T).map mvI
 |[],p,x,T=>rfl
 |q::P,p,x,T=>by
  have:=zsb P p x T;simp only[List.cons_append,List.map_cons,List.length_cons,List.set_cons_succ,this]
theorem zzY (P:List Mv):P=[]∨∃Q p,P=Q++[p]:=by
 by_cases h:P=[]
 ·exact .inl h
 ·exact .inr ⟨P.dropLast,P.getLast h,(List.dropLast_concat_getLast h).symm⟩
theorem zqm (A:List Mv) (x:Mv):zdH (A++[x])=zcO x (zdH A):=by simp[zdH,List.foldl_append]
theorem zyu (O:List Heap) (x y:Mv):zan Tryz.prog 136 [mvDc x,mvDc y] O (ii (zt9 x y)) [] O:=by
 have h1:=fun O=>zoO O x.frm y.frm;have h2:=fun O=>zoO O x.ev y.ev;have h3:=fun O=>zzX O (cmpI x.frm y.frm) (cmpI x.ev y.ev);unfold zt9;generalize cmpI x.frm y.frm=a at *;generalize cmpI x.ev y.ev=b at *;refine zaa Tk Tryz.func136 rfl Tryz.call136 Tryz.ntmps136 (Nat.le_of_ble_eq_true rfl) fun E=>?_;refine zai Tk Tryz.func136 ?_;refine zat Tk Tryz.func136 zax rfl ?_;refine zaF Tk (fun _=>h1 _) rfl rfl rfl ?_;refine zaF Tk (fun _=>h2 _) rfl rfl rfl ?_;refine zaF Tk (fun _=>h3 _) rfl rfl rfl ?_;refine zaA Tk Tryz.func136 (by kernel_rfl) ?_;refine zaj Tk (r:=ii (if a≠0 then a else b)) rfl rfl rfl trivial rfl rfl ?_;rfl
abbrev ztF:D:=.fn (.func 136) [] []
theorem mget {A:List Mv} {x:Mv} {T:List Mv} {k:Nat} (hk:k=A.length):((A++x::T).map mvI)[((k:Nat):Int).toNat]? = some (mvI x):=by
 subst hk;simp
set_option maxHeartbeats 8000000 in
theorem zzz (O:List Heap) (d nm:Nat) (l:List Mv) (hl:l.length≤1000) (ho:zab O d nm=some (zcr l)):zan Tryz.prog 228 [.osl d nm,ii 0,ii l.length,ztF] O (.tup []) [] (setAt O d nm (zcr (zdH l))):=by
 have hc:=fun O x y=>zyu O x y
 cases l with
 |nil=>
  refine zaa Tk Tryz.func228 rfl Tryz.call228 Tryz.ntmps228 (Nat.le_of_ble_eq_true rfl) fun E=>?_;refine zai Tk Tryz.func228 ?_;refine zad ?_;refine zai Tk Tryz.func228 ?_;refine gcF Tk Tryz.func228 rfl ?_;refine za3 (wk_S (S':=_::setAt O d nm (zcr [])) (zaJ (zbl ho))) ?_;refine zaj Tk (r:=.tup []) rfl rfl rfl trivial rfl rfl ?_;rfl
 |cons z r=>
 generalize hL:z::r=l at *;have hpos:1≤l.length:=by rw[←hL];simp
 refine zaa Tk Tryz.func228 rfl Tryz.call228 Tryz.ntmps228 (Nat.le_of_ble_eq_true rfl) fun E=>?_;refine zai Tk Tryz.func228 ?_;refine g_wk (wk_S (S':=_::setAt O d nm (zcr ([z]++r))) (zaJ (zbl (by rw[ho,←hL];rfl)))) ?_;refine zad ?_;refine zag (fun x:List Mv×List Mv=>[(0,.osl (d+1) nm),(1,ii 0),(2,ii l.length),(3,ztF),(8,ii x.1.length)]) (fun _=>[]) (fun x=>setAt O d nm (zcr (x.1++x.2))) 53
  (fun x=>SrtM x.1∧(∃T,T++x.2=l∧zdH T=x.1)∧x.1.length+x.2.length=l.length) (fun x=>x.2.length) ([z],r) ⟨List.pairwise_singleton _ _,⟨[z],hL,rfl⟩,by rw[←hL];simp;omega⟩ ⟨rfl,rfl,rfl,rfl,rfl,trivial⟩ rfl trivial rfl rfl ?_
 rintro ⟨A,R⟩ ⟨hA,hp,hlen⟩ ih;simp only at hA hp hlen;refine zai Tk Tryz.func228 ?_;refine zaf Tk Tryz.func228 rfl (fun g1=>?_) (fun g1=>?_)
 ·have g1:A.length<l.length:=by simpa using g1
  obtain⟨x,R',rfl⟩:∃x R',R=x::R':=by
   cases R with
   |nil=>simp at hlen;omega
   |cons x R'=>exact⟨x,R',rfl⟩
  obtain⟨T,hT,hTA⟩:=hp;have hTn:(T++[x])++R'=l:=by rw[←hT];simp
  have hTs:zdH (T++[x])=zcO x A:=by rw[zqm,hTA]
  rw[List.length_cons] at hlen;refine zad ?_;refine zag (fun y:List Mv×List Mv=>[(0,.osl (d+1) nm),(1,ii 0),(2,ii l.length),(3,ztF),(8,ii A.length),(9,ii y.1.length)]) (fun _=>[]) (fun y=>setAt O d nm (zcr (y.1++x::(y.2++R')))) 53
   (fun y=>(∀s∈y.2,ltMv x s)∧y.1++y.2=A) (fun y=>y.1.length) (A,[]) ⟨by simp,by simp⟩ ⟨rfl,rfl,rfl,rfl,rfl,rfl,trivial⟩ rfl trivial rfl rfl ?_
  rintro ⟨P,S⟩ ⟨hS,hA2⟩ ih2;simp only at hS hA2;rcases zzY P with rfl|⟨Q,p,rfl⟩
  ·rw[List.nil_append] at hA2;subst hA2;have hi1:ii (IntKind.i64.wrap ((S.length:Int)+1))=ii ((x::S:List Mv).length:Int):=congrArg ii (zav (n:=1000001) (by omega) (by decide));refine zai Tk Tryz.func228 ?_;refine zat Tk Tryz.func228 zax rfl ?_;refine zbU Tk (fun h=>absurd h (by simp)) (fun _=>?_);refine zaA Tk Tryz.func228 (by kernel_rfl) ?_;refine zaf Tk Tryz.func228 rfl (fun h=>absurd h (by simp)) (fun _=>?_);refine zad ?_;have e1:zcO x S=x::S:=zeT (P:=[]) (by simp) hS;refine ih (x::S,R') _ _ ⟨zib (P:=[]) hA (by simp) hS,⟨T++[x],hTn,hTs.trans e1⟩,by simp only[List.length_cons];omega⟩ (by simp) ⟨rfl,rfl,rfl,rfl,hi1,trivial⟩ rfl trivial rfl rfl
  ·have e1:(Q++[p])++x::(S++R')=Q++p::x::(S++R'):=by simp
   have e2:((Q++[p]).length:Int)=((Q.length+1:Nat):Int):=by simp
   have hQA:Q.length+1+S.length=A.length:=by rw[←hA2];simp;omega
   have w1:IntKind.i64.wrap (((Q.length+1:Nat):Int)-1)=(Q.length:Int):=by rw[w64 (by omega) (by omega)];omega
   have gx:((Q++p::x::(S++R')).map mvI)[(((Q.length+1:Nat):Int)).toNat]? = some (mvI x):=by
    have:=mget (A:=Q++[p]) (x:=x) (T:=S++R') (k:=Q.length+1) (by simp);rwa [e1] at this
   have gp:((Q++p::x::(S++R')).map mvI)[(IntKind.i64.wrap (((Q.length+1:Nat):Int)-1)).toNat]? = some (mvI p):=by rw[w1];exact mget rfl
   have hlt:=zwH (x:=x) (y:=p);have hcc:=fun O=>hc O x p;rw[e2,e1];have hll:(Q++p::x::(S++R')).length=l.length:=by simp;omega
   generalize zt9 x p=cw at *;obtain⟨xf,xe,xt,⟨xo,xv,xi,xa⟩,xu⟩:=x;obtain⟨pf,pe,pt,⟨po,pv,pi,pa⟩,pu⟩:=p;generalize hxx:(⟨xf,xe,xt,⟨xo,xv,xi,xa⟩,xu⟩:Mv)=x at *;generalize hpp:(⟨pf,pe,pt,⟨po,pv,pi,pa⟩,pu⟩:Mv)=p at *;refine zai Tk Tryz.func228 ?_;refine zat Tk Tryz.func228 zax rfl ?_;refine zbU Tk (fun _=>?_) (fun h=>absurd h (by simp));refine zbR Tk (zaz (H:=([]:Heap)) (zae ho)) ?_;refine zar Tk (by exact⟨by omega,by show ((Q.length+1:Nat):Int)<((Q++p::x::(S++R')).length:Int);rw[hll];omega⟩) ?_;refine zbR Tk (zaz (H:=([]:Heap)) (zae ho)) ?_;refine zay Tk (gx) ?_;refine zbR Tk (zaz (H:=([]:Heap)) (zae ho)) ?_;refine zar Tk (by exact⟨by show (0:Int)≤IntKind.i64.wrap (((Q.length+1:Nat):Int)-1);rw[w1];omega,by show IntKind.i64.wrap (((Q.length+1:Nat):Int)-1)<((Q++p::x::(S++R')).length:Int);rw[w1,hll];omega⟩) ?_
   refine zbR Tk (zaz (H:=([]:Heap)) (zae ho)) ?_;refine zay Tk (gp) ?_;refine zaF Tk (fun _=>hcc _) rfl rfl rfl ?_;refine zaA Tk Tryz.func228 (by kernel_rfl) ?_;refine zaf Tk Tryz.func228 rfl (fun c1=>?_) (fun c1=>?_)
   ·have c1:cw<0:=of_decide_eq_true c1;have hrk:=hlt.1 c1;have e3:Ob.arr 187 8 (Q++p::x::(S++R')).length ((((Q++p::x::(S++R')).map mvI).set (((Q.length+1:Nat):Int)).toNat (mvI p)).set (IntKind.i64.wrap (((Q.length+1:Nat):Int)-1)).toNat (mvI x)) true=zcr (Q++x::(p::S++R')):=by
     rw[w1];show Ob.arr 187 8 _ ((((Q++p::x::(S++R')).map mvI).set (Q.length+1) (mvI p)).set Q.length (mvI x)) true=_;rw[zsb];simp[zcr]
    refine zjw Tk 15 rfl ?_;refine zbR Tk (zaz (H:=([]:Heap)) (zae ho)) ?_;refine zar Tk (by exact⟨by show (0:Int)≤IntKind.i64.wrap (((Q.length+1:Nat):Int)-1);rw[w1];omega,by show IntKind.i64.wrap (((Q.length+1:Nat):Int)-1)<((Q++p::x::(S++R')).length:Int);rw[w1,hll];omega⟩) ?_;refine zbR Tk (zaz (H:=([]:Heap)) (zae ho)) ?_;refine zay Tk (gp) ?_;refine zbR Tk (zaz (H:=([]:Heap)) (zae ho)) ?_;refine zar Tk (by exact⟨by omega,by show ((Q.length+1:Nat):Int)<((Q++p::x::(S++R')).length:Int);rw[hll];omega⟩) ?_;refine zbR Tk (zaz (H:=([]:Heap)) (zae ho)) ?_;refine zay Tk (gx) ?_;refine zbR Tk (zaz (H:=([]:Heap)) (zae ho)) ?_;refine zar Tk (by exact⟨by omega,by show ((Q.length+1:Nat):Int)<((Q++p::x::(S++R')).length:Int);rw[hll];omega⟩) ?_
    refine zyN Tk Tryz.func228 zax (N:=15) [16,17] [2,3,4] (by kernel_rfl) rfl rfl rfl rfl rfl rfl rfl rfl rfl rfl (zae ho) (by kernel_rfl) (by kernel_rfl) ?_ (by kernel_rfl) ?_
    ·intro i hi;simp only[List.mem_cons,List.not_mem_nil,or_false] at hi;rcases hi with rfl|rfl|rfl
     ·exact⟨_,_,_,rfl,rfl,rfl,rfl,rfl,rfl,rfl⟩
     ·exact⟨_,_,_,rfl,rfl,rfl,rfl,rfl,rfl,rfl⟩
     ·exact⟨_,_,_,rfl,rfl,rfl,rfl,rfl,rfl,rfl⟩
    refine zbm Tk Tryz.func228 (zaz (H:=([]:Heap)) (zae (zae ho))) ?_;refine zah Tk Tryz.func228 (by exact⟨by show (0:Int)≤IntKind.i64.wrap (((Q.length+1:Nat):Int)-1);rw[w1];omega,by show IntKind.i64.wrap (((Q.length+1:Nat):Int)-1)<((Q++p::x::(S++R')).length:Int);rw[w1,hll];omega⟩) ?_;refine zbm Tk Tryz.func228 (zaz (H:=([]:Heap)) (zae (zae ho))) ?_;refine g_wk (wk_S (S':=_::setAt O d nm (zcr (Q++x::(p::S++R')))) (zaJ fun d' n'=>by rw[←e3];exact (zbM d' n').trans (zbM d' n'))) ?_;refine zad ?_;refine ih2 (Q,p::S) _ _ ⟨fun s hs=>?_,by simpa using hA2⟩ (by simp) ⟨rfl,rfl,rfl,rfl,rfl,congrArg ii w1,trivial⟩ rfl trivial rfl rfl;rcases List.mem_cons.1 hs with rfl|hs
    ·exact hrk
    ·exact hS s hs
   ·have c1:¬cw<0:=of_decide_eq_false c1;have hrk:¬ltMv x p:=fun h=>c1 (hlt.2 h);have hall:∀q∈Q++[p],¬ltMv x q:=by
     rw[←hA2] at hA;have h1:=(List.pairwise_append.1 hA).1;intro q hq;rcases List.mem_append.1 hq with hq|hq
     ·have:=(List.pairwise_append.1 h1).2.2 q hq p (by simp);unfold ltMv at *;omega
     ·rw[List.mem_singleton] at hq;subst hq;exact hrk
    have e4:zcO x A=(Q++[p])++x::S:=by rw[←hA2];exact zeT hall hS
    have hi1:ii (IntKind.i64.wrap ((A.length:Int)+1))=ii (((Q++[p])++x::S:List Mv).length:Int):=by
     rw[zav (n:=1000001) (by omega) (by decide),←hA2];simp;omega
    refine zad ?_;refine ih ((Q++[p])++x::S,R') _ _ ⟨zib (by rw[hA2];exact hA) hall hS,⟨T++[x],hTn,hTs.trans e4⟩,by simp;omega⟩ (by simp) ⟨rfl,rfl,rfl,rfl,hi1,trivial⟩ (congrArg (fun L=>_::setAt O d nm (zcr L)) (by simp:Q++p::x::(S++R')=((Q++[p])++x::S)++R')) trivial rfl rfl
 ·have g1:l.length≤A.length:=by simpa using g1
  obtain rfl:R=[]:=List.eq_nil_of_length_eq_zero (by omega);obtain⟨T,hT,hTA⟩:=hp;rw[List.append_nil] at hT ⊢;subst hT;rw[←hTA];refine zaj Tk (r:=.tup []) rfl rfl rfl trivial rfl rfl ?_;rfl
theorem zkI (x:Mv):∀l,(zcO x l).length=l.length+1
 |[]=>rfl
 |y::r=>by
  unfold zcO
  split
  ·simp
  ·simp[zkI x r]
theorem zfb (l:List Mv):(zdH l).length=l.length:=by
 have:∀(r acc:List Mv),(r.foldl (fun acc x=>zcO x acc) acc).length=acc.length+r.length:=by
  intro r
  induction r with
  |nil=>simp
  |cons x r ih=>intro acc;rw[List.foldl_cons,ih,zkI,List.length_cons];omega
 have:=this l [];simpa [zdH] using this
theorem zsf (O:List Heap) (d nm:Nat) (l:List Mv) (hl:l.length≤19) (ho:zab O d nm=some (zcr l)):zan Tryz.prog 174 [.osl d nm,ii l.length,ztF] O (.tup []) [] (setAt O d nm (zcr (zdH l))):=by
 have h:=fun O d ho=>zzz O d nm l (by omega) ho;have hsl:=zfb l;refine zaa Tk Tryz.func174 rfl Tryz.call174 Tryz.ntmps174 (Nat.le_of_ble_eq_true rfl) fun E=>?_;refine zai Tk Tryz.func174 ?_;refine zad ?_;refine zai Tk Tryz.func174 ?_;refine zaf Tk Tryz.func174 rfl (fun h=>absurd h (by simp;omega)) (fun _=>?_);refine zak Tk Tryz.func174 (h _ (d+1) (zaz (H:=([]:Heap)) ho)) rfl rfl rfl (zaR (zaz (H:=([]:Heap)) ho) (by simp[Ob.sh,hsl])) rfl ?_;refine zad ?_;refine zai Tk Tryz.func174 ?_;refine zaf Tk Tryz.func174 rfl (fun h=>absurd h (by simp;omega)) (fun _=>?_);refine zaj Tk (r:=.tup []) rfl rfl rfl trivial rfl rfl ?_;rfl
theorem zxJ (O:List Heap) (d nm:Nat) (l:List Mv) (hl:l.length≤19) (ho:zab O d nm=some (zcr l)):zan Tryz.prog 135 [.osl d nm,ztF] O (.tup []) [] (setAt O d nm (zcr (zdH l))):=by
 have h:=fun O d ho=>zsf O d nm l hl ho;have hsl:=zfb l;refine zaa Tk Tryz.func135 rfl Tryz.call135 Tryz.ntmps135 (Nat.le_of_ble_eq_true rfl) fun E=>?_;refine zai Tk Tryz.func135 ?_;refine zbm Tk Tryz.func135 (zaz ho) ?_;refine zak Tk Tryz.func135 (h _ (d+1) (zaz (H:=([]:Heap)) ho)) rfl rfl rfl (zaR (zaz (H:=([]:Heap)) ho) (by simp[Ob.sh,hsl])) rfl ?_;refine zaj Tk (r:=.tup []) rfl rfl rfl trivial rfl rfl ?_;rfl
end Go.AI
namespace Go.Proofs
open Go.RowKit Go.Shelf
attribute [local go_sem] Oper.semAt_some
def zeF {α:Type} (f:Nat→α) (k:Nat):List α:=(List.range k).map f
theorem zh7 {α:Type} (f:Nat→α) (k:Nat):zeF f (k+1)=zeF f k++[f k]:=by simp[zeF,List.range_succ]
theorem zjW {α:Type} (f:Nat→α) (k:Nat):(zeF f k).length=k:=by simp[zeF]
theorem zr4 (zs:List Int):zeF (fun j=>zs[j]?.getD 0) zs.length=zs:=by
 apply List.ext_getElem
 ·simp[zeF]
 ·intro i h1 h2;simp[zeF,h2]
set_option maxRecDepth 100000 in
theorem zvj (F:Fence) (n:Nat) (h7:F.fn 173) (hro:F.round=none) (hn:1≤n) (l Bs Bo n₀ b off len cap:Nat) (zs:List Int) (hreach:len*8≤140737488351232) (hb:b<n₀) (J Jx:List Int→World→Prop)
  (hY:∀pre x W,J pre W→pre.length<len→YieldAt F (n-1) Tryz.prog l #[.int .i64 x] W fun e W'=>
   (e=.returned (.bool true)∧J (pre++[x]) W'∧Below n₀ W W')∨(e=.returned (.bool false)∧Jx (pre++[x]) W'))
  (W:World) (hBs:W.cell? ⟨Bs,Bo,none⟩=some (.slice (some ⟨b,off,none⟩) len cap)) (hc:∀j,j<len→W.cell? ⟨b,off+j,none⟩=some (.int .i64 (zs[j]?.getD 0))) (h0:J [] W) :
  CallsIn F n Tryz.prog 173 #[.func (.yield l) #[] #[],.pointer (some ⟨Bs,Bo,none⟩)] W fun e W'=>(∃v,e=.returned v) ∧
   ((∃ys,ys=zeF (fun j=>zs[j]?.getD 0) len∧J ys W')∨(∃pre,(∃k,k≤len∧pre=zeF (fun j=>zs[j]?.getD 0) k)∧Jx pre W')):=by
 refine callsIn_of_wp Tryz.func173 rfl h7 ?_ hro;simp only[Tryz.ntmps173,List.size_toArray,List.length_cons,List.length_nil,Nat.reduceAdd,Nat.reduceSub,Array.replicate_succ,Array.replicate_zero,List.push_toArray,List.append_toArray,List.nil_append,List.cons_append]
 gi_wp2
 gi_loopw [7] (fun i wr=>∃k:Nat,k≤len∧i=.int .i64 k∧J (zeF (fun j=>zs[j]?.getD 0) k) wr∧Below n₀ W wr)
  (fun i _=>len-(intOf i).toNat)
 case atStart=>exact⟨0,Nat.zero_le _,rfl,h0,Below.refl _ _⟩
 case round=>
  obtain⟨k,hk,rfl,hJs,hnx⟩:=hrel;have hcx:k<len→wr.cell? ⟨b,off+k,none⟩=some (.int .i64 (zs[k]?.getD 0)):=fun h=>(hnx.cell (p:=⟨b,off+k,none⟩) hb).trans (hc k h)
  by_cases hlt:k<len
  ·obtain⟨fn,tmps,assign,body,hy,hR⟩:=hY _ (zs[k]?.getD 0) wr hJs (by rw[zjW];exact hlt);have hcx':=hcx hlt
   gi_wp2
   refine hR.mono ?_;rintro e W3 (⟨rfl,hJ3,hk3⟩|⟨rfl,hJx3⟩)
   ·gi_wp2
    go_roundw
    case rel=>exact⟨k+1,by omega,by simp,by rw[zh7];exact hJ3,hnx.trans hk3⟩
    case measure=>simp[intOf];omega
   ·gi_wp2
    refine bodyPost_ret (results_none rfl _ _ _) rfl ?_;exact⟨⟨_,rfl⟩,.inr ⟨_,⟨k+1,by omega,(zh7 _ _).symm⟩,hJx3⟩⟩
  ·obtain rfl:k=len:=by omega
   gi_wp2
   go_end0
   exact⟨⟨_,rfl⟩,.inl ⟨_,rfl,hJs⟩⟩
theorem zqb (zs:List Int) {k:Nat} (hk:k≤zs.length):zeF (fun j=>zs[j]?.getD 0) k=zs.take k:=by
 apply List.ext_getElem
 ·simp[zeF,hk]
 ·intro i h1 h2;have:i<zs.length:=by simp[zeF] at h1;omega
  simp[zeF,this]
def IntsM (n₀:Nat) (W:World) (sv:Value) (zs:List Int):Prop:=
 (∃a cap,sv=.slice a 0 cap∧zs=[])∨∃b off cap,sv=.slice (some ⟨b,off,none⟩) zs.length cap∧b<n₀∧∀j,j<zs.length→W.cell? ⟨b,off+j,none⟩=some (.int .i64 (zs[j]?.getD 0))
theorem IntsM.below {n₀:Nat} {A B:World} (h:Below n₀ A B) {sv:Value} {zs:List Int}:IntsM n₀ A sv zs→IntsM n₀ B sv zs
 |.inl e=>.inl e
 |.inr ⟨b,off,cap,e,hb,hc⟩=>.inr ⟨b,off,cap,e,hb,fun j hj=>(h.cell (p:=⟨b,off+j,none⟩) hb).trans (hc j hj)⟩
set_option maxRecDepth 100000 in
theorem zjV (F:Fence) (n:Nat) (h7:F.fn 173) (hro:F.round=none) (l Bs Bo:Nat) (a:Option Addr) (cap:Nat) (J:List Int→World→Prop) (W:World) (hBs:W.cell? ⟨Bs,Bo,none⟩=some (.slice a 0 cap)) (h0:J [] W) :
  CallsIn F n Tryz.prog 173 #[.func (.yield l) #[] #[],.pointer (some ⟨Bs,Bo,none⟩)] W fun e W'=>(∃v,e=.returned v)∧J [] W':=by
 refine callsIn_of_wp Tryz.func173 rfl h7 ?_ hro;simp only[Tryz.ntmps173,List.size_toArray,List.length_cons,List.length_nil,Nat.reduceAdd,Nat.reduceSub,Array.replicate_succ,Array.replicate_zero,List.push_toArray,List.append_toArray,List.nil_append,List.cons_append]
 gi_wp2
 gi_loopw [7] (fun i wr=>i=.int .i64 0∧J [] wr) (fun _ _=>0)
 case atStart=>exact⟨rfl,h0⟩
 case round=>
  obtain⟨rfl,hJs⟩:=hrel
  gi_wp2
  go_end0
  exact⟨⟨_,rfl⟩,hJs⟩
theorem ziS (F:Fence) (n:Nat) (h7:F.fn 173) (hro:F.round=none) (hn:1≤n) (Bs Bo n₀:Nat) (sv:Value) (zs:List Int) (hreach:zs.length*8≤140737488351232) (w:World) (hBs:Bs<w.heap.size) (hn₀:n₀≤w.heap.size)
  (hc:w.cell? ⟨Bs,Bo,none⟩=some sv) (hI:IntsM n₀ w sv zs) :
  SeqStopsK F n Tryz.prog 173 #[.pointer (some ⟨Bs,Bo,none⟩)] (fun x:Int=>#[Value.int .i64 x]) (Below n₀) (fun ys=>ys=zs) (fun pre=>pre <+: zs) zs.length w:=fun l J Jx W hW _ _ hY h0=>by
 have hc':=(hW.cell (p:=⟨Bs,Bo,none⟩) hBs).trans hc;rcases hI.below (hW.mono hn₀) with ⟨a,cap,rfl,rfl⟩|⟨b,off,cap,rfl,hb,hcs⟩
 ·exact (zjV F n h7 hro l Bs Bo a cap J W hc' h0).mono fun e W' ⟨he,hj⟩=>⟨he,.inl ⟨_,rfl,hj⟩⟩
 ·refine (zvj F n h7 hro hn l Bs Bo n₀ b off zs.length cap zs hreach hb J Jx hY W hc' hcs h0).mono ?_;rintro e W' ⟨he,⟨ys,rfl,hj⟩|⟨pre,⟨k,hk,rfl⟩,hj⟩⟩
  ·exact⟨he,.inl ⟨_,zr4 zs,hj⟩⟩
  ·exact⟨he,.inr ⟨_,by rw[zqb zs hk];exact List.take_prefix _ _,hj⟩⟩
theorem zp7 (F:Fence) (n:Nat) (h5:F.fn 133) (hro:F.round=none) (a:Option Addr) (len cap:Nat) (w:World) :
  CallsIn F n Tryz.prog 133 #[.slice a len cap] w fun e w'=>e=.returned (.func (.func 173) #[] #[.pointer (some ⟨w.heap.size,0,none⟩)])∧w'=w.alloc (.cells #[.slice a len cap] 55):=by
 refine callsIn_of_wp Tryz.func133 rfl h5 ?_ hro;simp only[Tryz.ntmps133,List.size_toArray,List.length_cons,List.length_nil,Nat.reduceAdd,Nat.reduceSub,Array.replicate_succ,Array.replicate_zero,List.push_toArray,List.append_toArray,List.nil_append,List.cons_append]
 gi_wp2
 go_ret
 exact⟨rfl,rfl⟩
theorem zxv (a:Option Addr) (len cap:Nat) (w:World) :
  Calls Tryz.prog 133 #[.slice a len cap] w fun e w'=>e=.returned (.func (.func 173) #[] #[.pointer (some ⟨w.heap.size,0,none⟩)])∧w'=w.alloc (.cells #[.slice a len cap] 55):=
 callsIn_wide.1 (zp7 Fence.wide 1 trivial rfl a len cap w)
theorem zzB:(Tryz.prog.info? 3).map (fun i=>(i.zero,i.size,i.bytes))=some (some (.int .i64 0),1,8):=by kernel_rfl
set_option maxRecDepth 100000 in
theorem zjO (F:Fence) (n:Nat) (h3:F.fn 226) (h5:F.fn 173) (hro:F.round=none) (hn:3≤n) (Bs Bo:Nat) (sv:Value) (xs:List Int) (hlen:xs.length≤maxLen) (hbytes:xs.length*8≤140737488351232) (w:World) (hBs:Bs<w.heap.size) (hc0:w.cell? ⟨Bs,Bo,none⟩=some sv) (hL:IntsM w.heap.size w sv xs) :
  CallsIn F n Tryz.prog 226 #[.slice none 0 0,.func (.func 173) #[] #[.pointer (some ⟨Bs,Bo,none⟩)]] w fun e W'=>∃v,e=.returned v∧W'.ownsRow w.heap.size 3 1 v xs.length (xs.map (Value.int .i64))∧(v=.slice none 0 0↔xs=[])∧Below w.heap.size w W':=by
 have h1:1≤n:=by omega
 obtain⟨i0,hi,hz0,hz1,hz2⟩:=info_parts zzB;refine callsIn_of_wp_marks Tryz.func226 rfl h3 ?_ hro;simp only[Tryz.ntmps226,List.size_toArray,List.length_cons,List.length_nil,Nat.reduceAdd,Nat.reduceSub,Array.replicate_succ,Array.replicate_zero,List.push_toArray,List.append_toArray,List.nil_append,List.cons_append]
 gi_wp2
 have bO:=Boxed.new w 55 (.slice none 0 0);have hB0:Below w.heap.size w (w.alloc (.cells #[.slice none 0 0] 55)):=(Below.refl _ w).alloc (Nat.le_refl _) _;refine wpIn_rangeFunc_ownG hro h1 (gf:=173) (lb:=#[.pointer (some ⟨Bs,Bo,none⟩)]) rfl h5 (enters_of Tryz.func173 (by kernel_rfl) rfl)
  (ziS F (n-1) h5 hro (by omega) Bs Bo w.heap.size sv xs hbytes _ (by simp;omega) (by simp) ((hB0.cell (p:=⟨Bs,Bo,none⟩) hBs).trans hc0) (hL.below hB0)) belowK_t (belowK_b (by simp)) (Below.refl _ _) (fun _=>rfl)
  (fun pre W=>(∃v,Boxed W w.heap.size 55 v∧W.ownsRow w.heap.size 3 1 v pre.length (pre.map (Value.int .i64))∧(v=.slice none 0 0↔pre=[]))∧Below w.heap.size w W)
  (fun _ _ _=>False)
  (OwnFrom.and (Own.from (holdsRow_own w.heap.size w.heap.size 55 3 1 (fun pre=>pre.length) (fun pre=>pre.map (Value.int .i64)) (fun pre v=>v=.slice none 0 0↔pre=[])) _) (ownFrom_below (Nat.le_refl _) (by simp)))
  (fun _ _ _ _ _ hs _ _=>hs)
  ⟨⟨_,bO,World.ownsRow_nil _ _ _ _,by simp⟩,hB0⟩
  (fun x=>{ tmps:=#[.slice none 0 0,.func (.func 173) #[] #[.pointer (some ⟨Bs,Bo,none⟩)],.pointer (some ⟨w.heap.size,0,none⟩),undef,.slice none 0 0,.int .i64 x,.func (.func 173) #[] #[.pointer (some ⟨Bs,Bo,none⟩)],.int .i64 x,undef,undef,undef,undef,undef],defers:=[]}) ?assign ?body ?done ?stop
 case assign=>
  intro l x W K hK
  gi_wp2
  exact hK
 case body=>
  rintro l pre x W ⟨⟨v,hv,hrow,hnil⟩,hB⟩ hlt;have hc:=hv.cell
  gi_wp2_with (gi_at_builtin;refine wpListIn_append_own _ rfl _ _ 55 rfl w.heap.size 3 i0 (.int .i64 0) 1 8 Tryz.underlying55 hi hz0 hz1 hz2 rfl (by decide) _ _ _ rfl (hrow.alloc _) ⟨W.heap.size,0,none⟩ 1 1 [.int .i64 x] rfl rfl (cell_one_new _ _ _) (by simp[Value.oneCell']) (by omega) (by omega) (by have:=hB.size;simp;omega) ?_;intro v' w1 hown' hgrow _;obtain⟨g',cap',rfl⟩:=ownsRow_succ hown';obtain⟨hv1,hv2,hr2,hk2,hb2⟩:=hv.appended (by decide) hrow hB.size (Nat.le_refl _) hown' hgrow;have hc1:=hv1.cell;have hf1:=hv1.frozen)
  exact⟨hk2.from _,hb2,⟨_,hv2,by simpa using hr2,by simp⟩,hB.trans hb2⟩
 case done=>
  rintro D ys W hD rfl ⟨⟨v,hv,hrow,hnil⟩,hB⟩ hK;have hc:=hv.cell
  gi_wp2
  refine⟨by simp,.inl ⟨_,_,rfl,run_takeDeferred hK,?_⟩⟩;exact⟨_,results_tmp rfl _ _ _,v,rfl,ownsRow_putObj hrow _ hK rfl,hnil,hB.trans (belowK_b (w:=w) (Nat.le_refl _) W D _ _ (by simp at hD;omega) hK rfl rfl)⟩
 case stop=>
  rintro D c pre W _ _ h _;exact h.elim
theorem zrl (Bs Bo:Nat) (sv:Value) (xs:List Int) (hlen:xs.length≤maxLen) (hbytes:xs.length*8≤140737488351232) (w:World) (hBs:Bs<w.heap.size) (hc0:w.cell? ⟨Bs,Bo,none⟩=some sv) (hL:IntsM w.heap.size w sv xs) :
  Calls Tryz.prog 226 #[.slice none 0 0,.func (.func 173) #[] #[.pointer (some ⟨Bs,Bo,none⟩)]] w fun e W'=>∃v,e=.returned v∧W'.ownsRow w.heap.size 3 1 v xs.length (xs.map (Value.int .i64))∧(v=.slice none 0 0↔xs=[])∧Below w.heap.size w W':=
 callsIn_wide.1 (zjO Fence.wide 3 trivial trivial rfl (Nat.le_refl _) Bs Bo sv xs hlen hbytes w hBs hc0 hL)
end Go.Proofs
namespace Go.AI
open Go.Proofs
set_option maxRecDepth 20000
theorem zlr (O:List Heap) (l:List Int) (hl:l.length≤1000000):zan Tryz.prog 226 [.i (.v (.slice none 0 0)),.fn (.func 173) [] [.i (.ptr 1 [[zdJ l]] 0 0)]] O (.osl 0 207) [(207,zb5 l)] O:=by
 intro E K ρ w vs hw hrep;obtain⟨b,o,sv,rfl,hsv,hKb⟩:∃b o sv,vs=[.slice none 0 0,.func (.func 173) #[] #[.pointer (some ⟨b,o,none⟩)]]∧Rep K sv (zdJ l)∧K b o=some sv:=by
  cases hrep with
  |cons r1 rs=>
   cases rs with
   |cons r2 rs=>
    cases rs
    have e1:=zaS r1;subst e1
    cases r2 with
    |fn h1 h2=>
     cases h1
     cases h2 with
     |cons h3 h4=>
      cases h4
      cases h3 with
      |i h3=>
       cases h3 with
       |ptr p1 p2 p3=>
        rename_i b o cs
        cases p1 with
        |cons q1 q2=>
         cases q2
         exact⟨b,o,_,rfl,q1,by simpa using p3 0 _ rfl⟩
 obtain⟨ρ1,hρ1,hI⟩:=zdj hw;have hc0:=hw.holds _ _ _ hKb;have hlt:∀{b o:Nat} {x:Value},w.cell? ⟨b,o,none⟩=some x→b<w.heap.size:=by
  intro b o x h;rcases Nat.lt_or_ge b w.heap.size with h'|h'
  ·exact h'
  ·simp[World.cell?,Array.getElem?_eq_none h'] at h
 have hIn:IntsM w.heap.size w sv l:=by
  cases l with
  |nil=>
   cases hsv with
   |nil=>exact .inl ⟨_,_,rfl,rfl⟩
   |sl a1 a2 a3 a4 a5=>exact .inl ⟨_,_,rfl,rfl⟩
  |cons x r=>
   cases hsv with
   |sl a1 a2 a3 a4 a5=>
    have e:=zg5 a1;refine .inr ⟨_,_,_,rfl,hlt (hw.holds _ _ _ (a3 0 (.int .i64 x) (by rw[e];rfl))),fun j hj=>?_⟩;refine hw.holds _ _ _ (a3 j _ ?_);rw[e,List.getElem?_map,List.getElem?_eq_getElem hj];rfl
 refine .inl ⟨Tryz.call226 _ _,?_⟩;refine (zrl b o sv l (by simp only[maxLen];omega) (by omega) w (hlt hc0) hc0 hIn).mono ?_;rintro e w' ⟨v,rfl,hrow,_,hB⟩;obtain⟨lc,hv,hown,hbk⟩:∃lc:Loc,v=.slice lc.base l.length lc.cap∧OwnAt K (upd ρ1 207 lc) (shape (addS ([]::O) [(207,zb5 l)])) w' lc (zb5 l)∧(zaC lc (zb5 l)→w.heap.size≤lc.block):=by
  rcases hrow.2 with ⟨rfl,h0⟩|⟨g,cap,cur,rfl,hg,hgb,h1,h2,h3,h4⟩
  ·have hl0:l=[]:=List.eq_nil_of_length_eq_zero h0;subst hl0;exact⟨⟨0,0,none⟩,rfl,⟨by simp,rfl,Nat.le_refl _,Nat.zero_le _,.inl ⟨rfl,rfl⟩⟩,fun h=>absurd rfl h⟩
  ·refine⟨⟨g,cap,some ⟨g,0,none⟩⟩,rfl,⟨fun d hd=>by obtain⟨x,_,rfl⟩:=List.mem_map.1 hd;rfl,by simp,h1,h2,.inr ⟨rfl,cur,hgb,h3,?_,fun _ o=>hw.K_fresh hg,fun o _=>hw.K_fresh hg,fun h=>by cases h⟩⟩,fun _=>hg⟩;rw[h4];exact zhr l
 have hgrow:Grow K ρ1 ([]::O) w [(207,zb5 l)] K (upd ρ1 207 lc) w':=by
  refine⟨K.le_refl,fun _ _ _ h=>.inl h,hB.size,fun k hk=>hB.block k hk,⟨hB.tape,hB.os,hB.output⟩,?_,?_,?_,?_⟩
  ·intro dep nm h;refine zaL _ _ _ ?_;rcases h with h|h
   ·exact .inl h
   ·refine .inr fun e=>?_;subst e;simp[zac] at h
  ·intro b o x h;have h1:=hw.holds _ _ _ h;rw[World.cell?,hB.block _ (hlt h1)];exact h1
  ·intro nm ob h;rw[zac] at h
   split at h
   ·rename_i e;subst e
    cases h
    rw[zaP];exact⟨hown,hbk⟩
   ·simp[look] at h
  ·intro nm ob nm' ob' h h' _ _ _;rw[zac] at h h'
   split at h
   ·split at h'
    ·rename_i e1 e2;rw[←e1,←e2]
    ·simp[look] at h'
   ·simp[look] at h
 obtain⟨hI2,hst⟩:=HInv.grow (S:=[]::O) rfl hI (fun _ _ _ e=>e) (fun _ h=>by simp[look]) hgrow;refine⟨_,rfl,K,upd ρ1 207 lc,hI2,?_⟩;rw[hv];have:=RepD.osl (K:=K) (ρ:=upd ρ1 207 lc) (sh:=shape ([(207,zb5 l)]::O)) (dep:=0) (nm:=207) (es:=1) (len:=l.length) (by simp[shape,zab,zac,Ob.sh]);rwa [zaP] at this
theorem zrc (O:List Heap) (l:List Int) (hl:l.length≤1000000):zan Tryz.prog 171 [.fn (.func 173) [] [.i (.ptr 1 [[zdJ l]] 0 0)]] O (.osl 0 207) [(207,zb5 l)] O:=by
 have h:=fun O=>zlr O l hl;refine zaa Tk Tryz.func171 rfl Tryz.call171 Tryz.ntmps171 (Nat.le_of_ble_eq_true rfl) fun E=>?_;refine zai Tk Tryz.func171 ?_;refine zak Tk Tryz.func171 (h _) rfl rfl rfl rfl rfl ?_;exact⟨zaH (hT:=Tk) (r:=.osl 0 207) rfl rfl rfl ⟨⟨_,rfl,rfl⟩,trivial⟩ (zg0 _ _ _) rfl rfl⟩
theorem zsk (O:List Heap) (l:List Int) (hl:l.length≤1000000):zan Tryz.prog 132 [.fn (.func 173) [] [.i (.ptr 1 [[zdJ l]] 0 0)]] O (ints (zds l)) [] O:=by
 have h:=fun O=>zrc O l hl;refine zaN [2] Tk Tryz.func132 rfl Tryz.call132 Tryz.ntmps132 (Nat.le_of_ble_eq_true rfl) fun E=>?_;refine zai Tk Tryz.func132 ?_;refine zak Tk Tryz.func132 (h _) rfl rfl rfl rfl rfl ?_;refine zaB ?_
 by_cases h0:l=[]
 ·subst h0;have h2:=fun O=>zxH O;refine zas (zao 207 rfl rfl) ?_;refine zai Tk Tryz.func132 ?_;refine g_go Tk Tryz.func132 ?_;refine zak Tk Tryz.func132 (h2 _) rfl rfl rfl rfl rfl ?_;refine zaj Tk (r:=ints []) rfl rfl rfl trivial rfl rfl ?_;rw[show zds []=[] from List.eq_nil_of_length_eq_zero (by rw[zgT];rfl)]
 ·have h2:=fun O d ho=>zy8 O d 207 l (List.length_pos_iff.2 h0) (by omega) ho;refine zai Tk Tryz.func132 ?_;refine g_go Tk Tryz.func132 ?_;refine zak Tk Tryz.func132 (h2 _ 0 rfl) rfl rfl rfl (zbe (ob:=zb5 l) rfl (by simp[Ob.sh,zgT])) rfl ?_;refine za3 (zao 207 rfl rfl) ?_;refine zaj Tk (r:=ints (zds l)) rfl rfl rfl trivial rfl rfl ?_;rfl
theorem zvH {K:Kn} {v:Value} {es n:Nat} {xs:List (List I)} (h:Rep K v (.sl es n xs)):∃a len cap,v=.slice a len cap:=by
 cases h with
 |nil=>exact⟨_,_,_,rfl⟩
 |sl=>exact⟨_,_,_,rfl⟩
theorem zr3 (O:List Heap) (l:List Int):zan Tryz.prog 133 [ints l] O (.fn (.func 173) [] [.i (.ptr 1 [[zdJ l]] 0 0)]) [] O:=by
 intro E K ρ w vs hw hrep;obtain⟨sv,rfl,hsv⟩:∃sv,vs=[sv]∧Rep K sv (zdJ l):=by
  cases hrep with
  |cons r rs=>
   cases rs
   cases r with
   |i r=>exact⟨_,rfl,r⟩
 obtain⟨a,len,cap,rfl⟩:∃a len cap,sv=.slice a len cap:=zvH hsv;refine .inl ⟨Tryz.call133 _ _,(zxv a len cap w).mono ?_⟩;rintro e w' ⟨rfl,rfl⟩;obtain⟨ρ1,hρ1,hI⟩:=zdj hw;obtain⟨K',hg,hr⟩:=zkR hI (cs:=#[.slice a len cap]) (es:=1) (n:=1) (xs:=[[zdJ l]]) (ty:=55) (by simp) rfl (.cons hsv .nil);obtain⟨hI2,hst⟩:=HInv.grow (S:=[]::O) rfl hI (fun _ _ _ e=>e) (fun _ h=>by simp[look] at h) hg;refine⟨_,rfl,K',ρ1,hI2,.fn (first:=[]) .nil (.cons (.i ?_) .nil)⟩
 cases hr with
 |sl a1 a2 a3 a4 a5=>
  have:=Rep.ptr (i:=0) (off:=0) a1 a2 a3;simpa using this
theorem zr1 {c:Cx} {s:St} (t k:Nat) (h:look s.σ t=some (.i (.v (.func (.func k) #[] #[])))):Wk c s {σ:=(t,.fn (.func k) [] [])::s.σ,S:=s.S,n:=s.n}:=by
 have h2:s.get t=.i (.v (.func (.func k) #[] #[])):=by unfold St.get;rw[h]
 exact zzU t (s:=s) (c:=c) (d:=.fn (.func k) [] []) (by rw[h2];exact zyS)
theorem zbD {α:Type} {nm:α→ByteArray} {err:α→Int}:∀{l:List α} {b:List ByteArray} {i j:Nat} {e:Int},za6 nm err b l i=some (j,e)→e≠0
 |[],_,_,_,_,h=>by simp[za6] at h
 |x::r,b,i,j,e,h=>by
  simp only[za6] at h
  by_cases h1:nmE b (nm x)≠0
  ·rw[if_pos h1] at h;simp only[Option.some.injEq,Prod.mk.injEq] at h;rw[←h.2];exact h1
  ·rw[if_neg h1] at h
   by_cases h2:err x≠0
   ·rw[if_pos h2] at h;simp only[Option.some.injEq,Prod.mk.injEq] at h;rw[←h.2];exact h2
   ·rw[if_neg h2] at h;exact zbD h
theorem zc1 {α:Type} {nm:α→ByteArray} {err:α→Int}:∀{l:List α} {b:List ByteArray} {i:Nat},za6 nm err b l i=none→∀x∈l,err x=0
 |[],_,_,_,x,hx=>by simp at hx
 |y::r,b,i,h,x,hx=>by
  simp only[za6] at h
  by_cases h1:nmE b (nm y)≠0
  ·rw[if_pos h1] at h;cases h
  ·rw[if_neg h1] at h
   by_cases h2:err y≠0
   ·rw[if_pos h2] at h;cases h
   ·rw[if_neg h2] at h;rcases List.mem_cons.1 hx with rfl|hx
    ·exact Classical.byContradiction h2
    ·exact zc1 h x hx
theorem zsE {k:Int} {o:Option (Nat×Int)} (h:∀j e,o=some (j,e)→e≠0) (z:Plc×Int):plc k o z id=if (plc k o ((0,0),0) id:Plc×Int).2≠0 then plc k o ((0,0),0) id else z:=by
 cases o with
 |none=>rfl
 |some x=>
  obtain⟨j,e⟩:=x;have:=h j e rfl;rw[if_pos (show (plc k (some (j,e)) ((0,0),0) id:Plc×Int).2≠0 from this)];rfl
theorem zlV (m:Mdl):mdlE m=if zaT m.name=false then ((0,0),7) else plc 1 (evsP [] m.evs 0) (if (chkT m).2≠0 then chkT m else if (chkI m).2≠0 then chkI m else chkC m) id:=by
 unfold mdlE;congr 1;congr 1;unfold chkT
 by_cases h1:m.tpls.length>16
 ·rw[if_pos h1,if_pos h1];rfl
 rw[if_neg h1,if_neg h1,zsE (fun _ _ h=>zbD h)];congr 1;unfold chkI
 by_cases h2:m.comps.length=0
 ·rw[if_pos h2,if_pos h2];rfl
 rw[if_neg h2,if_neg h2]
 by_cases h3:m.comps.length>8
 ·rw[if_pos h3,if_pos h3];rfl
 rw[if_neg h3,if_neg h3]
 by_cases h4:m.comps.length+m.reqs.length>12
 ·rw[if_pos h4,if_pos h4];rfl
 rw[if_neg h4,if_neg h4];have e:(if m.excs.length>32 then (((5,32),3):Plc×Int) else plc 5 (za6 NEx.name (excE m) [] m.excs 0) (if m.cons.length>32 then ((6,32),3) else plc 6 (za6 NCn.name (conE m) [] m.cons 0) ((0,0),0) id) id)=chkC m:=rfl;rw[e];generalize hq:za6 Ins.name (insE m) [] m.comps 0=o3;generalize hr:za6 Ins.name (reqE m) (m.comps.map (·.name)) m.reqs 0=o4
 cases o3 with
 |some x=>
  obtain⟨j,e⟩:=x;have:=zbD hq;rw[if_pos (show (plc 3 (some (j,e)) (plc 4 o4 ((0,0),0) id) id:Plc×Int).2≠0 from this)];rfl
 |none=>
  have e3:∀z:Plc×Int,plc 3 none z id=z:=fun z=>rfl;simp only[e3];exact zsE (fun _ _ h=>zbD (hr.trans h)) _
theorem zjL {m:Mdl} (h:(chkI m).2=0):∀c∈m.comps,insE m c=0:=by
 unfold chkI at h
 by_cases h2:m.comps.length=0
 ·rw[if_pos h2] at h;simp at h
 rw[if_neg h2] at h
 by_cases h3:m.comps.length>8
 ·rw[if_pos h3] at h;simp at h
 rw[if_neg h3] at h
 by_cases h4:m.comps.length+m.reqs.length>12
 ·rw[if_pos h4] at h;simp at h
 rw[if_neg h4] at h;generalize hq:za6 Ins.name (insE m) [] m.comps 0=o3 at h
 cases o3 with
 |some x=>
  obtain⟨j,e⟩:=x;exact absurd h (zbD hq)
 |none=>exact zc1 hq
theorem zgz {m:Mdl} {x:Ins} (h:insE m x=0):∃t,zbL m x=some t∧t∈m.tpls∧x.evs.length=t.evs.length∧zdi m [] x.evs=0:=by
 unfold insE at h;unfold zbL
 cases ht:m.tpls.find? (fun t=>sB t.name x.tpl) with
 |none=>rw[ht] at h;cases h
 |some t=>
  rw[ht] at h;simp only at h
  by_cases h1:x.evs.length≠t.evs.length
  ·rw[if_pos h1] at h;cases h
  ·rw[if_neg h1] at h;exact⟨t,rfl,List.mem_of_find?_eq_some ht,Classical.byContradiction h1,h⟩
theorem zez {k:Int} {o:Option (Nat×Int)} (h:∀j e,o=some (j,e)→e≠0) {z:Plc×Int} (h2:(plc k o z id:Plc×Int).2=0):o=none∧(plc k o z id:Plc×Int)=z:=by
 cases o with
 |none=>exact⟨rfl,rfl⟩
 |some x=>obtain⟨j,e⟩:=x;exact absurd h2 (h j e rfl)
theorem zuf {m:Mdl} (h:(chkC m).2=0):chkC m=((0,0),0):=by
 unfold chkC at h ⊢
 by_cases h2:m.excs.length>32
 ·rw[if_pos h2] at h;simp at h
 rw[if_neg h2] at h ⊢;obtain⟨h4,h5⟩:=zez (fun _ _ h=>zbD h) h;rw[h5] at h ⊢
 by_cases h3:m.cons.length>32
 ·rw[if_pos h3] at h;simp at h
 rw[if_neg h3] at h ⊢;exact (zez (fun _ _ h=>zbD h) h).2
abbrev fns3:D:=.i (.sl 1 3 [[.v (.func (.func 47) #[] #[])],[.v (.func (.func 48) #[] #[])],[.v (.func (.func 49) #[] #[])]])
theorem zvd (O:List Heap) (m:Mdl) (hm:mdlOk m):zan Tryz.prog 14 [mdlD m] O (plcD (mdlE m)) [] O:=by
 have h0:=fun O=>zdy O m.name hm.nm;have h47:=fun O=>zgr O m hm;have h48:=fun O=>zgt O m hm;have h49:(chkI m).2=0→∀O,zan Tryz.prog 49 [mdlD m] O (plcD (chkC m)) [] O:=fun h O=>zf9 O m hm fun c hc=>by
  obtain⟨t,h1,h2,_⟩:=zgz (zjL h c hc);exact⟨t,h1,(hm.tpk t h2).ll⟩
 have hC0:=fun h=>zuf (m:=m) h;have hev:=hm.ev;have hen:=hm.evn;rw[zlV];generalize chkT m=cT at *;generalize chkI m=cI at *;generalize chkC m=cC at *;generalize hV:(if cT.2≠0 then cT else if cI.2≠0 then cI else cC)=V;obtain⟨nm,l,tpls,comps,reqs,excs,cons⟩:=m;simp only at h0 hev hen ⊢;generalize zaT nm=nb at *;generalize hR:evsP [] l 0=R;refine zaN [13] Tk Tryz.func14 rfl Tryz.call14 Tryz.ntmps14 (Nat.le_of_ble_eq_true rfl) fun E=>?_;refine zai Tk Tryz.func14 ?_;refine zak Tk Tryz.func14 (h0 _) rfl rfl rfl rfl rfl ?_;refine zaf Tk Tryz.func14 rfl (fun c1=>?_) (fun c1=>?_)
 ·have c1:nb=false:=by simpa using c1
  rw[if_pos c1];refine zaj Tk (r:=plcD ((0,0),7)) rfl rfl rfl trivial rfl rfl ?_;rfl
 have c1:¬nb=false:=by simpa using c1
 rw[if_neg c1];refine zad ?_;refine zag (fun i:Nat=>[(1,.own 0 1 0 0),(2,.own 0 2 0 0),(16,.i (za1 l)),(17,ii l.length),(18,ii i)]) (fun i=>[(1,.box (mdlC ⟨nm,l,tpls,comps,reqs,excs,cons⟩)),(2,plcN)]) (fun _=>O) 51
  (fun i=>i≤l.length∧evsP (l.take i) (l.drop i) i=R) (fun i=>l.length-i) 0 ⟨Nat.zero_le _,hR⟩ ⟨rfl,rfl,rfl,rfl,rfl,trivial⟩ rfl ⟨rfl,rfl,trivial⟩ rfl rfl ?_
 clear hR;rintro i ⟨hi,hno⟩ ih;refine zai Tk Tryz.func14 ?_;refine zaf Tk Tryz.func14 rfl (fun g1=>?_) (fun g1=>?_)
 ·have g1:i<l.length:=by simpa using g1
  have hw:IntKind.i64.wrap ((i:Int)+1)=((i+1:Nat):Int):=zav (n:=1000001) (by omega) (by decide);have ht:l.take (i+1)=l.take i++[l[i]]:=List.take_succ_eq_append_getElem g1;have hA:∀O,zan Tryz.prog 46 [.i (.sl 5 (IntKind.i64.wrap ((i:Int)+1)).toNat ((l.map evtI).take (IntKind.i64.wrap ((i:Int)+1)).toNat))] O (ii (zjP (l.take (i+1)))) [] O:=fun O=>by
   rw[hw,Int.toNat_natCast,←zdO evtI 5 g1];exact zus O (l.take (i+1)) (by rw[List.length_take];omega) fun x hx=>hen x (List.mem_of_mem_take hx)
  rw[List.drop_eq_getElem_cons g1] at hno;simp only[evsP,←ht] at hno;generalize zjP (l.take (i+1))=e1 at *;refine zah Tk Tryz.func14 (by exact⟨by rw[hw];omega,by rw[hw];show ((i+1:Nat):Int)≤(l.length:Int);omega⟩) ?_;refine zak Tk Tryz.func14 (hA _) rfl rfl rfl rfl rfl ?_;refine zaf Tk Tryz.func14 rfl (fun c2=>?_) (fun c2=>?_)
  ·have c2:e1≠0:=bneT c2;rw[if_pos c2] at hno;subst hno;refine zaj Tk (r:=plcD ((1,i),e1)) rfl rfl rfl trivial rfl rfl ?_;rfl
  have c2:¬e1≠0:=fun h=>h (bneF c2);rw[if_neg c2] at hno;refine zad ?_;exact ih (i+1) _ _ ⟨g1,hno⟩ (by omega) ⟨rfl,rfl,rfl,rfl,congrArg ii hw,trivial⟩ rfl ⟨rfl,rfl,trivial⟩ rfl rfl
 have g1:l.length≤i:=by simpa using g1
 rw[List.drop_eq_nil_of_le g1] at hno;have hno:none=R:=hno;subst hno;have e0:plc 1 none V id=V:=rfl;rw[e0];clear e0 ih;obtain⟨⟨t1,t2⟩,t3⟩:=cT;obtain⟨⟨i1,i2⟩,i3⟩:=cI;obtain⟨⟨k1,k2⟩,k3⟩:=cC;simp only at h47 h48 h49 hV hC0;refine zad ?_;refine zai Tk Tryz.func14 ?_;refine gcT Tk Tryz.func14 rfl ?_;refine zah Tk Tryz.func14 (by decide) ?_;refine zaq Tk Tryz.func14 (rfl) ?_;refine zaB ?_;refine zas (zr1 7 47 rfl) ?_;refine zai Tk Tryz.func14 ?_;refine g_go Tk Tryz.func14 ?_;refine zak Tk Tryz.func14 (h47 _) rfl rfl rfl rfl rfl ?_;refine zaf Tk Tryz.func14 rfl (fun c3=>?_) (fun c3=>?_)
 ·have c3:t3≠0:=bneT c3;rw[if_pos c3] at hV;subst hV;refine zaj Tk (r:=plcD ((t1,t2),t3)) rfl rfl rfl trivial rfl rfl ?_;rfl
 have c3:¬t3≠0:=fun h=>h (bneF c3);rw[if_neg c3] at hV;refine zad ?_;refine zas (zc9 (l:=[(1,.own 0 1 0 0),(2,.own 0 2 0 0),(33,fns3),(34,ii 3),(35,ii 1)]) (Hv:=[(1,.box (mdlC ⟨nm,l,tpls,comps,reqs,excs,cons⟩)),(2,plcN)]) ⟨rfl,rfl,rfl,rfl,rfl,trivial⟩ rfl ⟨rfl,rfl,trivial⟩ rfl rfl) ?_;refine zai Tk Tryz.func14 ?_;refine gcT Tk Tryz.func14 rfl ?_;refine zah Tk Tryz.func14 (by decide) ?_;refine zaq Tk Tryz.func14 (rfl) ?_;refine zaB ?_;refine zas (zr1 7 48 rfl) ?_;refine zai Tk Tryz.func14 ?_;refine g_go Tk Tryz.func14 ?_;refine zak Tk Tryz.func14 (h48 _) rfl rfl rfl rfl rfl ?_;refine zaf Tk Tryz.func14 rfl (fun c4=>?_) (fun c4=>?_)
 ·have c4:i3≠0:=bneT c4;rw[if_pos c4] at hV;subst hV;refine zaj Tk (r:=plcD ((i1,i2),i3)) rfl rfl rfl trivial rfl rfl ?_;rfl
 have c4:i3=0:=bneF c4;rw[if_neg (fun h=>h c4)] at hV;subst hV;refine zad ?_;refine zas (zc9 (l:=[(1,.own 0 1 0 0),(2,.own 0 2 0 0),(33,fns3),(34,ii 3),(35,ii 2)]) (Hv:=[(1,.box (mdlC ⟨nm,l,tpls,comps,reqs,excs,cons⟩)),(2,plcN)]) ⟨rfl,rfl,rfl,rfl,rfl,trivial⟩ rfl ⟨rfl,rfl,trivial⟩ rfl rfl) ?_;refine zai Tk Tryz.func14 ?_;refine gcT Tk Tryz.func14 rfl ?_;refine zah Tk Tryz.func14 (by decide) ?_;refine zaq Tk Tryz.func14 (rfl) ?_;refine zaB ?_;refine zas (zr1 7 49 rfl) ?_;refine zai Tk Tryz.func14 ?_;refine g_go Tk Tryz.func14 ?_;refine zak Tk Tryz.func14 (h49 c4 _) rfl rfl rfl rfl rfl ?_;refine zaf Tk Tryz.func14 rfl (fun c5=>?_) (fun c5=>?_)
 ·refine zaj Tk (r:=plcD ((k1,k2),k3)) rfl rfl rfl trivial rfl rfl ?_;rfl
 have c5:k3=0:=bneF c5;refine zad ?_;refine zas (zc9 (l:=[(1,.own 0 1 0 0),(2,.own 0 2 0 0),(33,fns3),(34,ii 3),(35,ii 3)]) (Hv:=[(1,.box (mdlC ⟨nm,l,tpls,comps,reqs,excs,cons⟩)),(2,plcN)]) ⟨rfl,rfl,rfl,rfl,rfl,trivial⟩ rfl ⟨rfl,rfl,trivial⟩ rfl rfl) ?_;refine zai Tk Tryz.func14 ?_;refine gcF Tk Tryz.func14 rfl ?_;obtain⟨⟨rfl,rfl⟩,rfl⟩:(k1=0∧k2=0)∧k3=0:=by simpa using hC0 c5
 refine zaj Tk (r:=plcD ((0,0),0)) rfl rfl rfl trivial rfl rfl ?_;rfl
theorem zj1 {x:Ex} {n k:Int} (h:zbn x n k=0):wfE n x:=by
 unfold zbn at h
 by_cases h1:(zcc x n).2=0∧(zcc x n).1≠k
 ·rw[if_pos h1] at h;cases h
 ·rw[if_neg h1] at h;exact zgA x n 1 0 (zll h).1
theorem zgO {n:Int}:∀{l:List Upd} {p:Int},p<n→zcT n (some p) l=0→(l.length:Int)≤n-1-p∧∀u∈l,zbn u.x n 1=0
 |[],p,hp,_=>⟨by simp;omega,by simp⟩
 |u::r,p,hp,h=>by
  simp only[zcT] at h
  by_cases h1:u.v<0∨u.v≥n
  ·rw[if_pos h1] at h;cases h
  rw[if_neg h1] at h
  by_cases h2:(some p).any (fun x=>decide (u.v≤x))=true
  ·rw[if_pos h2] at h;cases h
  rw[if_neg h2] at h
  by_cases h3:zbn u.x n 1≠0
  ·rw[if_pos h3] at h;exact absurd h h3
  rw[if_neg h3] at h;have h2:¬u.v≤p:=by simpa using h2
  obtain⟨h4,h5⟩:=zgO (by omega) h;refine⟨by rw[List.length_cons];omega,fun x hx=>?_⟩;rcases List.mem_cons.1 hx with rfl|hx
  ·exact Classical.byContradiction h3
  ·exact h5 x hx
theorem zqc {n:Int} (hn:0≤n) {l:List Upd} (h:zcT n none l=0):(l.length:Int)≤n∧∀u∈l,zbn u.x n 1=0:=by
 cases l with
 |nil=>exact⟨by simpa using hn,by simp⟩
 |cons u r=>
  simp only[zcT] at h
  by_cases h1:u.v<0∨u.v≥n
  ·rw[if_pos h1] at h;cases h
  rw[if_neg h1] at h;rw[if_neg (by simp)] at h
  by_cases h3:zbn u.x n 1≠0
  ·rw[if_pos h3] at h;exact absurd h h3
  rw[if_neg h3] at h;obtain⟨h4,h5⟩:=zgO (by omega) h;refine⟨by rw[List.length_cons];omega,fun x hx=>?_⟩;rcases List.mem_cons.1 hx with rfl|hx
  ·exact Classical.byContradiction h3
  ·exact h5 x hx
abbrev zsI (l:List Upd):Ob:=.arr 189 5 l.length (l.map updI) true
abbrev zhQ:List D:=[.i (.v (.slice none 0 0)),ii 0,ii 0,.i (.v (.slice none 0 0)),.i (.v (.slice none 0 0)),.i (.v (.slice none 0 0))]
structure mchOk (m:Mdl) (x:Ins) (t:Tpl):Prop where
 tp:zbL m x=some t
 mem:t∈m.tpls
 right:extRight t.mach
 len:x.evs.length=t.evs.length
 alpha:t.mach.alpha=(List.range t.evs.length).map (fun k=>((k:Nat):Int))
 mvl:t.mach.moves.length≤19
abbrev evI (m:Mdl) (x:Ins):List Int:=x.evs.map fun s=>fndI (m.evs.map (·.name)) s
def mvEv (evs:List Int) (y:Mv):Mv:={ y with ev:=evs.getD y.ev.toNat 0}
theorem zkw (O:List Heap) (m:Mdl) (x:Ins) (t:Tpl) (hm:mdlOk m) (hx:x.evs.length≤1000000) (h:mchOk m x t):zan Tryz.prog 55 [mdlD m,insD x] O (extD (mchE m x t)) [] O:=by
 have hf:=fun O=>zeB O m 2 x.tpl hm.toszOk;rw[show namK m 2=m.tpls.map (·.name) from rfl] at hf;have hf1:=fun O s=>zeB O m 1 s hm.toszOk;rw[show namK m 1=m.evs.map (·.name) from rfl] at hf1;have htp:=h.tp;unfold zbL at htp;rcases zdG Tpl.name m.tpls x.tpl with ⟨h1,_⟩|⟨k,t',h1,h2,h3⟩
 ·rw[h1] at htp;cases htp
 rw[h2] at htp
 cases htp
 rw[h3,zfs] at hf;clear h2 h3;have hkl:k<m.tpls.length:=(List.getElem?_eq_some_iff.1 h1).1;have gt:(m.tpls.map tplI)[(k:Int).toNat]? = some (tplI t):=by rw[Int.toNat_natCast,List.getElem?_map,h1];rfl
 clear h1;have hok:=(hm.tpk t h.mem).mo;have hr:=h.right;have hvl:t.mach.vars.length≤16:=by
  have:=hr.vars;unfold zby at this
  by_cases hc:t.mach.vars.length>16
  ·rw[if_pos hc] at this;cases this
  ·omega
 have hmk:t.mach.marked.length≤1000:=by
  have:=zfD (n:=t.mach.locs) (by have:=hr.locs;omega) hr.marked;have:=hr.locs;omega
 have hmvl:=h.mvl;have hevb:∀y∈t.mach.moves,0≤y.ev∧y.ev<(x.evs.length:Int):=by
  intro y hy;have:=(hr.mv y hy).ev;rw[h.alpha] at this;simp only[List.mem_map,List.mem_range] at this;obtain⟨j,hj,e⟩:=this;rw[h.len];omega
 have hcl:∀y∈t.mach.moves,(∀O,zan Tryz.prog 134 [exA y.g] O (exA y.g) [] O)∧y.us.length≤1000∧∀u∈y.us,∀O,zan Tryz.prog 134 [exA u.x] O (exA u.x) [] O:=by
  intro y hy;have hy:=hr.mv y hy;obtain⟨h4,h5⟩:=zqc (by omega) hy.us;exact⟨fun O=>zlg _ y.g (Nat.lt_succ_self _) (zj1 hy.g) O,by omega,fun u hu O=>zlg _ u.x (Nat.lt_succ_self _) (zj1 (h5 u hu)) O⟩
 have h86:=fun O=>zoP O t.mach.marked (by simp only[big];omega);have h131:=fun O=>zwK O t.mach.vars (by omega);have h135:=fun O d nm l hl ho=>zxJ O d nm l hl ho;clear hok hr h;have hxe:∀s,fndI (m.evs.map (·.name)) s=fnd0 (nmIx (m.evs.map (·.name)) s):=fun s=>rfl;generalize hR:mchE m x t=R;unfold mchE at hR;simp only[zxG] at hR;change (⟨zds (evI m x),t.mach.locs,t.mach.init,t.mach.marked,t.mach.vars,zdH (t.mach.moves.map (mvEv (evI m x)))⟩:Ext)=R at hR;obtain⟨tn,tl,te,⟨al,lo,ini,mk,vr,mo⟩⟩:=t;simp only at gt hvl hmk hmvl hevb hcl h86 h131 hR;refine zaN [200062,21] Tk Tryz.func55 rfl Tryz.call55 Tryz.ntmps55 (Nat.le_of_ble_eq_true rfl) fun E=>?_;refine zai Tk Tryz.func55 ?_;refine zak Tk Tryz.func55 (hf _) rfl rfl rfl rfl rfl ?_;refine zah Tk Tryz.func55 (by exact⟨by omega,by show (k:Int)<(m.tpls.length:Int);omega⟩) ?_;refine zaq Tk Tryz.func55 (gt) ?_
 refine zat Tk Tryz.func55 zax rfl ?_;refine zaF Tk (fun _=>h86 _) rfl rfl rfl ?_;refine zaF Tk (fun _=>h131 _) rfl rfl rfl ?_;refine zcv Tk rfl rfl rfl ?_;refine zaA Tk Tryz.func55 (by kernel_rfl) ?_;refine g_wk (zbk 9 59 3 1 rfl rfl rfl) ?_;refine zad ?_;refine zag (fun i:Nat=>[(2,.own 0 2 0 0),(4,.own 0 4 0 0),(7,.own 0 7 0 0),(8,.own 0 8 0 0),(9,.osl 0 59),(44,ssD x.evs),(45,ii x.evs.length),(46,ii i)])
  (fun i=>[(2,.box (mdlC m)),(4,.box zhQ),(7,.box (extC ⟨al,lo,ini,mk,vr,mo⟩)),(8,.box [.i (.v (.slice none 0 0)),ii lo,ii ini,ints mk,vrs vr,.i (.v (.slice none 0 0))]),(59,zb5 ((evI m x).take i))]) (fun _=>O) 115
  (fun i=>i≤x.evs.length) (fun i=>x.evs.length-i) 0 (Nat.zero_le _) ⟨rfl,rfl,rfl,rfl,rfl,rfl,rfl,rfl,trivial⟩ rfl ⟨rfl,rfl,rfl,rfl,rfl,trivial⟩ rfl rfl ?_
 intro i hi ih;have hi:i≤x.evs.length:=hi;have hel:(evI m x).length=x.evs.length:=by simp[evI]
 refine zai Tk Tryz.func55 ?_;refine zaf Tk Tryz.func55 rfl (fun g1=>?_) (fun g1=>?_)
 ·have g1:i<x.evs.length:=by simpa using g1
  have gs:(x.evs.map fun s=>[strI s])[(i:Int).toNat]? = some [strI x.evs[i]]:=zal (f:=fun s=>[strI s]) g1;have ht:(evI m x).take (i+1)=(evI m x).take i++[fnd0 (nmIx (m.evs.map (·.name)) x.evs[i])]:=by
   rw[List.take_succ_eq_append_getElem (by rw[hel];exact g1)];simp[evI,hxe]
  have hl:((evI m x).take i).length=i:=by rw[List.length_take,hel];omega
  have hf2:=fun O=>hf1 O x.evs[i];generalize (evI m x).take i=L at *;generalize nmIx (m.evs.map (·.name)) x.evs[i]=q at *;generalize x.evs[i]=s at *;refine zah Tk Tryz.func55 (by exact⟨by omega,by show (i:Int)<(x.evs.length:Int);omega⟩) ?_;refine zaq Tk Tryz.func55 (gs) ?_;refine zak Tk Tryz.func55 (hf2 _) rfl rfl rfl rfl rfl ?_;refine zah Tk Tryz.func55 (by exact⟨by show (L.length+1)*8≤140737488355328;omega,by show L.length+1≤9223372036854775807;omega⟩) ?_;refine zad ?_;refine ih (i+1) _ _ g1 (by omega) ⟨rfl,rfl,rfl,rfl,rfl,rfl,rfl,congrArg ii (zav (n:=1000001) (by omega) (by decide)),trivial⟩ rfl ⟨rfl,rfl,rfl,rfl,?_,trivial⟩ rfl rfl;rw[ht];exact congrArg some (zcs L _)
 have g1:x.evs.length≤i:=by simpa using g1
 rw[List.take_of_length_le (by rw[hel];exact g1)];clear ih g1 hi;rw[←hel] at hevb hx;generalize evI m x=evs at *;have h133:=fun O=>zr3 O evs;have h132:=fun O=>zsk O evs hx;generalize zds evs=sal at *;refine ztA Tk Tryz.func55 rfl rfl (zao 59 rfl rfl) ?_;refine zak Tk Tryz.func55 (h133 _) rfl rfl rfl rfl rfl ?_;refine zak Tk Tryz.func55 (h132 _) rfl rfl rfl rfl rfl ?_;refine g_wk (zaE 8 108 187 8 (pre:=[ints sal,ii lo,ii ini,ints mk,vrs vr]) (post:=[]) rfl rfl rfl) ?_;refine zad ?_;refine zag (fun i:Nat=>[(4,.own 0 4 0 0),(8,.own 0 8 0 0),(9,ints evs),(66,mvs mo),(67,ii mo.length),(68,ii i)])
  (fun i=>[(4,.box zhQ),(8,.box [ints sal,ii lo,ii ini,ints mk,vrs vr,.osl 0 108]),(108,zcr ((mo.take i).map (mvEv evs)))]) (fun _=>O) 115
  (fun i=>i≤mo.length) (fun i=>mo.length-i) 0 (Nat.zero_le _) ⟨rfl,rfl,rfl,rfl,rfl,rfl,trivial⟩ rfl ⟨rfl,rfl,rfl,trivial⟩ rfl rfl ?_
 intro i hi ih;have hi:i≤mo.length:=hi;refine zai Tk Tryz.func55 ?_;refine zaf Tk Tryz.func55 rfl (fun g1=>?_) (fun g1=>?_)
 ·have g1:i<mo.length:=by simpa using g1
  have gs:(mo.map mvI)[(i:Int).toNat]? = some (mvI mo[i]):=zal (f:=mvI) g1;have ht:=zaI (mvEv evs) g1;have hl:((mo.take i).map (mvEv evs)).length=i:=by rw[List.length_map,List.length_take];omega
  have he:=hevb mo[i] (List.getElem_mem g1);obtain⟨hcg,hul,hcu⟩:=hcl mo[i] (List.getElem_mem g1);have hj1:ii (IntKind.i64.wrap ((i:Int)+1))=ii ((i+1:Nat):Int):=congrArg ii (zav (n:=1000001) (by omega) (by decide));clear hevb hcl;generalize (mo.take i).map (mvEv evs)=L at *;generalize mo[i]=y at *;obtain⟨yf,ye,yt,yg,us⟩:=y;simp only at he hcg hul hcu;have hy:mvEv evs ⟨yf,ye,yt,yg,us⟩=⟨yf,evs.getD ye.toNat 0,yt,yg,us⟩:=rfl;rw[hy] at ht;clear hy;have ge:(evs.map fun x=>[vi x])[ye.toNat]? = some [vi (evs.getD ye.toNat 0)]:=by
   rw[List.getElem?_map,List.getD_eq_getElem?_getD,List.getElem?_eq_getElem (by omega)];rfl
  generalize evs.getD ye.toNat 0=ev' at *;obtain⟨go,gv,gi,ga⟩:=yg;refine zah Tk Tryz.func55 (by exact⟨by omega,by show (i:Int)<(mo.length:Int);omega⟩) ?_;refine zaq Tk Tryz.func55 (gs) ?_;refine zat Tk Tryz.func55 zax rfl ?_;refine zar Tk (by exact⟨he.1,by show ye<(evs.length:Int);exact he.2⟩) ?_;refine zay Tk (ge) ?_;refine zaF Tk (fun _=>hcg _) rfl rfl rfl ?_;refine zcv Tk rfl rfl rfl ?_;refine zaA Tk Tryz.func55 (by kernel_rfl) ?_;refine g_wk (zaE 16 101 189 5 (pre:=[ii yf,ii ev',ii yt,ii go,ii gv,ii gi,exs ga]) (post:=[]) rfl rfl rfl) ?_;refine zad ?_;refine zag (fun j:Nat=>[(4,.own 0 4 0 0),(8,.own 0 8 0 0),(9,ints evs),(16,.own 0 16 0 0),(66,mvs mo),(67,ii mo.length),(68,ii i),(86,upds us),(87,ii us.length),(88,ii j)])
   (fun j=>[(4,.box zhQ),(8,.box [ints sal,ii lo,ii ini,ints mk,vrs vr,.osl 0 108]),(108,zcr L),(16,.box [ii yf,ii ev',ii yt,ii go,ii gv,ii gi,exs ga,.osl 0 101]),(101,zsI (us.take j))]) (fun _=>O) 115
   (fun j=>j≤us.length) (fun j=>us.length-j) 0 (Nat.zero_le _) ⟨rfl,rfl,rfl,rfl,rfl,rfl,rfl,rfl,rfl,rfl,trivial⟩ rfl ⟨rfl,rfl,rfl,rfl,rfl,trivial⟩ rfl rfl ?_
  intro j hj ih2;have hj:j≤us.length:=hj;refine zai Tk Tryz.func55 ?_;refine zaf Tk Tryz.func55 rfl (fun g2=>?_) (fun g2=>?_)
  ·have g2:j<us.length:=by simpa using g2
   have gu:(us.map updI)[(j:Int).toNat]? = some (updI us[j]):=zal (f:=updI) g2;have htu:us.take (j+1)=us.take j++[us[j]]:=List.take_succ_eq_append_getElem g2;have hlu:(us.take j).length=j:=by rw[List.length_take];omega
   have hcu1:=hcu us[j] (List.getElem_mem g2);generalize us.take j=U at *;generalize us[j]=u at *;obtain⟨uv,⟨uo,uvl,ui,ua⟩⟩:=u;simp only at hcu1;refine zah Tk Tryz.func55 (by exact⟨by omega,by show (j:Int)<(us.length:Int);omega⟩) ?_;refine zaq Tk Tryz.func55 (gu) ?_;refine zat Tk Tryz.func55 zax rfl ?_;refine zaF Tk (fun _=>hcu1 _) rfl rfl rfl ?_;refine zd8 Tk Tryz.func55 ([9,10,11]) (by kernel_rfl) (by kernel_rfl) ?_;refine zah Tk Tryz.func55 (by exact⟨by show (U.length+1)*56≤140737488355328;omega,by show U.length+1≤9223372036854775807;omega⟩) ?_;refine zad ?_;refine ih2 (j+1) _ _ g2 (by omega) ⟨rfl,rfl,rfl,rfl,rfl,rfl,rfl,rfl,rfl,congrArg ii (zav (n:=1000001) (by omega) (by decide)),trivial⟩ rfl ⟨rfl,rfl,rfl,rfl,?_,trivial⟩ rfl rfl;rw[htu]
   show some (Ob.arr 189 5 (U.length+1) (U.map updI++[updI ⟨uv,⟨uo,uvl,ui,ua⟩⟩]) true)=some (zsI (U++[⟨uv,⟨uo,uvl,ui,ua⟩⟩]));simp[zsI]
  ·have g2:us.length≤j:=by simpa using g2
   rw[List.take_of_length_le g2];refine zaB ?_;refine zas (zao 101 rfl rfl) ?_;refine zas (zaY rfl) ?_;refine zai Tk Tryz.func55 ?_;refine g_go Tk Tryz.func55 ?_;refine zah Tk Tryz.func55 (by exact⟨by show (L.length+1)*96≤140737488355328;omega,by show L.length+1≤9223372036854775807;omega⟩) ?_;refine zad ?_;refine ih (i+1) _ _ g1 (by omega) ⟨rfl,rfl,rfl,rfl,rfl,hj1,trivial⟩ rfl ⟨rfl,rfl,?_,trivial⟩ rfl rfl;rw[ht];show some (Ob.arr 187 8 (L.length+1) (L.map mvI++[mvI ⟨yf,ev',yt,⟨go,gv,gi,ga⟩,us⟩]) true)=some (zcr (L++[⟨yf,ev',yt,⟨go,gv,gi,ga⟩,us⟩]));simp[zcr]
 ·have g1:mo.length≤i:=by simpa using g1
  rw[List.take_of_length_le g1];have hls:(mo.map (mvEv evs)).length≤19:=by rw[List.length_map];exact hmvl
  generalize mo.map (mvEv evs)=L at *;have h135':=fun O d ho=>h135 O d 108 L hls ho;refine zak Tk Tryz.func55 (h135' _ 0 rfl) rfl rfl rfl (zbe (ob:=zcr L) rfl (by simp[Ob.sh,zfb])) rfl ?_;refine za3 (zao 108 rfl rfl) ?_;refine za3 (zaY rfl) ?_;refine zaj Tk (r:=extD ⟨sal,lo,ini,mk,vr,zdH L⟩) rfl rfl rfl trivial rfl rfl ?_;exact congrArg extD hR
theorem zyV {m:Mdl} (h:(chkT m).2=0):∀t∈m.tpls,tplE t=0:=by
 unfold chkT at h
 by_cases h2:m.tpls.length>16
 ·rw[if_pos h2] at h;simp at h
 rw[if_neg h2] at h;exact zc1 (zez (fun _ _ h=>zbD h) h).1
theorem zwN {m:Mdl} (h:(chkI m).2=0):∀c∈m.reqs,insE m c=0:=by
 unfold chkI at h
 by_cases h2:m.comps.length=0
 ·rw[if_pos h2] at h;simp at h
 rw[if_neg h2] at h
 by_cases h3:m.comps.length>8
 ·rw[if_pos h3] at h;simp at h
 rw[if_neg h3] at h
 by_cases h4:m.comps.length+m.reqs.length>12
 ·rw[if_pos h4] at h;simp at h
 rw[if_neg h4] at h;obtain⟨_,h5⟩:=zez (fun _ _ h=>zbD h) h;rw[h5] at h;have h6:=zc1 (zez (fun _ _ h=>zbD h) h).1;intro c hc;have:=h6 c hc;unfold reqE at this
 by_cases h7:insE m c≠0
 ·rw[if_pos h7] at this;exact absurd this h7
 ·exact Classical.byContradiction h7
theorem ztW:∀{l b:List Evt} {i j:Nat} {e:Int},evsP b l i=some (j,e)→e≠0
 |[],_,_,_,_,h=>by simp[evsP] at h
 |x::r,b,i,j,e,h=>by
  simp only[evsP] at h
  by_cases h1:zjP (b++[x])≠0
  ·rw[if_pos h1] at h;simp only[Option.some.injEq,Prod.mk.injEq] at h;rw[←h.2];exact h1
  ·rw[if_neg h1] at h;exact ztW h
theorem zcG {m:Mdl} (h:(mdlE m).2=0):zaT m.name=true∧evsP [] m.evs 0=none∧(chkT m).2=0∧(chkI m).2=0∧(chkC m).2=0∧mdlE m=((0,0),0):=by
 have e:=zlV m;rw[e] at h ⊢
 by_cases h1:zaT m.name=false
 ·rw[if_pos h1] at h;simp at h
 rw[if_neg h1] at h ⊢;obtain⟨h2,h3⟩:=zez (fun _ _ h=>ztW h) h;rw[h3] at h ⊢
 by_cases h4:(chkT m).2≠0
 ·rw[if_pos h4] at h;exact absurd h h4
 rw[if_neg h4] at h ⊢
 by_cases h5:(chkI m).2≠0
 ·rw[if_pos h5] at h;exact absurd h h5
 rw[if_neg h5] at h ⊢;exact⟨by simpa using h1,h2,by simpa using h4,by simpa using h5,h,zuf h⟩
theorem zqf {t:Tpl} (h:tplE t=0):(t.locs.length:Int)=t.mach.locs∧nmsE [] t.locs=0∧nmsE [] t.evs=0∧t.mach.alpha=(List.range t.evs.length).map (fun k=>((k:Nat):Int))∧chk t.mach=0:=by
 unfold tplE at h
 by_cases h1:(t.locs.length:Int)≠t.mach.locs
 ·rw[if_pos h1] at h;cases h
 rw[if_neg h1] at h
 by_cases h2:nmsE [] t.locs≠0
 ·rw[if_pos h2] at h;exact absurd h h2
 rw[if_neg h2] at h
 by_cases h3:nmsE [] t.evs≠0
 ·rw[if_pos h3] at h;exact absurd h h3
 rw[if_neg h3] at h
 by_cases h4:t.mach.alpha.length≠t.evs.length
 ·rw[if_pos h4] at h;cases h
 rw[if_neg h4] at h
 by_cases h5:t.mach.alpha≠(List.range t.evs.length).map (fun k=>((k:Nat):Int))
 ·rw[if_pos h5] at h;cases h
 rw[if_neg h5] at h;exact⟨by simpa using h1,by simpa using h2,by simpa using h3,by simpa using h5,h⟩
theorem ze5 {m:Mdl} (hmv:∀t∈m.tpls,t.mach.moves.length≤19) (h:(mdlE m).2=0) {x:Ins} (hx:x∈m.comps∨x∈m.reqs):∃t,mchOk m x t∧mchR m x=mchE m x t∧(t.locs.length:Int)=t.mach.locs∧nmsE [] t.locs=0∧zdi m [] x.evs=0:=by
 obtain⟨_,_,h3,h4,_⟩:=zcG h;have hi:insE m x=0:=by
  rcases hx with hx|hx
  ·exact zjL h4 x hx
  ·exact zwN h4 x hx
 obtain⟨t,t1,t2,t3,t4⟩:=zgz hi;obtain⟨u1,u2,u3,u4,u5⟩:=zqf (zyV h3 t t2);exact⟨t,⟨t1,t2,zhM u5,t3,u4,hmv t t2⟩,by unfold mchR;rw[t1],u1,u2,t4⟩
abbrev zIns:Ins:=⟨⟨#[]⟩,⟨#[]⟩,[]⟩
def zhZ (m:Mdl) (p:Plc):Ins×Int:=match zdd m p with
 |.ok x=>(x,0)
 |.error e=>(zIns,e)
theorem zt7 {e:Int}:CoD (.tup [.agg [sD ⟨#[]⟩,sD ⟨#[]⟩,.i (.v (.slice none 0 0))],ii e]) (.tup [insD zIns,ii e]):=by
 repeat' (first|refine zbT ?_|refine zbB ?_|refine zcy ?_|refine CoDL.cons ?_ ?_|exact CoDL.nil|exact zbd|refine zcz ?_|refine CoLL.cons ?_ ?_|exact CoLL.nil|refine CoL.cons ?_ ?_|exact CoL.nil|exact CoI.refl _|exact CoL.refl _|exact CoLL.refl _|exact CoDL.refl _|exact CoD.refl _)
theorem ziw (O:List Heap) (m:Mdl) (p:Plc) (hm:szOk m):zan Tryz.prog 61 [mdlD m,.agg [ii p.1,ii p.2]] O (.tup [insD (zhZ m p).1,ii (zhZ m p).2]) [] O:=by
 have hc:=hm.co;have hq:=hm.rq;obtain⟨a,b⟩:=p;simp only;generalize hR:zhZ m (a,b)=R;unfold zhZ zdd at hR;simp only at hR;obtain⟨nm,evs,tpls,comps,reqs,excs,cons⟩:=m;simp only at hR hc hq;refine zaa Tk Tryz.func61 rfl Tryz.call61 Tryz.ntmps61 (Nat.le_of_ble_eq_true rfl) fun E=>?_;refine zai Tk Tryz.func61 ?_;refine zaf Tk Tryz.func61 rfl (fun c1=>?_) (fun c1=>?_)
 ·have c1:a=3:=beqT c1;rw[if_pos c1] at hR;refine zaG Tk Tryz.func61 rfl (fun c2=>?_) (fun c2=>?_)
  ·have c2:b<0:=of_decide_eq_true c2;rw[if_pos c2] at hR;simp only at hR;subst hR;refine gcT Tk Tryz.func61 rfl ?_;refine zaD Tk (r:=.tup [.agg [sD ⟨#[]⟩,sD ⟨#[]⟩,.i (.v (.slice none 0 0))],ii 10]) rfl rfl rfl trivial rfl rfl ?_;exact zt7
  have c2:¬b<0:=of_decide_eq_false c2;rw[if_neg c2] at hR;refine zaf Tk Tryz.func61 rfl (fun c3=>?_) (fun c3=>?_)
  ·have c3:b≥(comps.length:Int):=of_decide_eq_true c3;rw[List.getElem?_eq_none (by omega)] at hR;simp only at hR;subst hR;refine zaD Tk (r:=.tup [.agg [sD ⟨#[]⟩,sD ⟨#[]⟩,.i (.v (.slice none 0 0))],ii 10]) rfl rfl rfl trivial rfl rfl ?_;exact zt7
  have c3:¬b≥(comps.length:Int):=of_decide_eq_false c3;have hb:b.toNat<comps.length:=by omega
  rw[List.getElem?_eq_getElem hb] at hR;simp only at hR;have gx:(comps.map insI)[b.toNat]? = some (insI comps[b.toNat]):=by simp[hb]
  generalize comps[b.toNat]=x at *;subst hR;refine zah Tk Tryz.func61 (by exact⟨by omega,by show b<(comps.length:Int);omega⟩) ?_;refine zaq Tk Tryz.func61 (gx) ?_;refine zaj Tk (r:=.tup [insD x,ii 0]) rfl rfl rfl trivial rfl rfl ?_;rfl
 have c1:¬a=3:=beqF c1;rw[if_neg c1] at hR;refine zaf Tk Tryz.func61 rfl (fun c4=>?_) (fun c4=>?_)
 ·have c4:a=4:=beqT c4;rw[if_pos c4] at hR;refine zaG Tk Tryz.func61 rfl (fun c2=>?_) (fun c2=>?_)
  ·have c2:b<0:=of_decide_eq_true c2;rw[if_pos c2] at hR;simp only at hR;subst hR;refine gcT Tk Tryz.func61 rfl ?_;refine zaD Tk (r:=.tup [.agg [sD ⟨#[]⟩,sD ⟨#[]⟩,.i (.v (.slice none 0 0))],ii 10]) rfl rfl rfl trivial rfl rfl ?_;exact zt7
  have c2:¬b<0:=of_decide_eq_false c2;rw[if_neg c2] at hR;refine zaf Tk Tryz.func61 rfl (fun c3=>?_) (fun c3=>?_)
  ·have c3:b≥(reqs.length:Int):=of_decide_eq_true c3;rw[List.getElem?_eq_none (by omega)] at hR;simp only at hR;subst hR;refine zaD Tk (r:=.tup [.agg [sD ⟨#[]⟩,sD ⟨#[]⟩,.i (.v (.slice none 0 0))],ii 10]) rfl rfl rfl trivial rfl rfl ?_;exact zt7
  have c3:¬b≥(reqs.length:Int):=of_decide_eq_false c3;have hb:b.toNat<reqs.length:=by omega
  rw[List.getElem?_eq_getElem hb] at hR;simp only at hR;have gx:(reqs.map insI)[b.toNat]? = some (insI reqs[b.toNat]):=by simp[hb]
  generalize reqs[b.toNat]=x at *;subst hR;refine zah Tk Tryz.func61 (by exact⟨by omega,by show b<(reqs.length:Int);omega⟩) ?_;refine zaq Tk Tryz.func61 (gx) ?_;refine zaj Tk (r:=.tup [insD x,ii 0]) rfl rfl rfl trivial rfl rfl ?_;rfl
 have c4:¬a=4:=beqF c4;rw[if_neg c4] at hR;simp only at hR;subst hR;refine zaD Tk (r:=.tup [.agg [sD ⟨#[]⟩,sD ⟨#[]⟩,.i (.v (.slice none 0 0))],ii 11]) rfl rfl rfl trivial rfl rfl ?_;exact zt7
def mchA (m:Mdl) (p:Plc):Ext×Int:=if (mdlE m).2≠0 then (zExt,(mdlE m).2) else match zdd m p with
 |.error e=>(zExt,e)
 |.ok x=>(mchR m x,0)
theorem zfL {m:Mdl} {p:Plc} {x:Ins} (h:zdd m p=.ok x):x∈m.comps∨x∈m.reqs:=by
 unfold zdd at h
 by_cases h1:p.1=3
 ·rw[if_pos h1] at h
  by_cases h2:p.2<0
  ·rw[if_pos h2] at h;cases h
  rw[if_neg h2] at h
  cases h3:m.comps[p.2.toNat]? with
  |none=>rw[h3] at h;cases h
  |some y=>rw[h3] at h;cases h;exact .inl (List.mem_of_getElem? h3)
 rw[if_neg h1] at h
 by_cases h1:p.1=4
 ·rw[if_pos h1] at h
  by_cases h2:p.2<0
  ·rw[if_pos h2] at h;cases h
  rw[if_neg h2] at h
  cases h3:m.reqs[p.2.toNat]? with
  |none=>rw[h3] at h;cases h
  |some y=>rw[h3] at h;cases h;exact .inr (List.mem_of_getElem? h3)
 rw[if_neg h1] at h;cases h
theorem zfM {m:Mdl} {p:Plc} {e:Int} (h:zdd m p=.error e):e≠0:=by
 unfold zdd at h
 by_cases h1:p.1=3
 ·rw[if_pos h1] at h
  by_cases h2:p.2<0
  ·rw[if_pos h2] at h;cases h;decide
  rw[if_neg h2] at h
  cases h3:m.comps[p.2.toNat]? with
  |none=>rw[h3] at h;cases h;decide
  |some y=>rw[h3] at h;cases h
 rw[if_neg h1] at h
 by_cases h1:p.1=4
 ·rw[if_pos h1] at h
  by_cases h2:p.2<0
  ·rw[if_pos h2] at h;cases h;decide
  rw[if_neg h2] at h
  cases h3:m.reqs[p.2.toNat]? with
  |none=>rw[h3] at h;cases h;decide
  |some y=>rw[h3] at h;cases h
 rw[if_neg h1] at h;cases h;decide
theorem zxg {e:Int}:CoD (.tup [.agg zhQ,ii e]) (.tup [extD zExt,ii e]):=by
 repeat' (first|refine zbT ?_|refine zbB ?_|refine zcy ?_|refine CoDL.cons ?_ ?_|exact CoDL.nil|exact zbd|refine zcz ?_|refine CoLL.cons ?_ ?_|exact CoLL.nil|refine CoL.cons ?_ ?_|exact CoL.nil|exact CoI.refl _|exact CoL.refl _|exact CoLL.refl _|exact CoDL.refl _|exact CoD.refl _)
theorem zhs {m:Mdl} (hm:mdlOk m) {x:Ins} (hx:x∈m.comps∨x∈m.reqs):x.evs.length≤1000000:=by
 rcases hx with h|h
 ·exact (hm.cok x h).el
 ·exact (hm.rqk x h).el
theorem zva (O:List Heap) (m:Mdl) (p:Plc) (hm:mdlOk m) (hmv:∀t∈m.tpls,t.mach.moves.length≤19):zan Tryz.prog 18 [mdlD m,.agg [ii p.1,ii p.2]] O (.tup [extD (mchA m p).1,ii (mchA m p).2]) [] O:=by
 have h14:=fun O=>zvd O m hm;have h61:=fun O=>ziw O m p hm.toszOk;have hv:=fun h x hx=>ze5 hmv h (x:=x) hx;have h55:=fun x (hx:x∈m.comps∨x∈m.reqs) t ht O=>zkw O m x t hm (zhs hm hx) ht;generalize hR:mchA m p=R;unfold mchA at hR;generalize mdlE m=E0 at *;obtain⟨⟨e1,e2⟩,e3⟩:=E0;simp only at hv hR;obtain⟨a,b⟩:=p;simp only at h61 ⊢;refine zaa Tk Tryz.func18 rfl Tryz.call18 Tryz.ntmps18 (Nat.le_of_ble_eq_true rfl) fun E=>?_;refine zai Tk Tryz.func18 ?_;refine zak Tk Tryz.func18 (h14 _) rfl rfl rfl rfl rfl ?_;refine zaf Tk Tryz.func18 rfl (fun c1=>?_) (fun c1=>?_)
 ·have c1:e3≠0:=bneT c1;rw[if_pos c1] at hR;subst hR;refine zaD Tk (r:=.tup [.agg zhQ,ii e3]) rfl rfl rfl trivial rfl rfl ?_;exact zxg
 have c1:e3=0:=bneF c1;rw[if_neg (fun h=>h c1)] at hR
 cases hp:zdd m (a,b) with
 |error e=>
  have he:=zfM hp;rw[hp] at hR;simp only at hR;subst hR;rw[show zhZ m (a,b)=(zIns,e) from by unfold zhZ;rw[hp]] at h61;refine zak Tk Tryz.func18 (h61 _) rfl rfl rfl rfl rfl ?_;refine zaf Tk Tryz.func18 rfl (fun _=>?_) (fun h=>absurd h (by simpa using he));refine zaD Tk (r:=.tup [.agg zhQ,ii e]) rfl rfl rfl trivial rfl rfl ?_;exact zxg
 |ok x=>
  have hx:=zfL hp;rw[hp] at hR;simp only at hR;subst hR;rw[show zhZ m (a,b)=(x,0) from by unfold zhZ;rw[hp]] at h61;obtain⟨t,ht,he,_⟩:=hv c1 x hx;have h:=h55 x hx t ht;rw[←he] at h;generalize mchR m x=X at *;refine zak Tk Tryz.func18 (h61 _) rfl rfl rfl rfl rfl ?_;refine gcF Tk Tryz.func18 rfl ?_;refine zak Tk Tryz.func18 (h _) rfl rfl rfl rfl rfl ?_;refine zaj Tk (r:=.tup [extD X,ii 0]) rfl rfl rfl trivial rfl rfl ?_;rfl
theorem zsW (O:List Heap) (m:Mdl) (hl:m.evs.length≤1000000):zan Tryz.prog 40 [mdlD m,ii 1] O (ssD (m.evs.map (·.name))) [] O:=by
 generalize hM:mdlC m=M;have hg:M=mdlC m:=hM.symm;subst hg;clear hM;refine zaa Tk Tryz.func40 rfl Tryz.call40 Tryz.ntmps40 (Nat.le_of_ble_eq_true rfl) fun E=>?_;refine zai Tk Tryz.func40 ?_;refine gcT Tk Tryz.func40 rfl ?_;refine g_wk (zbk 5 32 9 1 rfl rfl rfl) ?_;refine zad ?_;refine zag (fun i:Nat=>[(5,.osl 0 32),(22,.i (za1 m.evs)),(23,ii m.evs.length),(24,ii i)]) (fun i=>[(32,oss ((m.evs.take i).map (·.name)))]) (fun _=>O) 110
  (fun i=>i≤m.evs.length) (fun i=>m.evs.length-i) 0 (Nat.zero_le _) ⟨rfl,rfl,rfl,rfl,trivial⟩ rfl ⟨rfl,trivial⟩ rfl rfl ?_
 intro i hi ih;have hi:i≤m.evs.length:=hi;refine zai Tk Tryz.func40 ?_;refine zaf Tk Tryz.func40 rfl (fun g1=>?_) (fun g1=>?_)
 ·have g1:i<m.evs.length:=by simpa using g1
  have gs:(m.evs.map evtI)[(i:Int).toNat]? = some (evtI m.evs[i]):=zal (f:=evtI) g1;have ht:=zaI Evt.name g1;have hll:((m.evs.take i).map (·.name)).length≤1000000:=by rw[List.length_map,List.length_take];omega
  generalize (m.evs.take i).map (·.name)=L at *;generalize m.evs[i]=x at *;refine zah Tk Tryz.func40 (by exact⟨by omega,by show (i:Int)<(m.evs.length:Int);omega⟩) ?_;refine zaq Tk Tryz.func40 (gs) ?_;refine zah Tk Tryz.func40 (by exact⟨by show (L.length+1)*16≤140737488355328;omega,by show L.length+1≤9223372036854775807;omega⟩) ?_;refine zad ?_;refine ih (i+1) _ _ g1 (by omega) ⟨rfl,rfl,rfl,congrArg ii (zav (n:=1000001) (by omega) (by decide)),trivial⟩ rfl ⟨?_,trivial⟩ rfl rfl;rw[ht];exact congrArg some (za8 L x.name)
 ·have g1:m.evs.length≤i:=by simpa using g1
  rw[List.take_of_length_le g1];refine za3 (zao 32 rfl rfl) ?_;refine zaj Tk (r:=ssD (m.evs.map (·.name))) rfl rfl rfl trivial rfl rfl ?_;rfl
theorem zhe (O:List Heap) (m:Mdl) (hl:m.tpls.length≤1000000):zan Tryz.prog 40 [mdlD m,ii 2] O (ssD (m.tpls.map (·.name))) [] O:=by
 generalize hM:mdlC m=M;have hg:M=mdlC m:=hM.symm;subst hg;clear hM;refine zaa Tk Tryz.func40 rfl Tryz.call40 Tryz.ntmps40 (Nat.le_of_ble_eq_true rfl) fun E=>?_;refine zai Tk Tryz.func40 ?_
 repeat (first|refine gcT Tk Tryz.func40 rfl ?_|refine gkT Tk Tryz.func40 rfl ?_|refine skT Tk ?_|refine gcF Tk Tryz.func40 rfl ?_|refine gkF Tk Tryz.func40 rfl ?_|refine skF Tk ?_)
 refine g_wk (zbk 5 47 9 1 rfl rfl rfl) ?_;refine zad ?_;refine zag (fun i:Nat=>[(5,.osl 0 47),(37,.i (zcI m.tpls)),(38,ii m.tpls.length),(39,ii i)]) (fun i=>[(47,oss ((m.tpls.take i).map (·.name)))]) (fun _=>O) 110
  (fun i=>i≤m.tpls.length) (fun i=>m.tpls.length-i) 0 (Nat.zero_le _) ⟨rfl,rfl,rfl,rfl,trivial⟩ rfl ⟨rfl,trivial⟩ rfl rfl ?_
 intro i hi ih;have hi:i≤m.tpls.length:=hi;refine zai Tk Tryz.func40 ?_;refine zaf Tk Tryz.func40 rfl (fun g1=>?_) (fun g1=>?_)
 ·have g1:i<m.tpls.length:=by simpa using g1
  have gs:(m.tpls.map tplI)[(i:Int).toNat]? = some (tplI m.tpls[i]):=zal (f:=tplI) g1;have ht:=zaI Tpl.name g1;have hll:((m.tpls.take i).map (·.name)).length≤1000000:=by rw[List.length_map,List.length_take];omega
  generalize (m.tpls.take i).map (·.name)=L at *;generalize m.tpls[i]=x at *;refine zah Tk Tryz.func40 (by exact⟨by omega,by show (i:Int)<(m.tpls.length:Int);omega⟩) ?_;refine zaq Tk Tryz.func40 (gs) ?_;refine zah Tk Tryz.func40 (by exact⟨by show (L.length+1)*16≤140737488355328;omega,by show L.length+1≤9223372036854775807;omega⟩) ?_;refine zad ?_;refine ih (i+1) _ _ g1 (by omega) ⟨rfl,rfl,rfl,congrArg ii (zav (n:=1000001) (by omega) (by decide)),trivial⟩ rfl ⟨?_,trivial⟩ rfl rfl;rw[ht];exact congrArg some (za8 L x.name)
 ·have g1:m.tpls.length≤i:=by simpa using g1
  rw[List.take_of_length_le g1];refine za3 (zao 47 rfl rfl) ?_;refine zaj Tk (r:=ssD (m.tpls.map (·.name))) rfl rfl rfl trivial rfl rfl ?_;rfl
theorem zkt (O:List Heap) (m:Mdl) (hl:m.comps.length≤1000000):zan Tryz.prog 40 [mdlD m,ii 3] O (ssD (m.comps.map (·.name))) [] O:=by
 generalize hM:mdlC m=M;have hg:M=mdlC m:=hM.symm;subst hg;clear hM;refine zaa Tk Tryz.func40 rfl Tryz.call40 Tryz.ntmps40 (Nat.le_of_ble_eq_true rfl) fun E=>?_;refine zai Tk Tryz.func40 ?_
 repeat (first|refine gcT Tk Tryz.func40 rfl ?_|refine gkT Tk Tryz.func40 rfl ?_|refine skT Tk ?_|refine gcF Tk Tryz.func40 rfl ?_|refine gkF Tk Tryz.func40 rfl ?_|refine skF Tk ?_)
 refine g_wk (zbk 5 62 9 1 rfl rfl rfl) ?_;refine zad ?_;refine zag (fun i:Nat=>[(5,.osl 0 62),(52,.i (zbF m.comps)),(53,ii m.comps.length),(54,ii i)]) (fun i=>[(62,oss ((m.comps.take i).map (·.name)))]) (fun _=>O) 110
  (fun i=>i≤m.comps.length) (fun i=>m.comps.length-i) 0 (Nat.zero_le _) ⟨rfl,rfl,rfl,rfl,trivial⟩ rfl ⟨rfl,trivial⟩ rfl rfl ?_
 intro i hi ih;have hi:i≤m.comps.length:=hi;refine zai Tk Tryz.func40 ?_;refine zaf Tk Tryz.func40 rfl (fun g1=>?_) (fun g1=>?_)
 ·have g1:i<m.comps.length:=by simpa using g1
  have gs:(m.comps.map insI)[(i:Int).toNat]? = some (insI m.comps[i]):=zal (f:=insI) g1;have ht:=zaI Ins.name g1;have hll:((m.comps.take i).map (·.name)).length≤1000000:=by rw[List.length_map,List.length_take];omega
  generalize (m.comps.take i).map (·.name)=L at *;generalize m.comps[i]=x at *;refine zah Tk Tryz.func40 (by exact⟨by omega,by show (i:Int)<(m.comps.length:Int);omega⟩) ?_;refine zaq Tk Tryz.func40 (gs) ?_;refine zah Tk Tryz.func40 (by exact⟨by show (L.length+1)*16≤140737488355328;omega,by show L.length+1≤9223372036854775807;omega⟩) ?_;refine zad ?_;refine ih (i+1) _ _ g1 (by omega) ⟨rfl,rfl,rfl,congrArg ii (zav (n:=1000001) (by omega) (by decide)),trivial⟩ rfl ⟨?_,trivial⟩ rfl rfl;rw[ht];exact congrArg some (za8 L x.name)
 ·have g1:m.comps.length≤i:=by simpa using g1
  rw[List.take_of_length_le g1];refine za3 (zao 62 rfl rfl) ?_;refine zaj Tk (r:=ssD (m.comps.map (·.name))) rfl rfl rfl trivial rfl rfl ?_;rfl
theorem zsV (O:List Heap) (m:Mdl) (hl:m.excs.length≤1000000):zan Tryz.prog 40 [mdlD m,ii 5] O (ssD (m.excs.map (·.name))) [] O:=by
 generalize hM:mdlC m=M;have hg:M=mdlC m:=hM.symm;subst hg;clear hM;refine zaa Tk Tryz.func40 rfl Tryz.call40 Tryz.ntmps40 (Nat.le_of_ble_eq_true rfl) fun E=>?_;refine zai Tk Tryz.func40 ?_
 repeat (first|refine gcT Tk Tryz.func40 rfl ?_|refine gkT Tk Tryz.func40 rfl ?_|refine skT Tk ?_|refine gcF Tk Tryz.func40 rfl ?_|refine gkF Tk Tryz.func40 rfl ?_|refine skF Tk ?_)
 refine g_wk (zbk 5 92 9 1 rfl rfl rfl) ?_;refine zad ?_;refine zag (fun i:Nat=>[(5,.osl 0 92),(82,.i (zjd m.excs)),(83,ii m.excs.length),(84,ii i)]) (fun i=>[(92,oss ((m.excs.take i).map (·.name)))]) (fun _=>O) 110
  (fun i=>i≤m.excs.length) (fun i=>m.excs.length-i) 0 (Nat.zero_le _) ⟨rfl,rfl,rfl,rfl,trivial⟩ rfl ⟨rfl,trivial⟩ rfl rfl ?_
 intro i hi ih;have hi:i≤m.excs.length:=hi;refine zai Tk Tryz.func40 ?_;refine zaf Tk Tryz.func40 rfl (fun g1=>?_) (fun g1=>?_)
 ·have g1:i<m.excs.length:=by simpa using g1
  have gs:(m.excs.map nexI)[(i:Int).toNat]? = some (nexI m.excs[i]):=zal (f:=nexI) g1;have ht:=zaI NEx.name g1;have hll:((m.excs.take i).map (·.name)).length≤1000000:=by rw[List.length_map,List.length_take];omega
  generalize (m.excs.take i).map (·.name)=L at *;generalize m.excs[i]=x at *;refine zah Tk Tryz.func40 (by exact⟨by omega,by show (i:Int)<(m.excs.length:Int);omega⟩) ?_;refine zaq Tk Tryz.func40 (gs) ?_;refine zah Tk Tryz.func40 (by exact⟨by show (L.length+1)*16≤140737488355328;omega,by show L.length+1≤9223372036854775807;omega⟩) ?_;refine zad ?_;refine ih (i+1) _ _ g1 (by omega) ⟨rfl,rfl,rfl,congrArg ii (zav (n:=1000001) (by omega) (by decide)),trivial⟩ rfl ⟨?_,trivial⟩ rfl rfl;rw[ht];exact congrArg some (za8 L x.name)
 ·have g1:m.excs.length≤i:=by simpa using g1
  rw[List.take_of_length_le g1];refine za3 (zao 92 rfl rfl) ?_;refine zaj Tk (r:=ssD (m.excs.map (·.name))) rfl rfl rfl trivial rfl rfl ?_;rfl
theorem zsU (O:List Heap) (m:Mdl) (hl:m.cons.length≤1000000):zan Tryz.prog 40 [mdlD m,ii 6] O (ssD (m.cons.map (·.name))) [] O:=by
 generalize hM:mdlC m=M;have hg:M=mdlC m:=hM.symm;subst hg;clear hM;refine zaa Tk Tryz.func40 rfl Tryz.call40 Tryz.ntmps40 (Nat.le_of_ble_eq_true rfl) fun E=>?_;refine zai Tk Tryz.func40 ?_
 repeat (first|refine gcT Tk Tryz.func40 rfl ?_|refine gkT Tk Tryz.func40 rfl ?_|refine skT Tk ?_|refine gcF Tk Tryz.func40 rfl ?_|refine gkF Tk Tryz.func40 rfl ?_|refine skF Tk ?_)
 refine g_wk (zbk 5 107 9 1 rfl rfl rfl) ?_;refine zad ?_;refine zag (fun i:Nat=>[(5,.osl 0 107),(97,.i (zkr m.cons)),(98,ii m.cons.length),(99,ii i)]) (fun i=>[(107,oss ((m.cons.take i).map (·.name)))]) (fun _=>O) 110
  (fun i=>i≤m.cons.length) (fun i=>m.cons.length-i) 0 (Nat.zero_le _) ⟨rfl,rfl,rfl,rfl,trivial⟩ rfl ⟨rfl,trivial⟩ rfl rfl ?_
 intro i hi ih;have hi:i≤m.cons.length:=hi;refine zai Tk Tryz.func40 ?_;refine zaf Tk Tryz.func40 rfl (fun g1=>?_) (fun g1=>?_)
 ·have g1:i<m.cons.length:=by simpa using g1
  have gs:(m.cons.map ncnI)[(i:Int).toNat]? = some (ncnI m.cons[i]):=zal (f:=ncnI) g1;have ht:=zaI NCn.name g1;have hll:((m.cons.take i).map (·.name)).length≤1000000:=by rw[List.length_map,List.length_take];omega
  generalize (m.cons.take i).map (·.name)=L at *;generalize m.cons[i]=x at *;refine zah Tk Tryz.func40 (by exact⟨by omega,by show (i:Int)<(m.cons.length:Int);omega⟩) ?_;refine zaq Tk Tryz.func40 (gs) ?_;refine zah Tk Tryz.func40 (by exact⟨by show (L.length+1)*16≤140737488355328;omega,by show L.length+1≤9223372036854775807;omega⟩) ?_;refine zad ?_;refine ih (i+1) _ _ g1 (by omega) ⟨rfl,rfl,rfl,congrArg ii (zav (n:=1000001) (by omega) (by decide)),trivial⟩ rfl ⟨?_,trivial⟩ rfl rfl;rw[ht];exact congrArg some (za8 L x.name)
 ·have g1:m.cons.length≤i:=by simpa using g1
  rw[List.take_of_length_le g1];refine za3 (zao 107 rfl rfl) ?_;refine zaj Tk (r:=ssD (m.cons.map (·.name))) rfl rfl rfl trivial rfl rfl ?_;rfl
theorem zb8 (O:List Heap) (l:List ByteArray) (s:ByteArray) (hl:l.length≤1000000):zan Tryz.prog 39 [ssD l,sD s] O (ii (nmIx l s)) [] O:=by
 unfold nmIx;generalize hR:zau (fun x=>sB x s) l 0=R;refine zaa Tk Tryz.func39 rfl Tryz.call39 Tryz.ntmps39 (Nat.le_of_ble_eq_true rfl) fun E=>?_;refine zai Tk Tryz.func39 ?_;refine zad ?_;refine zag (fun i:Nat=>[(0,ssD l),(1,sD s),(5,ii i)]) (fun _=>[]) (fun _=>O) 19
  (fun i=>i≤l.length∧zau (fun x=>sB x s) (l.drop i) i=R) (fun i=>l.length-i) 0 ⟨Nat.zero_le _,hR⟩ ⟨rfl,rfl,rfl,trivial⟩ rfl trivial rfl rfl ?_
 rintro i ⟨hi,hno⟩ ih;clear hR;refine zai Tk Tryz.func39 ?_;refine zaf Tk Tryz.func39 rfl (fun g1=>?_) (fun g1=>?_)
 ·have h1:i<l.length:=by simpa using g1
  have gs:(l.map fun s=>[strI s])[(i:Int).toNat]? = some [strI l[i]]:=zal (f:=fun s=>[strI s]) h1;have hd:l.drop i=l[i]::l.drop (i+1):=List.drop_eq_getElem_cons h1;rw[hd] at hno;simp only[zau] at hno;clear hd;generalize l[i]=x at *;refine zah Tk Tryz.func39 (by exact⟨by omega,by show (i:Int)<(l.length:Int);omega⟩) ?_;refine zaq Tk Tryz.func39 (gs) ?_;refine zaf Tk Tryz.func39 rfl (fun g2=>?_) (fun g2=>?_)
  ·have g2:(x.toList==s.toList)=true:=g2;rw[zaV] at g2;rw[if_pos g2] at hno;subst hno;refine zaj Tk (r:=ii (i:Int)) rfl rfl rfl trivial rfl rfl ?_;rfl
  ·have g2:(x.toList==s.toList)=false:=g2;rw[zaV] at g2;rw[if_neg (by rw[g2];decide)] at hno;refine zad ?_;exact ih (i+1) _ _ ⟨h1,hno⟩ (by omega) ⟨rfl,rfl,congrArg ii (zav (n:=1000001) (by omega) (by decide)),trivial⟩ rfl trivial rfl rfl
 ·have h1:l.length≤i:=by simpa using g1
  rw[List.drop_eq_nil_of_le h1] at hno;have hno:(-1:Int)=R:=hno;subst hno;refine zaj Tk (r:=ii (-1)) rfl rfl rfl trivial rfl rfl ?_;rfl
theorem zdN (O:List Heap) (m:Mdl) (x:Ins) (t:Tpl) (hm:szOk m) (h:zbL m x=some t):zan Tryz.prog 35 [mdlD m,insD x] O (tplD t) [] O:=by
 have h1:=fun O=>zhe O m hm.tp;have h2:=fun O=>zb8 O (m.tpls.map (·.name)) x.tpl (by rw[List.length_map];exact hm.tp);unfold zbL at h;rcases zdG Tpl.name m.tpls x.tpl with ⟨f1,_⟩|⟨k,t',f1,f2,f3⟩
 ·rw[f1] at h;cases h
 rw[f2] at h
 cases h
 rw[f3] at h2;have hk:k<m.tpls.length:=(List.getElem?_eq_some_iff.1 f1).1;have gt:(m.tpls.map tplI)[(k:Int).toNat]? = some (tplI t):=by rw[Int.toNat_natCast,List.getElem?_map,f1];rfl
 obtain⟨xn,xt,xe⟩:=x;simp only at h2;refine zaa Tk Tryz.func35 rfl Tryz.call35 Tryz.ntmps35 (Nat.le_of_ble_eq_true rfl) fun E=>?_;refine zai Tk Tryz.func35 ?_;refine zat Tk Tryz.func35 zax rfl ?_;refine zaF Tk (fun _=>h1 _) rfl rfl rfl ?_;refine zaF Tk (fun _=>h2 _) rfl rfl rfl ?_;refine zar Tk (by exact⟨by omega,by show (k:Int)<(m.tpls.length:Int);omega⟩) ?_;refine zay Tk (gt) ?_;refine zcv Tk rfl rfl rfl ?_;refine zaA Tk Tryz.func35 (by kernel_rfl) ?_;refine zaj Tk (r:=tplD t) rfl rfl rfl trivial rfl rfl ?_;rfl
abbrev mdlO (m:Mdl) (d nm:Nat):List D:=[.i (strI m.name),.i (za1 m.evs),.i (zcI m.tpls),.i (zbF m.comps),.i (zbF m.reqs),.osl d nm,.i (.v (.slice none 0 0))]
theorem zqN (O:List Heap) (m:Mdl) (d nm:Nat) (hl:m.tpls.length≤1000000):zan Tryz.prog 40 [.agg (mdlO m d nm),ii 2] O (ssD (m.tpls.map (·.name))) [] O:=by
 refine zaa Tk Tryz.func40 rfl Tryz.call40 Tryz.ntmps40 (Nat.le_of_ble_eq_true rfl) fun E=>?_;refine zai Tk Tryz.func40 ?_
 repeat (first|refine gcT Tk Tryz.func40 rfl ?_|refine gkT Tk Tryz.func40 rfl ?_|refine skT Tk ?_|refine gcF Tk Tryz.func40 rfl ?_|refine gkF Tk Tryz.func40 rfl ?_|refine skF Tk ?_)
 refine g_wk (zbk 5 47 9 1 rfl rfl rfl) ?_;refine zad ?_;refine zag (fun i:Nat=>[(5,.osl 0 47),(37,.i (zcI m.tpls)),(38,ii m.tpls.length),(39,ii i)]) (fun i=>[(47,oss ((m.tpls.take i).map (·.name)))]) (fun _=>O) 110
  (fun i=>i≤m.tpls.length) (fun i=>m.tpls.length-i) 0 (Nat.zero_le _) ⟨rfl,rfl,rfl,rfl,trivial⟩ rfl ⟨rfl,trivial⟩ rfl rfl ?_
 intro i hi ih;have hi:i≤m.tpls.length:=hi;refine zai Tk Tryz.func40 ?_;refine zaf Tk Tryz.func40 rfl (fun g1=>?_) (fun g1=>?_)
 ·have g1:i<m.tpls.length:=by simpa using g1
  have gs:(m.tpls.map tplI)[(i:Int).toNat]? = some (tplI m.tpls[i]):=zal (f:=tplI) g1;have ht:=zaI Tpl.name g1;have hll:((m.tpls.take i).map (·.name)).length≤1000000:=by rw[List.length_map,List.length_take];omega
  generalize (m.tpls.take i).map (·.name)=L at *;generalize m.tpls[i]=x at *;refine zah Tk Tryz.func40 (by exact⟨by omega,by show (i:Int)<(m.tpls.length:Int);omega⟩) ?_;refine zaq Tk Tryz.func40 (gs) ?_;refine zah Tk Tryz.func40 (by exact⟨by show (L.length+1)*16≤140737488355328;omega,by show L.length+1≤9223372036854775807;omega⟩) ?_;refine zad ?_;refine ih (i+1) _ _ g1 (by omega) ⟨rfl,rfl,rfl,congrArg ii (zav (n:=1000001) (by omega) (by decide)),trivial⟩ rfl ⟨?_,trivial⟩ rfl rfl;rw[ht];exact congrArg some (za8 L x.name)
 ·have g1:m.tpls.length≤i:=by simpa using g1
  rw[List.take_of_length_le g1];refine za3 (zao 47 rfl rfl) ?_;refine zaj Tk (r:=ssD (m.tpls.map (·.name))) rfl rfl rfl trivial rfl rfl ?_;rfl
theorem ze8 (O:List Heap) (m:Mdl) (d nm:Nat) (x:Ins) (t:Tpl) (hm:m.tpls.length≤1000000) (h:zbL m x=some t):zan Tryz.prog 35 [.agg (mdlO m d nm),insD x] O (tplD t) [] O:=by
 have h1:=fun O=>zqN O m (d+1) nm hm;have h2:=fun O=>zb8 O (m.tpls.map (·.name)) x.tpl (by rw[List.length_map];exact hm);unfold zbL at h;rcases zdG Tpl.name m.tpls x.tpl with ⟨f1,_⟩|⟨k,t',f1,f2,f3⟩
 ·rw[f1] at h;cases h
 rw[f2] at h
 cases h
 rw[f3] at h2;have hk:k<m.tpls.length:=(List.getElem?_eq_some_iff.1 f1).1;have gt:(m.tpls.map tplI)[(k:Int).toNat]? = some (tplI t):=by rw[Int.toNat_natCast,List.getElem?_map,f1];rfl
 obtain⟨xn,xt,xe⟩:=x;simp only at h2;refine zaa Tk Tryz.func35 rfl Tryz.call35 Tryz.ntmps35 (Nat.le_of_ble_eq_true rfl) fun E=>?_;refine zai Tk Tryz.func35 ?_;refine zat Tk Tryz.func35 zax rfl ?_;refine zaF Tk (fun _=>h1 _) rfl rfl rfl ?_;refine zaF Tk (fun _=>h2 _) rfl rfl rfl ?_;refine zar Tk (by exact⟨by omega,by show (k:Int)<(m.tpls.length:Int);omega⟩) ?_;refine zay Tk (gt) ?_;refine zcv Tk rfl rfl rfl ?_;refine zaA Tk Tryz.func35 (by kernel_rfl) ?_;refine zaj Tk (r:=tplD t) rfl rfl rfl trivial rfl rfl ?_;rfl
theorem zwC (O:List Heap) (l:List Ins) (evs:List ByteArray) (hl:l.length≤1000000) (he:evs.length≤1000000) (hx:∀x∈l,x.evs.length≤1000000):zan Tryz.prog 44 [.i (zbF l),ssD evs] O (bb (covB l evs)) [] O:=by
 unfold covB;generalize hR:(evs.all fun s=>l.any fun x=>decide (nmIx x.evs s≥0))=R;refine zaa Tk Tryz.func44 rfl Tryz.call44 Tryz.ntmps44 (Nat.le_of_ble_eq_true rfl) fun E=>?_;refine zai Tk Tryz.func44 ?_;refine zad ?_;refine zag (fun i:Nat=>[(0,.i (zbF l)),(9,ssD evs),(10,ii evs.length),(11,ii i)]) (fun _=>[]) (fun _=>O) 35
  (fun i=>i≤evs.length∧((evs.drop i).all fun s=>l.any fun x=>decide (nmIx x.evs s≥0))=R) (fun i=>evs.length-i) 0 ⟨Nat.zero_le _,hR⟩ ⟨rfl,rfl,rfl,rfl,trivial⟩ rfl trivial rfl rfl ?_
 rintro i ⟨hi,hno⟩ ih;clear hR;refine zai Tk Tryz.func44 ?_;refine zaf Tk Tryz.func44 rfl (fun g1=>?_) (fun g1=>?_)
 ·have g1:i<evs.length:=by simpa using g1
  have gs:(evs.map fun s=>[strI s])[(i:Int).toNat]? = some [strI evs[i]]:=zal (f:=fun s=>[strI s]) g1;have hd:evs.drop i=evs[i]::evs.drop (i+1):=List.drop_eq_getElem_cons g1;have hi1:ii (IntKind.i64.wrap ((i:Int)+1))=ii ((i+1:Nat):Int):=congrArg ii (zav (n:=1000001) (by omega) (by decide));rw[hd,List.all_cons] at hno;clear hd;generalize evs[i]=s at *;refine zah Tk Tryz.func44 (by exact⟨by omega,by show (i:Int)<(evs.length:Int);omega⟩) ?_;refine zaq Tk Tryz.func44 (gs) ?_;refine zad ?_;refine zag (fun j:Nat=>[(0,.i (zbF l)),(6,sD s),(7,bb ((l.take j).any fun x=>decide (nmIx x.evs s≥0))),(8,ii j),(9,ssD evs),(10,ii evs.length),(11,ii i)]) (fun _=>[]) (fun _=>O) 35
   (fun j=>j≤l.length) (fun j=>l.length-j) 0 (Nat.zero_le _) ⟨rfl,rfl,rfl,rfl,rfl,rfl,rfl,trivial⟩ rfl trivial rfl rfl ?_
  intro j hj ih2;have hj:j≤l.length:=hj;refine zai Tk Tryz.func44 ?_;refine zaf Tk Tryz.func44 rfl (fun g2=>?_) (fun g2=>?_)
  ·have g2:j<l.length:=by simpa using g2
   have gx:(l.map insI)[(j:Int).toNat]? = some (insI l[j]):=zal (f:=insI) g2;have hidx:=fun O=>zb8 O l[j].evs s (hx l[j] (List.getElem_mem g2));have hs:((l.take (j+1)).any fun x=>decide (nmIx x.evs s≥0))=(((l.take j).any fun x=>decide (nmIx x.evs s≥0))||decide (nmIx l[j].evs s≥0)):=by
    rw[List.take_succ_eq_append_getElem g2,List.any_append];simp
   have hj1:ii (IntKind.i64.wrap ((j:Int)+1))=ii ((j+1:Nat):Int):=congrArg ii (zav (n:=1000001) (by omega) (by decide));generalize ((l.take j).any fun x=>decide (nmIx x.evs s≥0))=B at *;generalize l[j]=x at *;obtain⟨xn,xt,xe⟩:=x;simp only at hidx hs;generalize nmIx xe s=q at *;refine zaG Tk Tryz.func44 rfl (fun g3=>?_) (fun g3=>?_)
   ·have g3:B=true:=g3;subst g3;refine zad ?_;refine ih2 (j+1) _ _ g2 (by omega) ⟨rfl,rfl,?_,hj1,rfl,rfl,rfl,trivial⟩ rfl trivial rfl rfl;rw[hs];rfl
   ·have g3:B=false:=g3;subst g3;refine zah Tk Tryz.func44 (by exact⟨by omega,by show (j:Int)<(l.length:Int);omega⟩) ?_;refine zaq Tk Tryz.func44 (gx) ?_;refine zak Tk Tryz.func44 (hidx _) rfl rfl rfl rfl rfl ?_;refine zad ?_;refine ih2 (j+1) _ _ g2 (by omega) ⟨rfl,rfl,?_,hj1,rfl,rfl,rfl,trivial⟩ rfl trivial rfl rfl;rw[hs];rfl
  ·have g2:l.length≤j:=by simpa using g2
   rw[List.take_of_length_le g2];generalize (l.any fun x=>decide (nmIx x.evs s≥0))=B at *;refine zaf Tk Tryz.func44 rfl (fun g3=>?_) (fun g3=>?_)
   ·have g3:(!B)=true:=g3;have g3:B=false:=by simpa using g3
    subst g3;have hno:false=R:=hno;subst hno;refine zaj Tk (r:=bb false) rfl rfl rfl trivial rfl rfl ?_;rfl
   ·have g3:(!B)=false:=g3;have g3:B=true:=by simpa using g3
    subst g3;rw[Bool.true_and] at hno;refine zad ?_;exact ih (i+1) _ _ ⟨g1,hno⟩ (by omega) ⟨rfl,rfl,rfl,hi1,trivial⟩ rfl trivial rfl rfl
 ·have g1:evs.length≤i:=by simpa using g1
  rw[List.drop_eq_nil_of_le g1] at hno;have hno:true=R:=hno;subst hno;refine zaj Tk (r:=bb true) rfl rfl rfl trivial rfl rfl ?_;rfl
theorem zzu (n:Nat) (hn:n≤12):∃q:Int,∀O,zan Tryz.prog 191 [.i (.v (.int .u64 n))] O (ii q) [] O:=by
 have hw:IntKind.u8.wrap (n:Int)=(n:Int):=by
  have:IntKind.u8.wrap (n:Int)=(n:Int)%256:=rfl;rw[this];omega
 refine⟨?q,fun O=>?h⟩
 case h=>
  refine zaa Tk Tryz.func191 rfl Tryz.call191 Tryz.ntmps191 (Nat.le_of_ble_eq_true rfl) fun E=>?_;refine zai Tk Tryz.func191 ?_;refine zaf Tk Tryz.func191 rfl (fun h=>absurd h (by simp;omega)) (fun _=>?_);refine zaf Tk Tryz.func191 rfl (fun h=>absurd h (by simp;omega)) (fun _=>?_);refine zaf Tk Tryz.func191 rfl (fun h=>absurd h (by simp;omega)) (fun _=>?_);refine zah Tk Tryz.func191 (by rw[hw];exact⟨by omega,by show (n:Int)<256;omega⟩) ?_;refine zaj Tk (r:=ii _) rfl rfl rfl trivial rfl rfl ?_;rfl
theorem ziN (n:Nat) (hn:n≤12):∃q:Int,∀O,zan Tryz.prog 141 [.i (.v (.int .u64 (IntKind.u64.wrap n)))] O (ii q) [] O:=by
 have w:IntKind.u64.wrap (n:Int)=(n:Int):=by
  have:IntKind.u64.wrap (n:Int)=(n:Int)%18446744073709551616:=rfl;rw[this];omega
 rw[w];obtain⟨q,h⟩:=zzu n hn;refine⟨q,fun O=>?_⟩;refine zaa Tk Tryz.func141 rfl Tryz.call141 Tryz.ntmps141 (Nat.le_of_ble_eq_true rfl) fun E=>?_;refine zai Tk Tryz.func141 ?_;refine gcF Tk Tryz.func141 rfl ?_;refine zak Tk Tryz.func141 (h _) rfl rfl rfl rfl rfl ?_;refine zaj Tk (r:=ii q) rfl rfl rfl trivial rfl rfl ?_;rfl
end Go.AI
