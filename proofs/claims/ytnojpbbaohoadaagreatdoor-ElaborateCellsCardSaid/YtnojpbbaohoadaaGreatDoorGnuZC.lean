/- The layer of abstract runs, part 29. -/
import Derived.Test.YtnojpbbaohoadaaGreatDoorGnuZB
set_option linter.unusedSimpArgs false
set_option linter.unusedVariables false
set_option linter.all false
set_option maxHeartbeats 4000000
namespace Go.AI
open Go.Proofs
set_option maxRecDepth 20000
abbrev chcI (x:Chc):List I:=[vi x.1,zdJ x.2]
abbrev olCh (l:List Chc):Ob:=.arr 304 2 l.length (l.map chcI) true
def zua (x y:Chc):Int:=cmpI x.1 y.1
abbrev ltCh (x y:Chc):Prop:=x.1<y.1
theorem zwI {x y:Chc}:zua x y<0↔ltCh x y:=by
 unfold zua cmpI ltCh
 by_cases h1:x.1<y.1
 ·rw[if_pos h1];exact⟨fun _=>h1,fun _=>by decide⟩
 rw[if_neg h1]
 by_cases h2:x.1>y.1
 ·rw[if_pos h2];exact⟨fun h=>absurd h (by decide),fun h=>absurd h h1⟩
 ·rw[if_neg h2];exact⟨fun h=>absurd h (by decide),fun h=>absurd h h1⟩
abbrev zlu (l:List Chc):Prop:=l.Pairwise fun x y=>¬ltCh y x
theorem zeU {x:Chc}:∀{P S:List Chc},(∀p∈P,¬ltCh x p)→(∀s∈S,ltCh x s)→zdK x (P++S)=P++x::S
 |[],[],_,_=>rfl
 |[],s::r,_,h=>by
  have:=h s (by simp);simp only[List.nil_append,zdK];rw[if_pos this]
 |p::P,S,h,h2=>by
  have:=h p (by simp);simp only[List.cons_append,zdK];rw[if_neg this,zeU (fun q hq=>h q (by simp[hq])) h2]
theorem zj7 {x:Chc} {P S:List Chc} (h:zlu (P++S)) (hp:∀p∈P,¬ltCh x p) (hs:∀s∈S,ltCh x s):zlu (P++x::S):=by
 obtain⟨h1,h2,h3⟩:=List.pairwise_append.1 h;refine List.pairwise_append.2 ⟨h1,List.pairwise_cons.2 ⟨fun s hs'=>?_,h2⟩,fun a ha b hb=>?_⟩
 ·have:=hs s hs';unfold ltCh at *;omega
 ·rcases List.mem_cons.1 hb with rfl|hb
  ·exact hp a ha
  ·exact h3 a ha b hb
theorem zwX:∀(P:List Chc) (p x:Chc) (T:List Chc),(((P++p::x::T).map chcI).set (P.length+1) (chcI p)).set P.length (chcI x)=(P++x::p::T).map chcI
 |[],p,x,T=>rfl
 |q::P,p,x,T=>by
  have:=zwX P p x T;simp only[List.cons_append,List.map_cons,List.length_cons,List.set_cons_succ,this]
theorem zza (P:List Chc):P=[]∨∃Q p,P=Q++[p]:=by
 by_cases h:P=[]
 ·exact .inl h
 ·exact .inr ⟨P.dropLast,P.getLast h,(List.dropLast_concat_getLast h).symm⟩
theorem zqo (A:List Chc) (x:Chc):zbY (A++[x])=zdK x (zbY A):=by simp[zbY,List.foldl_append]
theorem zyt (O:List Heap) (x y:Chc):zan Tryz.prog 179 [.agg [ii x.1,ints x.2],.agg [ii y.1,ints y.2]] O (ii (zua x y)) [] O:=by
 have h1:=fun O=>zoO O x.1 y.1;unfold zua;generalize cmpI x.1 y.1=a at *;refine zaa Tk Tryz.func179 rfl Tryz.call179 Tryz.ntmps179 (Nat.le_of_ble_eq_true rfl) fun E=>?_;refine zai Tk Tryz.func179 ?_;refine zak Tk Tryz.func179 (h1 _) rfl rfl rfl rfl rfl ?_;refine zaj Tk (r:=ii a) rfl rfl rfl trivial rfl rfl ?_;rfl
abbrev ztE:D:=.fn (.func 179) [] []
theorem zzE {A:List Chc} {x:Chc} {T:List Chc} {k:Nat} (hk:k=A.length):((A++x::T).map chcI)[((k:Nat):Int).toNat]? = some (chcI x):=by
 subst hk;simp
set_option maxHeartbeats 8000000 in
theorem zzy (O:List Heap) (d nm:Nat) (l:List Chc) (hl:l.length≤1000) (ho:zab O d nm=some (olCh l)):zan Tryz.prog 262 [.osl d nm,ii 0,ii l.length,ztE] O (.tup []) [] (setAt O d nm (olCh (zbY l))):=by
 have hc:=fun O x y=>zyt O x y
 cases l with
 |nil=>
  refine zaa Tk Tryz.func262 rfl Tryz.call262 Tryz.ntmps262 (Nat.le_of_ble_eq_true rfl) fun E=>?_;refine zai Tk Tryz.func262 ?_;refine zad ?_;refine zai Tk Tryz.func262 ?_;refine gcF Tk Tryz.func262 rfl ?_;refine za3 (wk_S (S':=_::setAt O d nm (olCh [])) (zaJ (zbl ho))) ?_;refine zaj Tk (r:=.tup []) rfl rfl rfl trivial rfl rfl ?_;rfl
 |cons z r=>
 generalize hL:z::r=l at *;have hpos:1≤l.length:=by rw[←hL];simp
 refine zaa Tk Tryz.func262 rfl Tryz.call262 Tryz.ntmps262 (Nat.le_of_ble_eq_true rfl) fun E=>?_;refine zai Tk Tryz.func262 ?_;refine g_wk (wk_S (S':=_::setAt O d nm (olCh ([z]++r))) (zaJ (zbl (by rw[ho,←hL];rfl)))) ?_;refine zad ?_;refine zag (fun x:List Chc×List Chc=>[(0,.osl (d+1) nm),(1,ii 0),(2,ii l.length),(3,ztE),(8,ii x.1.length)]) (fun _=>[]) (fun x=>setAt O d nm (olCh (x.1++x.2))) 53
  (fun x=>zlu x.1∧(∃T,T++x.2=l∧zbY T=x.1)∧x.1.length+x.2.length=l.length) (fun x=>x.2.length) ([z],r) ⟨List.pairwise_singleton _ _,⟨[z],hL,rfl⟩,by rw[←hL];simp;omega⟩ ⟨rfl,rfl,rfl,rfl,rfl,trivial⟩ rfl trivial rfl rfl ?_
 rintro ⟨A,R⟩ ⟨hA,hp,hlen⟩ ih;simp only at hA hp hlen;refine zai Tk Tryz.func262 ?_;refine zaf Tk Tryz.func262 rfl (fun g1=>?_) (fun g1=>?_)
 ·have g1:A.length<l.length:=by simpa using g1
  obtain⟨x,R',rfl⟩:∃x R',R=x::R':=by
   cases R with
   |nil=>simp at hlen;omega
   |cons x R'=>exact⟨x,R',rfl⟩
  obtain⟨T,hT,hTA⟩:=hp;have hTn:(T++[x])++R'=l:=by rw[←hT];simp
  have hTs:zbY (T++[x])=zdK x A:=by rw[zqo,hTA]
  rw[List.length_cons] at hlen;refine zad ?_;refine zag (fun y:List Chc×List Chc=>[(0,.osl (d+1) nm),(1,ii 0),(2,ii l.length),(3,ztE),(8,ii A.length),(9,ii y.1.length)]) (fun _=>[]) (fun y=>setAt O d nm (olCh (y.1++x::(y.2++R')))) 53
   (fun y=>(∀s∈y.2,ltCh x s)∧y.1++y.2=A) (fun y=>y.1.length) (A,[]) ⟨by simp,by simp⟩ ⟨rfl,rfl,rfl,rfl,rfl,rfl,trivial⟩ rfl trivial rfl rfl ?_
  rintro ⟨P,S⟩ ⟨hS,hA2⟩ ih2;simp only at hS hA2;rcases zza P with rfl|⟨Q,p,rfl⟩
  ·rw[List.nil_append] at hA2;subst hA2;have hi1:ii (IntKind.i64.wrap ((S.length:Int)+1))=ii ((x::S:List Chc).length:Int):=congrArg ii (zav (n:=1000001) (by omega) (by decide));refine zai Tk Tryz.func262 ?_;refine zat Tk Tryz.func262 zax rfl ?_;refine zbU Tk (fun h=>absurd h (by simp)) (fun _=>?_);refine zaA Tk Tryz.func262 (by kernel_rfl) ?_;refine zaf Tk Tryz.func262 rfl (fun h=>absurd h (by simp)) (fun _=>?_);refine zad ?_;have e1:zdK x S=x::S:=zeU (P:=[]) (by simp) hS;refine ih (x::S,R') _ _ ⟨zj7 (P:=[]) hA (by simp) hS,⟨T++[x],hTn,hTs.trans e1⟩,by simp only[List.length_cons];omega⟩ (by simp) ⟨rfl,rfl,rfl,rfl,hi1,trivial⟩ rfl trivial rfl rfl
  ·have e1:(Q++[p])++x::(S++R')=Q++p::x::(S++R'):=by simp
   have e2:((Q++[p]).length:Int)=((Q.length+1:Nat):Int):=by simp
   have hQA:Q.length+1+S.length=A.length:=by rw[←hA2];simp;omega
   have w1:IntKind.i64.wrap (((Q.length+1:Nat):Int)-1)=(Q.length:Int):=by rw[w64 (by omega) (by omega)];omega
   have gx:((Q++p::x::(S++R')).map chcI)[(((Q.length+1:Nat):Int)).toNat]? = some (chcI x):=by
    have:=zzE (A:=Q++[p]) (x:=x) (T:=S++R') (k:=Q.length+1) (by simp);rwa [e1] at this
   have gp:((Q++p::x::(S++R')).map chcI)[(IntKind.i64.wrap (((Q.length+1:Nat):Int)-1)).toNat]? = some (chcI p):=by rw[w1];exact zzE rfl
   have hlt:=zwI (x:=x) (y:=p);have hcc:=fun O=>hc O x p;rw[e2,e1];have hll:(Q++p::x::(S++R')).length=l.length:=by simp;omega
   generalize zua x p=cw at *;refine zai Tk Tryz.func262 ?_;refine zat Tk Tryz.func262 zax rfl ?_;refine zbU Tk (fun _=>?_) (fun h=>absurd h (by simp));refine zbR Tk (zaz (H:=([]:Heap)) (zae ho)) ?_;refine zar Tk (by exact⟨by omega,by show ((Q.length+1:Nat):Int)<((Q++p::x::(S++R')).length:Int);rw[hll];omega⟩) ?_;refine zbR Tk (zaz (H:=([]:Heap)) (zae ho)) ?_;refine zay Tk (gx) ?_;refine zbR Tk (zaz (H:=([]:Heap)) (zae ho)) ?_;refine zar Tk (by exact⟨by show (0:Int)≤IntKind.i64.wrap (((Q.length+1:Nat):Int)-1);rw[w1];omega,by show IntKind.i64.wrap (((Q.length+1:Nat):Int)-1)<((Q++p::x::(S++R')).length:Int);rw[w1,hll];omega⟩) ?_;refine zbR Tk (zaz (H:=([]:Heap)) (zae ho)) ?_;refine zay Tk (gp) ?_;refine zaF Tk (fun _=>hcc _) rfl rfl rfl ?_;refine zaA Tk Tryz.func262 (by kernel_rfl) ?_;refine zaf Tk Tryz.func262 rfl (fun c1=>?_) (fun c1=>?_)
   ·have c1:cw<0:=of_decide_eq_true c1;have hrk:=hlt.1 c1;have e3:Ob.arr 304 2 (Q++p::x::(S++R')).length ((((Q++p::x::(S++R')).map chcI).set (((Q.length+1:Nat):Int)).toNat (chcI p)).set (IntKind.i64.wrap (((Q.length+1:Nat):Int)-1)).toNat (chcI x)) true=olCh (Q++x::(p::S++R')):=by
     rw[w1];show Ob.arr 304 2 _ ((((Q++p::x::(S++R')).map chcI).set (Q.length+1) (chcI p)).set Q.length (chcI x)) true=_;rw[zwX];simp[olCh]
    refine zjw Tk 15 rfl ?_;refine zbR Tk (zaz (H:=([]:Heap)) (zae ho)) ?_;refine zar Tk (by exact⟨by show (0:Int)≤IntKind.i64.wrap (((Q.length+1:Nat):Int)-1);rw[w1];omega,by show IntKind.i64.wrap (((Q.length+1:Nat):Int)-1)<((Q++p::x::(S++R')).length:Int);rw[w1,hll];omega⟩) ?_;refine zbR Tk (zaz (H:=([]:Heap)) (zae ho)) ?_;refine zay Tk (gp) ?_;refine zbR Tk (zaz (H:=([]:Heap)) (zae ho)) ?_;refine zar Tk (by exact⟨by omega,by show ((Q.length+1:Nat):Int)<((Q++p::x::(S++R')).length:Int);rw[hll];omega⟩) ?_;refine zbR Tk (zaz (H:=([]:Heap)) (zae ho)) ?_;refine zay Tk (gx) ?_;refine zbR Tk (zaz (H:=([]:Heap)) (zae ho)) ?_;refine zar Tk (by exact⟨by omega,by show ((Q.length+1:Nat):Int)<((Q++p::x::(S++R')).length:Int);rw[hll];omega⟩) ?_
    refine zyN Tk Tryz.func262 zax (N:=15) [16,17] [2,3,4] (by kernel_rfl) rfl rfl rfl rfl rfl rfl rfl rfl rfl rfl (zae ho) (by kernel_rfl) (by kernel_rfl) ?_ (by kernel_rfl) ?_
    ·intro i hi;simp only[List.mem_cons,List.not_mem_nil,or_false] at hi;rcases hi with rfl|rfl|rfl
     ·exact⟨_,_,_,rfl,rfl,rfl,rfl,rfl,rfl,rfl⟩
     ·exact⟨_,_,_,rfl,rfl,rfl,rfl,rfl,rfl,rfl⟩
     ·exact⟨_,_,_,rfl,rfl,rfl,rfl,rfl,rfl,rfl⟩
    refine zbm Tk Tryz.func262 (zaz (H:=([]:Heap)) (zae (zae ho))) ?_;refine zah Tk Tryz.func262 (by exact⟨by show (0:Int)≤IntKind.i64.wrap (((Q.length+1:Nat):Int)-1);rw[w1];omega,by show IntKind.i64.wrap (((Q.length+1:Nat):Int)-1)<((Q++p::x::(S++R')).length:Int);rw[w1,hll];omega⟩) ?_;refine zbm Tk Tryz.func262 (zaz (H:=([]:Heap)) (zae (zae ho))) ?_;refine g_wk (wk_S (S':=_::setAt O d nm (olCh (Q++x::(p::S++R')))) (zaJ fun d' n'=>by rw[←e3];exact (zbM d' n').trans (zbM d' n'))) ?_;refine zad ?_;refine ih2 (Q,p::S) _ _ ⟨fun s hs=>?_,by simpa using hA2⟩ (by simp) ⟨rfl,rfl,rfl,rfl,rfl,congrArg ii w1,trivial⟩ rfl trivial rfl rfl;rcases List.mem_cons.1 hs with rfl|hs
    ·exact hrk
    ·exact hS s hs
   ·have c1:¬cw<0:=of_decide_eq_false c1;have hrk:¬ltCh x p:=fun h=>c1 (hlt.2 h);have hall:∀q∈Q++[p],¬ltCh x q:=by
     rw[←hA2] at hA;have h1:=(List.pairwise_append.1 hA).1;intro q hq;rcases List.mem_append.1 hq with hq|hq
     ·have:=(List.pairwise_append.1 h1).2.2 q hq p (by simp);unfold ltCh at *;omega
     ·rw[List.mem_singleton] at hq;subst hq;exact hrk
    have e4:zdK x A=(Q++[p])++x::S:=by rw[←hA2];exact zeU hall hS
    have hi1:ii (IntKind.i64.wrap ((A.length:Int)+1))=ii (((Q++[p])++x::S:List Chc).length:Int):=by
     rw[zav (n:=1000001) (by omega) (by decide),←hA2];simp;omega
    refine zad ?_;refine ih ((Q++[p])++x::S,R') _ _ ⟨zj7 (by rw[hA2];exact hA) hall hS,⟨T++[x],hTn,hTs.trans e4⟩,by simp;omega⟩ (by simp) ⟨rfl,rfl,rfl,rfl,hi1,trivial⟩ (congrArg (fun L=>_::setAt O d nm (olCh L)) (by simp:Q++p::x::(S++R')=((Q++[p])++x::S)++R')) trivial rfl rfl
 ·have g1:l.length≤A.length:=by simpa using g1
  obtain rfl:R=[]:=List.eq_nil_of_length_eq_zero (by omega);obtain⟨T,hT,hTA⟩:=hp;rw[List.append_nil] at hT ⊢;subst hT;rw[←hTA];refine zaj Tk (r:=.tup []) rfl rfl rfl trivial rfl rfl ?_;rfl
theorem zkM (x:Chc):∀l,(zdK x l).length=l.length+1
 |[]=>rfl
 |y::r=>by
  unfold zdK
  split
  ·simp
  ·simp[zkM x r]
theorem zfc (l:List Chc):(zbY l).length=l.length:=by
 have:∀(r acc:List Chc),(r.foldl (fun acc x=>zdK x acc) acc).length=acc.length+r.length:=by
  intro r
  induction r with
  |nil=>simp
  |cons x r ih=>intro acc;rw[List.foldl_cons,ih,zkM,List.length_cons];omega
 have:=this l [];simpa [zbY] using this
theorem zzj (O:List Heap) (d nm:Nat) (l:List Chc) (q:Int) (hl:l.length≤12) (ho:zab O d nm=some (olCh l)):zan Tryz.prog 231 [.osl d nm,ii 0,ii l.length,ii q,ztE] O (.tup []) [] (setAt O d nm (olCh (zbY l))):=by
 have h:=fun O d ho=>zzy O d nm l (by omega) ho;have hsl:=zfc l;have w:IntKind.i64.wrap ((l.length:Int)-0)=(l.length:Int):=by rw[w64 (by omega) (by omega)];omega
 refine zaa Tk Tryz.func231 rfl Tryz.call231 Tryz.ntmps231 (Nat.le_of_ble_eq_true rfl) fun E=>?_;refine zai Tk Tryz.func231 ?_;refine zad ?_;refine zai Tk Tryz.func231 ?_;refine zaf Tk Tryz.func231 rfl (fun _=>?_) (fun h=>absurd h (by rw[w];simp;omega));refine zak Tk Tryz.func231 (h _ (d+1) (zaz (H:=([]:Heap)) ho)) rfl rfl rfl (zaR (zaz (H:=([]:Heap)) ho) (by simp[Ob.sh,hsl])) rfl ?_;refine zaj Tk (r:=.tup []) rfl rfl rfl trivial rfl rfl ?_;rfl
theorem zxI (O:List Heap) (d nm:Nat) (l:List Chc) (hl:l.length≤12) (ho:zab O d nm=some (olCh l)):zan Tryz.prog 178 [.osl d nm,ztE] O (.tup []) [] (setAt O d nm (olCh (zbY l))):=by
 obtain⟨q,hb⟩:=ziN l.length (by omega);have h:=fun O d q ho=>zzj O d nm l q hl ho;have hsl:=zfc l;refine zaa Tk Tryz.func178 rfl Tryz.call178 Tryz.ntmps178 (Nat.le_of_ble_eq_true rfl) fun E=>?_;refine zai Tk Tryz.func178 ?_;refine zbm Tk Tryz.func178 (zaz ho) ?_;refine zak Tk Tryz.func178 (hb _) rfl rfl rfl rfl rfl ?_;refine zak Tk Tryz.func178 (h _ (d+1) _ (zaz (H:=([]:Heap)) ho)) rfl rfl rfl (zaR (zaz (H:=([]:Heap)) ho) (by simp[Ob.sh,hsl])) rfl ?_;refine zaj Tk (r:=.tup []) rfl rfl rfl trivial rfl rfl ?_;rfl
theorem ziZ (loc:Int):∀(l r:List Sta) (i:Nat),stAt loc (l++r) i=stAt loc l i++stAt loc r (i+l.length)
 |[],r,i=>rfl
 |s::l,r,i=>by
  simp only[List.cons_append,stAt,ziZ loc l r (i+1),List.length_cons];rw[show i+1+l.length=i+(l.length+1) by omega]
  split<;>rfl
theorem zef (loc:Int):∀(l:List Sta) (i:Nat),(stAt loc l i).length≤l.length
 |[],_=>Nat.le_refl _
 |s::l,i=>by
  have:=zef loc l (i+1);unfold stAt
  split<;>simp<;>omega
theorem zz9 (O:List Heap) (l:List Sta) (loc:Int) (hl:l.length≤1000000):zan Tryz.prog 175 [zgm l,ii loc] O (ints (stAt loc l 0)) [] O:=by
 refine zaa Tk Tryz.func175 rfl Tryz.call175 Tryz.ntmps175 (Nat.le_of_ble_eq_true rfl) fun E=>?_;refine zai Tk Tryz.func175 ?_;refine g_wk (zbk 5 22 3 1 rfl rfl rfl) ?_;refine zad ?_;refine zag (fun i:Nat=>[(1,ii loc),(5,.osl 0 22),(8,zgm l),(9,ii l.length),(10,ii i)]) (fun i=>[(22,zb5 (stAt loc (l.take i) 0))]) (fun _=>O) 25
  (fun i=>i≤l.length) (fun i=>l.length-i) 0 (Nat.zero_le _) ⟨rfl,rfl,rfl,rfl,rfl,trivial⟩ rfl ⟨rfl,trivial⟩ rfl rfl ?_
 intro i hi ih;have hi:i≤l.length:=hi;refine zai Tk Tryz.func175 ?_;refine zaf Tk Tryz.func175 rfl (fun g1=>?_) (fun g1=>?_)
 ·have g1:i<l.length:=by simpa using g1
  have gs:(l.map staI)[(i:Int).toNat]? = some (staI l[i]):=zal (f:=staI) g1;have ht:stAt loc (l.take (i+1)) 0=stAt loc (l.take i) 0++(if l[i].loc=loc then [(i:Int)] else []):=by
   rw[List.take_succ_eq_append_getElem g1,ziZ,List.length_take,Nat.min_eq_left hi,Nat.zero_add];rfl
  have hll:=zef loc (l.take i) 0;rw[List.length_take] at hll;have hj1:ii (IntKind.i64.wrap ((i:Int)+1))=ii ((i+1:Nat):Int):=congrArg ii (zav (n:=1000001) (by omega) (by decide));generalize stAt loc (l.take i) 0=L at *;generalize l[i]=s at *;obtain⟨sl,sv⟩:=s;simp only at ht;refine zah Tk Tryz.func175 (by exact⟨by omega,by show (i:Int)<(l.length:Int);omega⟩) ?_;refine zaq Tk Tryz.func175 (gs) ?_;refine zaf Tk Tryz.func175 rfl (fun c1=>?_) (fun c1=>?_)
  ·have c1:sl=loc:=beqT c1;rw[if_pos c1] at ht;refine zah Tk Tryz.func175 (by exact⟨by show (L.length+1)*8≤140737488355328;omega,by show L.length+1≤9223372036854775807;omega⟩) ?_;refine zad ?_;exact ih (i+1) _ _ g1 (by omega) ⟨rfl,rfl,rfl,rfl,hj1,trivial⟩ rfl ⟨by rw[ht];exact congrArg some (zcs L i),trivial⟩ rfl rfl
  ·have c1:¬sl=loc:=beqF c1;rw[if_neg c1,List.append_nil] at ht;refine zad ?_;exact ih (i+1) _ _ g1 (by omega) ⟨rfl,rfl,rfl,rfl,hj1,trivial⟩ rfl ⟨by rw[ht];rfl,trivial⟩ rfl rfl
 ·have g1:l.length≤i:=by simpa using g1
  rw[List.take_of_length_le g1];refine za3 (zao 22 rfl rfl) ?_;refine zaj Tk (r:=ints (stAt loc l 0)) rfl rfl rfl trivial rfl rfl ?_;rfl
abbrev olc (l:List Loc2):Ob:=.arr 131 2 l.length (l.map zbq) true
abbrev lcsI (l:List Loc2):I:=.sl 2 l.length (l.map zbq)
theorem zwJ (O:List Heap) (l:List Loc2) (hl:l.length≤1000000):zan Tryz.prog 180 [.i (lcsI l)] O (.osl 0 95) [(95,olc l)] O:=by
 refine zaa Tk Tryz.func180 rfl Tryz.call180 Tryz.ntmps180 (Nat.le_of_ble_eq_true rfl) fun E=>?_;refine zai Tk Tryz.func180 ?_;refine zoy Tk Tryz.func180 rfl rfl fun b hb=>?_;refine zaf Tk Tryz.func180 rfl (fun h1=>?_) (fun h1=>?_)
 ·have hl0:l=[]:=List.eq_nil_of_length_eq_zero (hb h1);subst hl0;refine za3 (zbk 2 95 131 2 rfl rfl rfl) ?_;exact⟨zaH (hT:=Tk) (r:=.osl 0 95) rfl rfl rfl ⟨⟨_,rfl,rfl⟩,trivial⟩ (zg0 _ _ _) rfl rfl⟩
 ·refine zah Tk Tryz.func180 (by exact⟨by show (0+l.length)*16≤140737488355328;omega,by show 0+l.length≤9223372036854775807;omega⟩) ?_;refine za3 (zc9 (l:=[(2,.osl 0 7)]) (Hv:=[(7,.arr 131 2 (0+l.length) ([]++l.map zbq) true)]) ⟨rfl,trivial⟩ rfl ⟨rfl,trivial⟩ rfl rfl) ?_;rw[Nat.zero_add,List.nil_append];refine za3 (zwS 7 95 rfl rfl rfl) ?_;exact⟨zaH (hT:=Tk) (r:=.osl 0 95) rfl rfl rfl ⟨⟨_,rfl,rfl⟩,trivial⟩ (zg0 _ _ _) rfl rfl⟩
theorem zyc (O:List Heap) (x:Chc):zan Tryz.prog 177 [.agg [ii x.1,ints x.2]] O (bb (decide (x.2.length=0))) [] O:=by
 refine zaa Tk Tryz.func177 rfl Tryz.call177 Tryz.ntmps177 (Nat.le_of_ble_eq_true rfl) fun E=>?_;refine zai Tk Tryz.func177 ?_;refine zaj Tk (r:=bb ((x.2.length:Int)==0)) rfl rfl rfl trivial rfl rfl ?_;refine congrArg bb ?_
 by_cases h:x.2.length=0<;>simp[h]
theorem zys (O:List Heap) (x:XEx):zan Tryz.prog 139 [.agg [.i (strI x.name),.i (lcsI x.locals)]] O (bb (decide (x.name.size>32))) [] O:=by
 refine zaa Tk Tryz.func139 rfl Tryz.call139 Tryz.ntmps139 (Nat.le_of_ble_eq_true rfl) fun E=>?_;refine zai Tk Tryz.func139 ?_;refine zaj Tk (r:=bb (decide ((x.name.size:Int)>32))) rfl rfl rfl trivial rfl rfl ?_;refine congrArg bb (decide_eq_decide.2 ?_);omega
theorem zv8 (O:List Heap) (l:List Chc) (f:Nat) (p:Chc→Bool) (hl:l.length≤zap) (hp:∀x∈l,zan Tryz.prog f [.agg [ii x.1,ints x.2]] ([]::O) (bb (p x)) [] ([]::O)) :
  zan Tryz.prog 230 [.i (.sl 2 l.length (l.map chcI)),.fn (.func f) [] []] O (ii (zau p l 0)) [] O:=by
 generalize hR:zau p l 0=R;refine zaa Tk Tryz.func230 rfl Tryz.call230 Tryz.ntmps230 (Nat.le_of_ble_eq_true rfl) fun E=>?_;refine zai Tk Tryz.func230 ?_;refine zad ?_;refine zag (fun i:Nat=>[(0,.i (.sl 2 l.length (l.map chcI))),(1,.fn (.func f) [] []),(6,.i (.sl 2 l.length (l.map chcI))),(7,ii l.length),(8,ii i)]) (fun _=>[]) (fun _=>O) 19
  (fun i=>i≤l.length∧zau p (l.drop i) i=R) (fun i=>l.length-i) 0 ⟨Nat.zero_le _,hR⟩ ⟨rfl,rfl,rfl,rfl,rfl,trivial⟩ rfl trivial rfl rfl ?_
 rintro i ⟨hi,hno⟩ ih;clear hR;refine zai Tk Tryz.func230 ?_;refine zaf Tk Tryz.func230 rfl (fun g1=>?_) (fun g1=>?_)
 ·have h1:i<l.length:=by simpa using g1
  have gs:(l.map chcI)[(i:Int).toNat]? = some (chcI l[i]):=zal h1;have hps:=hp l[i] (List.getElem_mem h1);have hd:l.drop i=l[i]::l.drop (i+1):=List.drop_eq_getElem_cons h1;rw[hd] at hno;simp only[zau] at hno;clear hd;generalize l[i]=s at *;refine zah Tk Tryz.func230 (by exact⟨by omega,by show (i:Int)<(l.length:Int);omega⟩) ?_;refine zaq Tk Tryz.func230 (gs) ?_;refine zak Tk Tryz.func230 (hps) rfl rfl rfl rfl rfl ?_;refine zaf Tk Tryz.func230 rfl (fun g2=>?_) (fun g2=>?_)
  ·rw[if_pos g2] at hno;subst hno;refine zaj Tk (r:=ii (i:Int)) rfl rfl rfl trivial rfl rfl ?_;rfl
  ·have g2:p s=false:=g2;rw[if_neg (by rw[g2];decide)] at hno;refine zad ?_;exact ih (i+1) _ _ ⟨h1,hno⟩ (by omega) ⟨rfl,rfl,rfl,rfl,congrArg ii (zav h1 hl),trivial⟩ rfl trivial rfl rfl
 ·have h1:l.length≤i:=by simpa using g1
  rw[List.drop_eq_nil_of_le h1] at hno;have hno:(-1:Int)=R:=hno;subst hno;refine zaj Tk (r:=ii (-1)) rfl rfl rfl trivial rfl rfl ?_;rfl
theorem zmr (O:List Heap) (l:List Chc) (f:Nat) (p:Chc→Bool) (hl:l.length≤zap) (hp:∀x∈l,zan Tryz.prog f [.agg [ii x.1,ints x.2]] ([]::[]::O) (bb (p x)) [] ([]::[]::O)) :
  zan Tryz.prog 176 [.i (.sl 2 l.length (l.map chcI)),.fn (.func f) [] []] O (bb (l.any p)) [] O:=by
 have h:=fun O hp=>zv8 O l f p hl hp;rw[←zbr p l 0];generalize zau p l 0=R at *;refine zaa Tk Tryz.func176 rfl Tryz.call176 Tryz.ntmps176 (Nat.le_of_ble_eq_true rfl) fun E=>?_;refine zai Tk Tryz.func176 ?_;refine zak Tk Tryz.func176 (h _ hp) rfl rfl rfl rfl rfl ?_;refine zaj Tk (r:=bb (decide (R≥0))) rfl rfl rfl trivial rfl rfl ?_;rfl
theorem zwb (O:List Heap) (l:List XEx) (f:Nat) (p:XEx→Bool) (hl:l.length≤zap) (hp:∀x∈l,zan Tryz.prog f [.agg [.i (strI x.name),.i (lcsI x.locals)]] ([]::O) (bb (p x)) [] ([]::O)) :
  zan Tryz.prog 181 [.i (.sl 2 l.length (l.map xexI)),.fn (.func f) [] []] O (ii (zau p l 0)) [] O:=by
 generalize hR:zau p l 0=R;refine zaa Tk Tryz.func181 rfl Tryz.call181 Tryz.ntmps181 (Nat.le_of_ble_eq_true rfl) fun E=>?_;refine zai Tk Tryz.func181 ?_;refine zad ?_;refine zag (fun i:Nat=>[(0,.i (.sl 2 l.length (l.map xexI))),(1,.fn (.func f) [] []),(6,.i (.sl 2 l.length (l.map xexI))),(7,ii l.length),(8,ii i)]) (fun _=>[]) (fun _=>O) 19
  (fun i=>i≤l.length∧zau p (l.drop i) i=R) (fun i=>l.length-i) 0 ⟨Nat.zero_le _,hR⟩ ⟨rfl,rfl,rfl,rfl,rfl,trivial⟩ rfl trivial rfl rfl ?_
 rintro i ⟨hi,hno⟩ ih;clear hR;refine zai Tk Tryz.func181 ?_;refine zaf Tk Tryz.func181 rfl (fun g1=>?_) (fun g1=>?_)
 ·have h1:i<l.length:=by simpa using g1
  have gs:(l.map xexI)[(i:Int).toNat]? = some (xexI l[i]):=zal h1;have hps:=hp l[i] (List.getElem_mem h1);have hd:l.drop i=l[i]::l.drop (i+1):=List.drop_eq_getElem_cons h1;rw[hd] at hno;simp only[zau] at hno;clear hd;generalize l[i]=s at *;refine zah Tk Tryz.func181 (by exact⟨by omega,by show (i:Int)<(l.length:Int);omega⟩) ?_;refine zaq Tk Tryz.func181 (gs) ?_;refine zak Tk Tryz.func181 (hps) rfl rfl rfl rfl rfl ?_;refine zaf Tk Tryz.func181 rfl (fun g2=>?_) (fun g2=>?_)
  ·rw[if_pos g2] at hno;subst hno;refine zaj Tk (r:=ii (i:Int)) rfl rfl rfl trivial rfl rfl ?_;rfl
  ·have g2:p s=false:=g2;rw[if_neg (by rw[g2];decide)] at hno;refine zad ?_;exact ih (i+1) _ _ ⟨h1,hno⟩ (by omega) ⟨rfl,rfl,rfl,rfl,congrArg ii (zav h1 hl),trivial⟩ rfl trivial rfl rfl
 ·have h1:l.length≤i:=by simpa using g1
  rw[List.drop_eq_nil_of_le h1] at hno;have hno:(-1:Int)=R:=hno;subst hno;refine zaj Tk (r:=ii (-1)) rfl rfl rfl trivial rfl rfl ?_;rfl
theorem zmu (O:List Heap) (l:List XEx) (f:Nat) (p:XEx→Bool) (hl:l.length≤zap) (hp:∀x∈l,zan Tryz.prog f [.agg [.i (strI x.name),.i (lcsI x.locals)]] ([]::[]::O) (bb (p x)) [] ([]::[]::O)) :
  zan Tryz.prog 138 [.i (.sl 2 l.length (l.map xexI)),.fn (.func f) [] []] O (bb (l.any p)) [] O:=by
 have h:=fun O hp=>zwb O l f p hl hp;rw[←zbr p l 0];generalize zau p l 0=R at *;refine zaa Tk Tryz.func138 rfl Tryz.call138 Tryz.ntmps138 (Nat.le_of_ble_eq_true rfl) fun E=>?_;refine zai Tk Tryz.func138 ?_;refine zak Tk Tryz.func138 (h _ hp) rfl rfl rfl rfl rfl ?_;refine zaj Tk (r:=bb (decide (R≥0))) rfl rfl rfl trivial rfl rfl ?_;rfl
abbrev zeM (l:List (List Sta)):I:=.sl 1 l.length (l.map fun s=>[I.sl 2 s.length (s.map staI)])
abbrev ochs (l:List Chc):Ob:=.arr 304 2 l.length (l.map chcI) true
abbrev llsI (l:List (List Loc2)):I:=.sl 1 l.length (l.map fun b=>[lcsI b])
abbrev olls (l:List (List Loc2)):Ob:=.arr 124 1 l.length (l.map fun b=>[lcsI b]) true
abbrev zcp (l:List XEx):I:=.sl 2 l.length (l.map xexI)
abbrev zg6 (l:List XEx):Ob:=.arr 126 2 l.length (l.map xexI) true
structure lcOk (m:Mdl) (og:List (List Sta)) (x:NLc):Prop where
 ex:∃(k k2:Nat) (c:Ins) (t:Tpl) (s:List Sta),nmIx (m.comps.map (·.name)) x.1=(k:Int)∧m.comps[k]? = some c∧nmIx (m.tpls.map (·.name)) c.tpl=(k2:Int)∧m.tpls[k2]? = some t∧zbL m c=some t∧t.locs.length≤1000000∧og[k]? = some s∧s.length≤100000
theorem zwm {l:List ByteArray} {s:ByteArray} {k:Nat} (h:nmIx l s=(k:Int)):fndI l s=(k:Int):=by
 unfold fndI;rw[h,if_neg (by omega)]
theorem zuh {m:Mdl} {og:List (List Sta)} {x:NLc} {k:Nat} {c:Ins} {t:Tpl} {s:List Sta} (h1:nmIx (m.comps.map (·.name)) x.1=(k:Int)) (h2:m.comps[k]? = some c) (h3:zbL m c=some t) (h4:og[k]? = some s) :
  chcR m og x=((k:Int),stAt (nmIx t.locs x.2) s 0):=by
 unfold chcR;simp only[zwm h1,Int.toNat_natCast,h2,h3];rw[List.getD_eq_getElem?_getD,h4];rfl
theorem zud (l:List Chc) (y:Chc) (n:Int):chsN (l++[y]) n=if chsN l n*(y.2.length:Int)<1048576 then chsN l n*(y.2.length:Int) else 1048576:=by
 induction l generalizing n with
 |nil=>rfl
 |cons x r ih=>simp only[List.cons_append,chsN];exact ih _
theorem zjK:∀(l:List Chc) {n:Int},0≤n→n≤1048576→0≤chsN l n∧chsN l n≤1048576
 |[],n,h,h2=>⟨h,h2⟩
 |y::r,n,h,h2=>by
  unfold chsN;have:0≤n*(y.2.length:Int):=Int.mul_nonneg h (by omega)
  split
  ·exact zjK r this (by omega)
  ·exact zjK r (by omega) (by omega)
def chsP:List Chc→Nat
 |[]=>1
 |y::r=>y.2.length*chsP r
theorem zfB:∀{l:List Chc},(l.any fun y=>y.2.isEmpty)=false→0<chsP l
 |[],_=>Nat.one_pos
 |y::r,h=>by
  simp only[List.any_cons,Bool.or_eq_false_iff] at h;have h1:0<y.2.length:=by
   cases hy:y.2 with
   |nil=>rw[hy] at h;simp at h
   |cons=>simp
  exact Nat.mul_pos h1 (zfB h.2)
theorem zoU:∀{l:List Chc} {n:Nat},(l.any fun y=>y.2.isEmpty)=false→1≤n→chsN l n≤32→n*chsP l≤32
 |[],n,_,_,h=>by simp only[chsN] at h;simp only[chsP];omega
 |y::r,n,h0,hn,h=>by
  have h0':=h0;simp only[List.any_cons,Bool.or_eq_false_iff] at h0;have h1:0<y.2.length:=by
   cases hy:y.2 with
   |nil=>rw[hy] at h0;simp at h0
   |cons=>simp
  unfold chsN at h
  split at h
  ·have h2:=zoU (n:=n*y.2.length) h0.2 (Nat.mul_pos hn h1) (by simpa using h);unfold chsP;rw[←Nat.mul_assoc];exact h2
  ·exfalso;have:∀(l:List Chc),(l.any fun y=>y.2.isEmpty)=false→∀k:Int,1048576≤k→1048576≤chsN l k:=by
    intro l
    induction l with
    |nil=>intro _ k hk;exact hk
    |cons z q ih=>
     intro hz k hk;simp only[List.any_cons,Bool.or_eq_false_iff] at hz;unfold chsN
     split
     ·rename_i hlt;exfalso;have:0<z.2.length:=by
       cases hy:z.2 with
       |nil=>rw[hy] at hz;simp at hz
       |cons=>simp
      have:k*1≤k*(z.2.length:Int):=Int.mul_le_mul_of_nonneg_left (by omega) (by omega);omega
     ·exact ih hz.2 _ (Int.le_refl _)
   have:=this r h0.2 1048576 (Int.le_refl _);omega
theorem zhK {l l':List Chc} (h:l.Perm l'):chsP l=chsP l':=by
 induction h with
 |nil=>rfl
 |cons x _ ih=>simp only[chsP,ih]
 |swap x y l=>simp only[chsP];rw[←Nat.mul_assoc,←Nat.mul_assoc,Nat.mul_comm x.2.length]
 |trans _ _ ih1 ih2=>exact ih1.trans ih2
theorem zfX (x:Chc):∀l,(zdK x l).Perm (x::l)
 |[]=>.refl _
 |y::r=>by
  unfold zdK
  split
  ·exact .refl _
  ·exact ((zfX x r).cons y).trans (.swap x y r)
theorem zcd (l:List Chc):(zbY l).Perm l:=by
 have:∀(r acc:List Chc),(r.foldl (fun acc x=>zdK x acc) acc).Perm (acc++r):=by
  intro r
  induction r with
  |nil=>intro acc;rw[List.append_nil];exact .refl _
  |cons x r ih=>
   intro acc;rw[List.foldl_cons];refine (ih _).trans ?_;refine ((zfX x acc).append_right r).trans ?_;exact List.perm_middle.symm
 exact this l []
theorem zuc (l:List Chc) (y:Chc) (all:List (List Loc2)):chsR (l++[y]) all=(chsR l all).flatMap fun b=>y.2.map fun s=>b++[(y.1,s)]:=by
 induction l generalizing all with
 |nil=>rfl
 |cons x r ih=>simp only[List.cons_append,chsR];exact ih _
theorem zet:∀(l:List Chc) (all:List (List Loc2)),(chsR l all).length=all.length*chsP l
 |[],all=>by simp[chsR,chsP]
 |y::r,all=>by
  unfold chsR chsP;rw[zet r];have:(all.flatMap fun b=>y.2.map fun s=>b++[(y.1,s)]).length=all.length*y.2.length:=by
   induction all with
   |nil=>simp
   |cons a q ih=>rw[List.flatMap_cons,List.length_append,List.length_map,ih,List.length_cons,Nat.add_mul];omega
  rw[this,Nat.mul_assoc]
theorem zlk {l:List Chc} (h:0<chsP l) (i:Nat):chsP (l.take i)≤chsP l:=by
 have:∀(a b:List Chc),chsP (a++b)=chsP a*chsP b:=by
  intro a
  induction a with
  |nil=>intro b;simp[chsP]
  |cons x r ih=>intro b;simp only[List.cons_append,chsP,ih,Nat.mul_assoc]
 have h2:=this (l.take i) (l.drop i);rw[List.take_append_drop] at h2;rw[h2] at h ⊢;exact Nat.le_mul_of_pos_right _ (Nat.pos_of_mul_pos_left h)
theorem zjJ:∀(l:List Chc) {all:List (List Loc2)} {k:Nat},(∀b∈all,b.length≤k)→∀b∈chsR l all,b.length≤k+l.length
 |[],all,k,h,b,hb=>h b hb
 |y::r,all,k,h,b,hb=>by
  unfold chsR at hb;have:=zjJ r (k:=k+1) (fun c hc=>by
   simp only[List.mem_flatMap,List.mem_map] at hc;obtain⟨a,ha,s,_,rfl⟩:=hc;have:=h a ha;simp;omega) b hb
  rw[List.length_cons];omega
theorem zko (nm:ByteArray) (b:List Loc2):∀(l:List (List Loc2)) (i:Nat),numX nm (l++[b]) i=numX nm l i++[⟨nm++⟨#[95]⟩++zcN ((i+l.length:Nat):Int),b⟩]
 |[],i=>rfl
 |a::r,i=>by
  simp only[List.cons_append,numX,zko nm b r (i+1),List.length_cons];rw[show i+1+r.length=i+(r.length+1) by omega]
theorem zgw (nm:ByteArray):∀(l:List (List Loc2)) (i:Nat),(numX nm l i).length=l.length
 |[],_=>rfl
 |a::r,i=>by simp[numX,zgw nm r]
theorem zvV (l:List Chc) (x:Chc):Ob.arr 304 2 (l.length+1) (l.map chcI++[chcI x]) true=ochs (l++[x]):=by simp
set_option maxHeartbeats 8000000 in
theorem ztN {g:Nat} (hg:ze2 g) {ty:TypeId} {fr:Nat×Nat} (O:List Heap) (m:Mdl) (x:NEx) (og:List (List Sta)) (most:Int) (hm:szOk m) (hl:x.locals.length≤12) (hlc:∀y∈x.locals,lcOk m og y) (hmost:most≤32) (hxn:x.name.size≤1000) :
  zbb g (ptab ty fr) Tryz.prog 137 [mdlD m,nexD x,.i (zeM og),ii most] O (.tup [.i (zcp (expX m og x most).1),ii (expX m og x most).2]) [] O:=by
 have hf1:=fun O s=>zeB O m 3 s hm;rw[show namK m 3=m.comps.map (·.name) from rfl] at hf1;obtain⟨xn,lcs⟩:=x;simp only at hl hlc hxn;generalize hR:expX m og ⟨xn,lcs⟩ most=R;unfold expX at hR;simp only at hR;have hlen:(lcs.map (chcR m og)).length=lcs.length:=List.length_map ..;generalize hL:lcs.map (chcR m og)=l at *;have h1:=zjK l (n:=1) (by decide) (by decide);refine zaZ [200067,17,30] Tk Tryz.func137 rfl Tryz.call137 Tryz.ntmps137 (Nat.le_of_ble_eq_true rfl) fun E hE=>?_;refine zai Tk Tryz.func137 ?_;refine g_wk (zbk 10 59 304 2 rfl rfl rfl) ?_;refine zad ?_;refine zag (fun i:Nat=>[(2,.i (zeM og)),(3,ii most),(4,.own 0 4 0 0),(5,.own 0 5 0 0),(10,.osl 0 59),(11,ii (chsN (l.take i) 1)),(29,.i (zkq lcs)),(30,ii lcs.length),(31,ii i)])
  (fun i=>[(4,.box (mdlC m)),(5,.box (nexC ⟨xn,lcs⟩)),(59,ochs (l.take i))]) (fun _=>O) 138
  (fun i=>i≤lcs.length) (fun i=>lcs.length-i) 0 (Nat.zero_le _) ⟨rfl,rfl,rfl,rfl,rfl,rfl,rfl,rfl,rfl,trivial⟩ rfl ⟨rfl,rfl,rfl,trivial⟩ rfl rfl ?_
 intro i hi ih;have hi:i≤lcs.length:=hi;refine zai Tk Tryz.func137 ?_;refine zaf Tk Tryz.func137 rfl (fun g1=>?_) (fun g1=>?_)
 ·have g1:i<lcs.length:=by simpa using g1
  have gs:(lcs.map nlcI)[(i:Int).toNat]? = some (nlcI lcs[i]):=zal (f:=nlcI) g1;obtain⟨k,k2,c,t,s,e1,e2,e3,e4,e5,e6,e7,e8⟩:=(hlc lcs[i] (List.getElem_mem g1)).ex;have hch:=zuh (x:=lcs[i]) e1 e2 e5 e7;have ht:l.take (i+1)=l.take i++[((k:Int),stAt (nmIx t.locs lcs[i].2) s 0)]:=by
   rw[List.take_succ_eq_append_getElem (by rw[hlen];exact g1)];congr 2;rw[←hch];subst hL;simp
  have hN:=zud (l.take i) ((k:Int),stAt (nmIx t.locs lcs[i].2) s 0) 1;rw[←ht] at hN;have hNb:=zjK (l.take i) (n:=1) (by decide) (by decide);have hf2:=fun O=>hf1 O lcs[i].1;rw[e1,zfs] at hf2;have hT:=fun O=>zgR O m k k2 c t hm e2 e3 e4;have hI:=fun O=>zou O t.locs lcs[i].2 (by simp only[zap];omega);have hA:=fun O=>zz9 O s (nmIx t.locs lcs[i].2) (by omega);have hsl:=zef (nmIx t.locs lcs[i].2) s 0;have gk:k<og.length:=(List.getElem?_eq_some_iff.1 e7).1;have gg:(og.map fun s=>[I.sl 2 s.length (s.map staI)])[(k:Int).toNat]? = some [I.sl 2 s.length (s.map staI)]:=by rw[Int.toNat_natCast,List.getElem?_map,e7];rfl
  have hl2:(l.take i).length=i:=by rw[List.length_take,hlen];omega
  have hj1:ii (IntKind.i64.wrap ((i:Int)+1))=ii ((i+1:Nat):Int):=congrArg ii (zav (n:=1000001) (by omega) (by decide));clear hch e1 e2 e3 e4 e5 e7 hf1 hlc hL;generalize stAt (nmIx t.locs lcs[i].2) s 0=S at *;generalize nmIx t.locs lcs[i].2=q at *;generalize chsN (l.take i) 1=N at *;generalize l.take i=L at *;generalize lcs[i]=y at *;obtain⟨cn,ln⟩:=y;simp only at hf2 hI hN;have hprod:0≤N*(S.length:Int)∧N*(S.length:Int)≤1048576*100000:=by
   refine⟨Int.mul_nonneg hNb.1 (by omega),?_⟩;exact Int.mul_le_mul hNb.2 (by omega) (by omega) (by decide)
  have hw:IntKind.i64.wrap (N*(S.length:Int))=N*(S.length:Int):=w64 (by omega) (by omega);have hmin:(if (1048576:Int)<IntKind.i64.wrap (N*(S.length:Int)) then (1048576:Int) else IntKind.i64.wrap (N*(S.length:Int)))=chsN (l.take (i+1)) 1:=by
   rw[hN,hw];generalize N*(S.length:Int)=P at *
   split<;>split<;>omega
  refine zah Tk Tryz.func137 (by exact⟨by omega,by show (i:Int)<(lcs.length:Int);omega⟩) ?_;refine zaq Tk Tryz.func137 (gs) ?_;refine zak Tk Tryz.func137 (hf2 _) rfl rfl rfl rfl rfl ?_;refine zat Tk Tryz.func137 zax rfl ?_;refine zar Tk (by exact⟨by omega,by show (k:Int)<(og.length:Int);omega⟩) ?_;refine zay Tk (gg) ?_;refine zaF Tk (fun _=>hT _) rfl rfl rfl ?_;refine zaF Tk (fun _=>hI _) rfl rfl rfl ?_;refine zaF Tk (fun _=>hA _) rfl rfl rfl ?_;refine zaA Tk Tryz.func137 (by kernel_rfl) ?_;refine zah Tk Tryz.func137 (by exact⟨by show (L.length+1)*32≤140737488355328;omega,by show L.length+1≤9223372036854775807;omega⟩) ?_;refine zad ?_;refine ih (i+1) _ _ g1 (by omega) ⟨rfl,rfl,rfl,rfl,rfl,congrArg ii hmin,rfl,rfl,hj1,trivial⟩ rfl ⟨rfl,rfl,?_,trivial⟩ rfl rfl;rw[ht];exact congrArg some (zvV L (k,S))
 have g1:lcs.length≤i:=by simpa using g1
 rw[List.take_of_length_le (by rw[hlen];exact g1)];rw[←hlen] at hl;clear ih hL hlc hf1 hi g1 hlen;have hany:=fun O=>zmr O l 177 (fun y=>decide (y.2.length=0)) (by simp only[zap];omega) fun y _=>zyc _ y;have hae:(l.any fun y=>decide (y.2.length=0))=l.any fun y=>y.2.isEmpty:=by
  congr 1;funext y
  cases y.2<;>rfl
 rw[hae] at hany;have hP:=fun h=>zfB (l:=l) h;have hNP:=fun h=>zoU (l:=l) (n:=1) h (Nat.le_refl _);generalize (l.any fun y=>y.2.isEmpty)=A at *;refine zb1 Tk Tryz.func137 rfl rfl rfl rfl (zbu (hany []) (zex _) (.osl (.f .nil)) rfl (show 67<138 by decide) rfl rfl) ?_;refine zaf Tk Tryz.func137 rfl (fun c1=>?_) (fun c1=>?_)
 ·have c1:A=true:=c1;rw[if_pos c1] at hR;subst hR;refine zaD Tk (r:=.tup [.i (.v (.slice none 0 0)),ii 0]) rfl rfl rfl trivial rfl rfl ?_
  repeat' (first|refine zbT ?_|refine zbB ?_|refine zcy ?_|refine CoDL.cons ?_ ?_|exact CoDL.nil|exact zbd|refine zcz ?_|refine CoLL.cons ?_ ?_|exact CoLL.nil|refine CoL.cons ?_ ?_|exact CoL.nil|exact CoI.refl _|exact CoL.refl _|exact CoLL.refl _|exact CoDL.refl _|exact CoD.refl _)
 have c1:A=false:=c1;rw[if_neg (zhd c1)] at hR;generalize hN:chsN l 1=N at *;refine zaf Tk Tryz.func137 rfl (fun c2=>?_) (fun c2=>?_)
 ·have c2:N>most:=of_decide_eq_true c2;rw[if_pos c2] at hR;subst hR;refine zaD Tk (r:=.tup [.i (.v (.slice none 0 0)),ii 3]) rfl rfl rfl trivial rfl rfl ?_
  repeat' (first|refine zbT ?_|refine zbB ?_|refine zcy ?_|refine CoDL.cons ?_ ?_|exact CoDL.nil|exact zbd|refine zcz ?_|refine CoLL.cons ?_ ?_|exact CoLL.nil|refine CoL.cons ?_ ?_|exact CoL.nil|exact CoI.refl _|exact CoL.refl _|exact CoLL.refl _|exact CoDL.refl _|exact CoD.refl _)
 have c2:¬N>most:=of_decide_eq_false c2;rw[if_neg c2] at hR;have hP:=hP c1;have hNP:=hNP c1 (by omega);rw[Nat.one_mul] at hNP;have hpm:=zcd l;rw[←zhK hpm] at hP hNP;have hsl:=zfc l;have h178:=fun O d ho=>zxI O d 59 l hl ho;refine zak Tk Tryz.func137 (h178 _ 0 rfl) rfl rfl rfl (zbe (ob:=ochs l) rfl (by simp[Ob.sh,hsl])) rfl ?_;rw[←hsl] at hl;clear hpm h178 hsl;generalize zbY l=sl at *;refine zaB ?_;refine zas (zao 59 rfl rfl) ?_;refine zas (znT 73 (ys:=[[lcsI []]]) rfl rfl rfl (by simp;rfl) fun K vs h=>?_) ?_
 ·have h:RepL K vs [.v (.slice none 0 0)]:=h;show RepL K vs [lcsI []]
  cases h with
  |cons h1 h=>
   cases h
   cases h1
   exact .cons .nil .nil
 refine zas (zao 73 rfl rfl) ?_;refine zai Tk Tryz.func137 ?_;refine g_go Tk Tryz.func137 ?_;refine zad ?_;refine zag (fun i:Nat=>[(5,.own 0 5 0 0),(17,.i (llsI (chsR (sl.take i) [[]]))),(74,.i (.sl 2 sl.length (sl.map chcI))),(75,ii sl.length),(76,ii i)])
  (fun i=>[(5,.box (nexC ⟨xn,lcs⟩))]) (fun _=>O) 138
  (fun i=>i≤sl.length) (fun i=>sl.length-i) 0 (Nat.zero_le _) ⟨rfl,rfl,rfl,rfl,rfl,trivial⟩ rfl ⟨rfl,trivial⟩ rfl rfl ?_
 intro i hi ih;have hi:i≤sl.length:=hi;refine zai Tk Tryz.func137 ?_;refine zaf Tk Tryz.func137 rfl (fun g1=>?_) (fun g1=>?_)
 ·have g1:i<sl.length:=by simpa using g1
  have gs:(sl.map chcI)[(i:Int).toNat]? = some (chcI sl[i]):=zal (f:=chcI) g1;have hs1:chsR (sl.take (i+1)) [[]]=(chsR (sl.take i) [[]]).flatMap fun b=>sl[i].2.map fun s=>b++[(sl[i].1,s)]:=by
   rw[List.take_succ_eq_append_getElem g1,zuc]
  have hlen1:(chsR (sl.take i) [[]]).length*sl[i].2.length≤32:=by
   have h2:=zet (sl.take (i+1)) [[]];have h3:=zlk hP (i+1);rw[hs1] at h2;have h4:((chsR (sl.take i) [[]]).flatMap fun b=>sl[i].2.map fun s=>b++[(sl[i].1,s)]).length=(chsR (sl.take i) [[]]).length*sl[i].2.length:=by
    generalize chsR (sl.take i) [[]]=Q
    induction Q with
    |nil=>simp
    |cons a q ihq=>rw[List.flatMap_cons,List.length_append,List.length_map,ihq,List.length_cons,Nat.add_mul];omega
   rw[h4] at h2;rw[h2];simp only[List.length_singleton,Nat.one_mul];omega
  have hmem:∀b∈chsR (sl.take i) [[]],b.length≤12:=by
   intro b hb;have:=zjJ (sl.take i) (all:=[[]]) (k:=0) (by simp) b hb;rw[List.length_take] at this;omega
  have hal:(chsR (sl.take i) [[]]).length≤32:=by
   have h2:=zet (sl.take i) [[]];have h3:=zlk hP i;rw[h2];simp only[List.length_singleton,Nat.one_mul];omega
  have hj1:ii (IntKind.i64.wrap ((i:Int)+1))=ii ((i+1:Nat):Int):=congrArg ii (zav (n:=1000001) (by omega) (by decide));generalize chsR (sl.take i) [[]]=all at *;generalize sl[i]=y at *;obtain⟨yc,st⟩:=y;simp only at hs1 hlen1;have hstl:all.length=0∨st.length≤32:=by
   rcases Nat.eq_zero_or_pos all.length with h|h
   ·exact .inl h
   ·right;exact Nat.le_trans (Nat.le_mul_of_pos_left _ h) hlen1
  refine zah Tk Tryz.func137 (by exact⟨by omega,by show (i:Int)<(sl.length:Int);omega⟩) ?_;refine zaq Tk Tryz.func137 (gs) ?_;refine g_wk (zbk 20 103 124 1 rfl rfl rfl) ?_;refine zad ?_;refine zag (fun j:Nat=>[(5,.own 0 5 0 0),(19,.own 0 19 0 0),(20,.osl 0 103),(74,.i (.sl 2 sl.length (sl.map chcI))),(75,ii sl.length),(76,ii i),(80,.i (llsI all)),(81,ii all.length),(82,ii j)])
   (fun j=>[(5,.box (nexC ⟨xn,lcs⟩)),(19,.box [ii yc,ints st]),(103,olls ((all.take j).flatMap fun b=>st.map fun s=>b++[(yc,s)]))]) (fun _=>O) 138
   (fun j=>j≤all.length) (fun j=>all.length-j) 0 (Nat.zero_le _) ⟨rfl,rfl,rfl,rfl,rfl,rfl,rfl,rfl,rfl,trivial⟩ rfl ⟨rfl,rfl,rfl,trivial⟩ rfl rfl ?_
  intro j hj ih2;have hj:j≤all.length:=hj;refine zai Tk Tryz.func137 ?_;refine zaf Tk Tryz.func137 rfl (fun g2=>?_) (fun g2=>?_)
  ·have g2:j<all.length:=by simpa using g2
   have gb:(all.map fun b=>[lcsI b])[(j:Int).toNat]? = some [lcsI all[j]]:=zal (f:=fun b=>[lcsI b]) g2;have hb12:=hmem all[j] (List.getElem_mem g2);have hs2:(all.take (j+1)).flatMap (fun b=>st.map fun s=>b++[(yc,s)])=((all.take j).flatMap fun b=>st.map fun s=>b++[(yc,s)])++st.map fun s=>all[j]++[(yc,s)]:=by
    rw[List.take_succ_eq_append_getElem g2,List.flatMap_append];simp
   have hacc:((all.take j).flatMap fun b=>st.map fun s=>b++[(yc,s)]).length=j*st.length:=by
    have:∀Q:List (List Loc2),(Q.flatMap fun b=>st.map fun s=>b++[(yc,s)]).length=Q.length*st.length:=by
     intro Q
     induction Q with
     |nil=>simp
     |cons a q ihq=>rw[List.flatMap_cons,List.length_append,List.length_map,ihq,List.length_cons,Nat.add_mul];omega
    rw[this,List.length_take,Nat.min_eq_left hj]
   have hj2:ii (IntKind.i64.wrap ((j:Int)+1))=ii ((j+1:Nat):Int):=congrArg ii (zav (n:=1000001) (by omega) (by decide));have hbd:j*st.length≤32:=Nat.le_trans (Nat.mul_le_mul_right _ (by omega)) hlen1;generalize ((all.take j).flatMap fun b=>st.map fun s=>b++[(yc,s)])=acc at *;generalize all[j]=b at *;refine zah Tk Tryz.func137 (by exact⟨by omega,by show (j:Int)<(all.length:Int);omega⟩) ?_;refine zaq Tk Tryz.func137 (gb) ?_;refine zad ?_;refine zag (fun k:Nat=>[(5,.own 0 5 0 0),(19,.own 0 19 0 0),(20,.osl 0 103),(22,.i (lcsI b)),(74,.i (.sl 2 sl.length (sl.map chcI))),(75,ii sl.length),(76,ii i),(80,.i (llsI all)),(81,ii all.length),(82,ii j),(87,ints st),(88,ii st.length),(89,ii k)])
    (fun k=>[(5,.box (nexC ⟨xn,lcs⟩)),(19,.box [ii yc,ints st]),(103,olls (acc++(st.take k).map fun s=>b++[(yc,s)]))]) (fun _=>O) 138
    (fun k=>k≤st.length) (fun k=>st.length-k) 0 (Nat.zero_le _) ⟨rfl,rfl,rfl,rfl,rfl,rfl,rfl,rfl,rfl,rfl,rfl,rfl,rfl,trivial⟩ rfl ⟨rfl,rfl,by show some (olls acc)=some (olls (acc++[]));rw[List.append_nil],trivial⟩ rfl rfl ?_
   intro k hk ih3;have hk:k≤st.length:=hk;refine zai Tk Tryz.func137 ?_;refine zaf Tk Tryz.func137 rfl (fun g3=>?_) (fun g3=>?_)
   ·have g3:k<st.length:=by simpa using g3
    have gk:(st.map fun x=>[vi x])[(k:Int).toNat]? = some [vi st[k]]:=zal (f:=fun x=>[vi x]) g3;have hs3:acc++(st.take (k+1)).map (fun s=>b++[(yc,s)])=(acc++(st.take k).map fun s=>b++[(yc,s)])++[b++[(yc,st[k])]]:=by
     rw[List.take_succ_eq_append_getElem g3,List.map_append,List.append_assoc];rfl
    have hll:(acc++(st.take k).map fun s=>b++[(yc,s)]).length≤64:=by
     rw[List.length_append,List.length_map,List.length_take];have:=hstl;omega
    have hk2:ii (IntKind.i64.wrap ((k:Int)+1))=ii ((k+1:Nat):Int):=congrArg ii (zav (n:=1000001) (by omega) (by decide));have hc:=fun O=>zwJ O b (by omega);generalize (acc++(st.take k).map fun s=>b++[(yc,s)])=A2 at *;generalize st[k]=s at *;refine zah Tk Tryz.func137 (by exact⟨by omega,by show (k:Int)<(st.length:Int);omega⟩) ?_;refine zaq Tk Tryz.func137 (gk) ?_;refine zat Tk Tryz.func137 zax rfl ?_;refine zaF Tk (fun _=>hc _) rfl rfl rfl ?_;refine zzf Tk ⟨[(101,.osl 0 101),(95,.dead)],[(101,.arr 131 2 (b.length+1) ((b.map zbq)++[[vi yc,vi s]]) true)],some 95⟩ rfl rfl ?_ ?_
    ·refine zeD Tk (by exact⟨by show (b.length+1)*16≤140737488355328;omega,by show b.length+1≤9223372036854775807;omega⟩) ?_;refine zmq Tk (p:=⟨[(101,.osl 0 101),(95,.dead)],[(101,.arr 131 2 (b.length+1) ((b.map zbq)++[[vi yc,vi s]]) true)],some 95⟩) rfl rfl rfl ?_;exact rfl
    refine zvy Tk ?_;refine zeD Tk (by exact⟨by show (A2.length+1)*24≤140737488355328;omega,by show A2.length+1≤9223372036854775807;omega⟩) ?_;refine zmq Tk (p:=⟨[(103,.osl 0 103),(93,.dead),(20,.dead)],[(103,.arr 124 1 (A2.length+1) ((A2.map fun b=>[lcsI b])++[[.sl 2 (b.length+1) ((b.map zbq)++[[vi yc,vi s]])]]) true)],some 103⟩) rfl rfl rfl ?_;refine zla Tk Tryz.func137 (by kernel_rfl) (GM.h ?_);refine zad ?_;refine ih3 (k+1) _ _ g3 (by omega) ⟨rfl,rfl,rfl,rfl,rfl,rfl,rfl,rfl,rfl,rfl,rfl,rfl,hk2,trivial⟩ rfl ⟨rfl,rfl,?_,trivial⟩ rfl rfl;rw[hs3];show some (Ob.arr 124 1 (A2.length+1) ((A2.map fun b=>[lcsI b])++[[.sl 2 (b.length+1) ((b.map zbq)++[[vi yc,vi s]])]]) true)=some (olls (A2++[b++[(yc,s)]]));simp
   ·have g3:st.length≤k:=by simpa using g3
    rw[List.take_of_length_le g3];refine zad ?_;refine ih2 (j+1) _ _ g2 (by omega) ⟨rfl,rfl,rfl,rfl,rfl,rfl,rfl,rfl,hj2,trivial⟩ rfl ⟨rfl,rfl,?_,trivial⟩ rfl rfl;rw[hs2];rfl
  ·have g2:all.length≤j:=by simpa using g2
   rw[List.take_of_length_le g2,←hs1];refine zaB ?_;refine zas (zao 103 rfl rfl) ?_;refine zai Tk Tryz.func137 ?_;refine g_go Tk Tryz.func137 ?_;refine zad ?_;exact ih (i+1) _ _ g1 (by omega) ⟨rfl,rfl,rfl,rfl,hj1,trivial⟩ rfl ⟨rfl,trivial⟩ rfl rfl
 have g1:sl.length≤i:=by simpa using g1
 rw[List.take_of_length_le g1];have hall:=zet sl [[]];rw[List.length_singleton,Nat.one_mul] at hall;clear ih g1 hi;generalize chsR sl [[]]=all at *
 by_cases h5:all.length=1
 ·obtain⟨one,rfl⟩:∃one,all=[one]:=by
   cases all with
   |nil=>simp at h5
   |cons a r=>cases r with
    |nil=>exact⟨a,rfl⟩
    |cons=>simp at h5
  simp only at hR;subst hR;refine gcT Tk Tryz.func137 rfl ?_;refine zat Tk Tryz.func137 zax rfl ?_;refine zar Tk (by exact⟨by decide,by show (0:Int)<1;decide⟩) ?_;refine zay Tk (rfl) ?_;refine zaA Tk Tryz.func137 (by kernel_rfl) ?_;refine zaj Tk (r:=.tup [.i (zcp [⟨xn,one⟩]),ii 0]) rfl rfl rfl trivial rfl rfl ?_;rfl
 ·have hR:(numX xn all 0,(0:Int))=R:=by
   rw[←hR]
   cases all with
   |nil=>rfl
   |cons a r=>cases r with
    |nil=>simp at h5
    |cons=>rfl
  subst hR;refine zaf Tk Tryz.func137 rfl (fun h6=>?_) (fun h6=>?_)
  ·exact absurd (beqT h6) (by omega)
  refine g_wk (zbk 25 135 126 2 rfl rfl rfl) ?_;refine zad ?_;refine zag (fun i:Nat=>[(5,.own 0 5 0 0),(25,.osl 0 135),(118,.i (llsI all)),(119,ii all.length),(120,ii i)])
   (fun i=>[(5,.box (nexC ⟨xn,lcs⟩)),(135,zg6 (numX xn (all.take i) 0))]) (fun _=>O) 138
   (fun i=>i≤all.length) (fun i=>all.length-i) 0 (Nat.zero_le _) ⟨rfl,rfl,rfl,rfl,rfl,trivial⟩ rfl ⟨rfl,rfl,trivial⟩ rfl rfl ?_
  intro i hi ih;have hi:i≤all.length:=hi;refine zai Tk Tryz.func137 ?_;refine zaf Tk Tryz.func137 rfl (fun g1=>?_) (fun g1=>?_)
  ·have g1:i<all.length:=by simpa using g1
   have gb:(all.map fun b=>[lcsI b])[(i:Int).toNat]? = some [lcsI all[i]]:=zal (f:=fun b=>[lcsI b]) g1;have hs:numX xn (all.take (i+1)) 0=numX xn (all.take i) 0++[⟨xn++⟨#[95]⟩++zcN (i:Int),all[i]⟩]:=by
    rw[List.take_succ_eq_append_getElem g1,zko,List.length_take,Nat.min_eq_left hi,Nat.zero_add]
   have hn:=zgw xn (all.take i) 0;rw[List.length_take] at hn;have hit:=fun O=>zkF hg (ty:=ty) (fr:=fr) O (i:Int) (by omega) (by omega);have hsz:=zcH (n:=(i:Int)) (by omega) (by omega);have hj1:ii (IntKind.i64.wrap ((i:Int)+1))=ii ((i+1:Nat):Int):=congrArg ii (zav (n:=1000001) (by omega) (by decide));generalize numX xn (all.take i) 0=X at *;generalize all[i]=b at *;generalize zcN (i:Int)=T at *;refine zah Tk Tryz.func137 (by exact⟨by omega,by show (i:Int)<(all.length:Int);omega⟩) ?_;refine zaq Tk Tryz.func137 (gb) ?_;refine zat Tk Tryz.func137 zax rfl ?_;refine zar Tk (by show xn.size+1≤9223372036854775807;omega) ?_;refine zdR Tk hE (hit _) rfl rfl rfl rfl ?_;refine zar Tk (by rw[ByteArray.size_append];show xn.size+1+T.size≤9223372036854775807;omega) ?_;refine zd8 Tk Tryz.func137 ([10,11]) (by kernel_rfl) (by kernel_rfl) ?_
   refine zah Tk Tryz.func137 (by exact⟨by show (X.length+1)*40≤140737488355328;omega,by show X.length+1≤9223372036854775807;omega⟩) ?_;refine zad ?_;refine ih (i+1) _ _ g1 (by omega) ⟨rfl,rfl,rfl,rfl,hj1,trivial⟩ rfl ⟨rfl,?_,trivial⟩ rfl rfl;rw[hs];show some (Ob.arr 126 2 (X.length+1) (X.map xexI++[xexI ⟨xn++⟨#[95]⟩++T,b⟩]) true)=_;simp[zg6]
  ·have g1:all.length≤i:=by simpa using g1
   rw[List.take_of_length_le g1];refine za3 (zao 135 rfl rfl) ?_;refine zaj Tk (r:=.tup [.i (zcp (numX xn all 0)),ii 0]) rfl rfl rfl trivial rfl rfl ?_;rfl
theorem zoF (m:Mdl) (og:List (List Sta)) (x:NEx) (most:Int) (hmost:most≤32):(expX m og x most).1.length≤40:=by
 unfold expX;simp only;generalize x.locals.map (chcR m og)=l
 cases hA:(l.any fun y=>y.2.isEmpty) with
 |true=>rw[if_pos rfl];simp
 |false=>
  rw[if_neg (by decide)]
  by_cases h:chsN l 1>most
  ·rw[if_pos h];simp
  ·rw[if_neg h];have h1:=zoU (l:=l) (n:=1) hA (Nat.le_refl _) (by show chsN l 1≤32;omega);rw[Nat.one_mul,←zhK (zcd l)] at h1;have h2:=zet (zbY l) [[]];rw[List.length_singleton,Nat.one_mul] at h2;generalize chsR (zbY l) [[]]=all at *
   cases all with
   |nil=>simp[numX]
   |cons a r=>cases r with
    |nil=>simp
    |cons b q=>
     show (numX x.name (a::b::q) 0).length≤40;rw[zgw];omega
def excX (m:Mdl) (og:List (List Sta)):List XEx×Plc×Int:=match zdm m og m.excs 0 [] [] with
 |.error (i,e)=>([],(5,(i:Int)),e)
 |.ok out=>(out,(0,0),0)
abbrev excD (r:List XEx×Plc×Int):D:=.tup [.i (zcp r.1),.agg [ii r.2.1.1,ii r.2.1.2],ii r.2.2]
theorem zyQ {a b c:Int}:CoD (.tup [.i (.v (.slice none 0 0)),.agg [ii a,ii b],ii c]) (excD ([],(a,b),c)):=by
 repeat' (first|refine zbT ?_|refine zbB ?_|refine zcy ?_|refine CoDL.cons ?_ ?_|exact CoDL.nil|exact zbd|refine zcz ?_|refine CoLL.cons ?_ ?_|exact CoLL.nil|refine CoL.cons ?_ ?_|exact CoL.nil|exact CoI.refl _|exact CoL.refl _|exact CoLL.refl _|exact CoDL.refl _|exact CoD.refl _)
theorem zsH (a b:List XEx):Ob.arr 126 2 (a.length+b.length) (a.map xexI++b.map xexI) true=zg6 (a++b):=by simp
theorem zlb (O:List Heap) (b:List ByteArray) (s:ByteArray) (hl:b.length≤1000000):zan Tryz.prog 124 [.i (.sl 1 b.length (b.map fun s=>[strI s])),.i (strI s)] O (bb (hasB b s)) [] O:=zcm O b s (by simp only[zap];omega)
theorem zk3 {g:Nat} (hg:ze2 g) {ty:TypeId} {fr:Nat×Nat} (O:List Heap) (m:Mdl) (og:List (List Sta)) (hm:szOk m) (hlen:m.excs.length≤32) (hx:∀x∈m.excs,x.locals.length≤12∧(∀y∈x.locals,lcOk m og y)∧x.name.size≤1000) :
  zbb g (ptab ty fr) Tryz.prog 56 [mdlD m,.i (zeM og)] O (excD (excX m og)) [] O:=by
 have he:=fun O x (h:x∈m.excs) most (h2:most≤32)=>ztN hg (ty:=ty) (fr:=fr) O m x og most hm (hx x h).1 (hx x h).2.1 h2 (hx x h).2.2;have hxl:=fun x most (h2:most≤32)=>zoF m og x most h2;unfold excX;generalize hK:zdm m og m.excs 0 [] []=K;clear hx;have hex:∀(x:NEx) (most:Int),∃l e,expX m og x most=(l,e):=fun x most=>⟨_,_,rfl⟩;have hun:∀x r i seen out,zdm m og (x::r) i seen out=if (expX m og x (32-(out.length:Int))).2≠0 then .error (i,(expX m og x (32-(out.length:Int))).2)
  else if (expX m og x (32-(out.length:Int))).1.any (fun y=>decide (y.name.size>32))=true then .error (i,7)
  else match dupX seen (expX m og x (32-(out.length:Int))).1 with
   |.error _=>.error (i,8)
   |.ok seen'=>zdm m og r (i+1) seen' (out++(expX m og x (32-(out.length:Int))).1):=fun x r i seen out=>rfl
 have hnil:∀i seen out,zdm m og [] i seen out=.ok out:=fun _ _ _=>rfl;generalize expX m og=fX at *;generalize zdm m og=fR at *;obtain⟨nm,evs,tpls,comps,reqs,l,cons⟩:=m;simp only at hlen he hK;refine zaZ [200050] Tk Tryz.func56 rfl Tryz.call56 Tryz.ntmps56 (Nat.le_of_ble_eq_true rfl) fun E hE=>?_;refine zai Tk Tryz.func56 ?_;refine g_wk (zbk 7 57 9 1 rfl rfl rfl) ?_;refine g_wk (zbk 4 61 126 2 rfl rfl rfl) ?_;refine zad ?_;refine zag (fun x:Nat×List ByteArray×List XEx=>[(1,.i (zeM og)),(2,.own 0 2 0 0),(4,.osl 0 61),(5,.own 0 5 0 0),(7,.osl 0 57),(15,.i (zjd l)),(16,ii l.length),(17,ii x.1)])
  (fun x=>[(2,.box (mdlC ⟨nm,evs,tpls,comps,reqs,l,cons⟩)),(5,plcN),(61,zg6 x.2.2),(57,oss x.2.1)]) (fun _=>O) 65
  (fun x=>x.1≤l.length∧x.2.1.length≤40*x.1∧x.2.2.length≤40*x.1∧fR (l.drop x.1) x.1 x.2.1 x.2.2=K) (fun x=>l.length-x.1) (0,[],[]) ⟨Nat.zero_le _,Nat.le_refl _,Nat.le_refl _,hK⟩ ⟨rfl,rfl,rfl,rfl,rfl,rfl,rfl,rfl,trivial⟩ rfl ⟨rfl,rfl,rfl,rfl,trivial⟩ rfl rfl ?_
 clear hK;rintro ⟨i,seen,out⟩ ⟨hi,hse,hou,hno⟩ ih;simp only at hi hse hou hno;refine zai Tk Tryz.func56 ?_;refine zaf Tk Tryz.func56 rfl (fun g1=>?_) (fun g1=>?_)
 ·have g1:i<l.length:=by simpa using g1
  have gs:(l.map nexI)[(i:Int).toNat]? = some (nexI l[i]):=zal (f:=nexI) g1;have hw:IntKind.i64.wrap (32-(out.length:Int))=32-(out.length:Int):=w64 (by omega) (by omega);have hc:=fun O=>he O l[i] (List.getElem_mem g1) (32-(out.length:Int)) (by omega);rw[←hw] at hc;have hX:=hxl l[i] (32-(out.length:Int)) (by omega);rw[List.drop_eq_getElem_cons g1,hun] at hno;have hj1:ii (IntKind.i64.wrap ((i:Int)+1))=ii ((i+1:Nat):Int):=congrArg ii (zav (n:=1000001) (by omega) (by decide));rw[←hw] at hno hX;clear he hxl hun;generalize l[i]=x at *;obtain⟨xl,xe,hx⟩:=hex x (IntKind.i64.wrap (32-(out.length:Int)));rw[hx] at hc hX hno;clear hx hex;obtain⟨xn,xlc⟩:=x;simp only at hc hX hno;have hany:=fun O=>zmu O xl 139 (fun y=>decide (y.name.size>32)) (by simp only[zap];omega) fun y _=>zys _ y;generalize (xl.any fun y=>decide (y.name.size>32))=A at *
  refine zah Tk Tryz.func56 (by exact⟨by omega,by show (i:Int)<(l.length:Int);omega⟩) ?_;refine zaq Tk Tryz.func56 (gs) ?_;refine zba Tk Tryz.func56 hE (hc _) rfl rfl rfl rfl rfl rfl ?_;refine zaf Tk Tryz.func56 rfl (fun c1=>?_) (fun c1=>?_)
  ·have c1:xe≠0:=bneT c1;rw[if_pos c1] at hno;subst hno;refine zaD Tk (r:=.tup [.i (.v (.slice none 0 0)),.agg [ii 5,ii i],ii xe]) rfl rfl rfl trivial rfl rfl ?_;exact zyQ
  have c1:¬xe≠0:=fun h=>h (bneF c1);rw[if_neg c1] at hno;refine zak Tk Tryz.func56 (hany _) rfl rfl rfl rfl rfl ?_;refine zaf Tk Tryz.func56 rfl (fun c2=>?_) (fun c2=>?_)
  ·have c2:A=true:=c2;rw[if_pos c2] at hno;subst hno;refine zaD Tk (r:=.tup [.i (.v (.slice none 0 0)),.agg [ii 5,ii i],ii 7]) rfl rfl rfl trivial rfl rfl ?_;exact zyQ
  have c2:¬A=true:=zhd c2;rw[if_neg c2] at hno;clear hc hany;generalize hD:dupX seen xl=Dp at hno;refine zad ?_;refine zag (fun x:Nat×List ByteArray=>[(1,.i (zeM og)),(2,.own 0 2 0 0),(4,.osl 0 61),(5,.own 0 5 0 0),(7,.osl 0 57),(8,ii i),(10,.i (zcp xl)),(15,.i (zjd l)),(16,ii l.length),(17,ii i),(41,.i (zcp xl)),(42,ii xl.length),(43,ii x.1)])
   (fun x=>[(2,.box (mdlC ⟨nm,evs,tpls,comps,reqs,l,cons⟩)),(5,plcN),(61,zg6 out),(57,oss x.2)]) (fun _=>O) 65
   (fun x=>x.1≤xl.length∧x.2.length=seen.length+x.1∧dupX x.2 (xl.drop x.1)=Dp) (fun x=>xl.length-x.1) (0,seen) ⟨Nat.zero_le _,rfl,hD⟩ ⟨rfl,rfl,rfl,rfl,rfl,rfl,rfl,rfl,rfl,rfl,rfl,rfl,rfl,trivial⟩ rfl ⟨rfl,rfl,rfl,rfl,trivial⟩ rfl rfl ?_
  clear hD;rintro ⟨k,sk⟩ ⟨hk,hskl,hdk⟩ ih2;simp only at hk hskl hdk;refine zai Tk Tryz.func56 ?_;refine zaf Tk Tryz.func56 rfl (fun g2=>?_) (fun g2=>?_)
  ·have g2:k<xl.length:=by simpa using g2
   have gk:(xl.map xexI)[(k:Int).toNat]? = some (xexI xl[k]):=zal (f:=xexI) g2;have hk1:ii (IntKind.i64.wrap ((k:Int)+1))=ii ((k+1:Nat):Int):=congrArg ii (zav (n:=1000001) (by omega) (by decide));rw[List.drop_eq_getElem_cons g2] at hdk;simp only[dupX] at hdk;generalize xl[k]=y at *;obtain⟨yn,yl⟩:=y;simp only at hdk;have hh:=zlb [] sk yn (by omega);generalize hasB sk yn=hb at *;refine zah Tk Tryz.func56 (by exact⟨by omega,by show (k:Int)<(xl.length:Int);omega⟩) ?_;refine zaq Tk Tryz.func56 (gk) ?_;refine zb1 Tk Tryz.func56 rfl rfl rfl rfl (zbu hh (zex _) (.osl (.i .nil)) rfl (show 50<65 by decide) rfl rfl) ?_;refine zaf Tk Tryz.func56 rfl (fun c3=>?_) (fun c3=>?_)
   ·have c3:hb=true:=c3;rw[if_pos c3] at hdk;subst hdk;simp only at hno;subst hno;refine zaD Tk (r:=.tup [.i (.v (.slice none 0 0)),.agg [ii 5,ii i],ii 8]) rfl rfl rfl trivial rfl rfl ?_;exact zyQ
   have c3:¬hb=true:=zhd c3;rw[if_neg c3] at hdk;refine zah Tk Tryz.func56 (by exact⟨by show (sk.length+1)*16≤140737488355328;omega,by show sk.length+1≤9223372036854775807;omega⟩) ?_;refine zad ?_;exact ih2 (k+1,sk++[yn]) _ _ ⟨g2,by simp only[List.length_append,List.length_singleton];omega,hdk⟩ (by simp only;omega) ⟨rfl,rfl,rfl,rfl,rfl,rfl,rfl,rfl,rfl,rfl,rfl,rfl,hk1,trivial⟩ rfl ⟨rfl,rfl,rfl,congrArg some (za8 sk yn),trivial⟩ rfl rfl
  ·have g2:xl.length≤k:=by simpa using g2
   rw[List.drop_eq_nil_of_le g2] at hdk;have hdk:Except.ok sk=Dp:=hdk;subst hdk;simp only at hno;refine zah Tk Tryz.func56 (by exact⟨by show (out.length+xl.length)*40≤140737488355328;omega,by show out.length+xl.length≤9223372036854775807;omega⟩) ?_;refine zad ?_;exact ih (i+1,sk,out++xl) _ _ ⟨g1,by simp only;omega,by simp only[List.length_append];omega,hno⟩ (by simp only;omega) ⟨rfl,rfl,rfl,rfl,rfl,rfl,rfl,hj1,trivial⟩ rfl ⟨rfl,rfl,congrArg some (zsH out xl),rfl,trivial⟩ rfl rfl
 ·have g1:l.length≤i:=by simpa using g1
  rw[List.drop_eq_nil_of_le g1,hnil] at hno;subst hno;refine za3 (zao 61 rfl rfl) ?_;refine zaj Tk (r:=excD (out,(0,0),0)) rfl rfl rfl trivial rfl rfl ?_;rfl
end Go.AI
namespace Go.AI
open Go.Proofs
section
variable {σ:Type} {eq:σ→σ→Bool} {step:σ→Int→σ×Bool×Int} {mkd:σ→Bool}
theorem zqa {lim:Bool} {i:Nat} {s:σ} {ev:Int} {U:Unf σ} {e:Int} (h:zdL eq lim step i s ev U=.error e):e≠0:=by
 unfold zdL at h
 by_cases h1:(step s ev).2.2≠0
 ·rw[if_pos h1] at h;cases h;exact h1
 rw[if_neg h1] at h
 by_cases h2:(step s ev).2.1=false
 ·rw[if_pos h2] at h;cases h
 rw[if_neg h2] at h
 by_cases h3:U.sts.findIdx (eq (step s ev).1)<U.sts.length
 ·rw[if_pos h3] at h;cases h
 rw[if_neg h3] at h
 by_cases h4:lim=true∧U.sts.length=4096
 ·rw[if_pos h4] at h;cases h;decide
 rw[if_neg h4] at h;cases h
theorem zgN {lim:Bool} {i:Nat} {s:σ} {e:Int}:∀{l:List Int} {U:Unf σ},zbo eq lim step i s l U=.error e→e≠0
 |[],_,h=>by cases h
 |ev::r,U,h=>by
  simp only[zbo] at h
  cases hv:zdL eq lim step i s ev U with
  |error e'=>rw[hv] at h;cases h;exact zqa hv
  |ok U'=>rw[hv] at h;exact zgN h
theorem zj0 {lim:Bool} {alpha:List Int} {e:Int}:∀{f i:Nat} {U:Unf σ},ze7 eq lim step mkd alpha f i U=.error e→e≠0
 |0,_,_,h=>by cases h
 |f+1,i,U,h=>by
  simp only[ze7] at h
  cases hg:U.sts[i]? with
  |none=>rw[hg] at h;cases h
  |some s=>
   rw[hg] at h;simp only at h
   cases hv:zbo eq lim step i s alpha (ze6 mkd i s U) with
   |error e'=>rw[hv] at h;cases h;exact zgN hv
   |ok U'=>rw[hv] at h;exact zj0 h
theorem zp9 {i:Nat} {s:σ} {ev:Int} {U V:Unf σ} (h:zdL eq true step i s ev U=.ok V) (hU:U.sts.length≤4096):V.sts.length≤4096:=by
 unfold zdL at h
 by_cases h1:(step s ev).2.2≠0
 ·rw[if_pos h1] at h;cases h
 rw[if_neg h1] at h
 by_cases h2:(step s ev).2.1=false
 ·rw[if_pos h2] at h;cases h;exact hU
 rw[if_neg h2] at h
 by_cases h3:U.sts.findIdx (eq (step s ev).1)<U.sts.length
 ·rw[if_pos h3] at h;cases h;exact hU
 rw[if_neg h3] at h
 by_cases h4:true=true∧U.sts.length=4096
 ·rw[if_pos h4] at h;cases h
 rw[if_neg h4] at h
 cases h
 have:U.sts.length≠4096:=fun e=>h4 ⟨rfl,e⟩;simp only[List.length_append,List.length_singleton];omega
theorem zgM {i:Nat} {s:σ} {V:Unf σ}:∀{l:List Int} {U:Unf σ},zbo eq true step i s l U=.ok V→U.sts.length≤4096→V.sts.length≤4096
 |[],_,h,hU=>by cases h;exact hU
 |ev::r,U,h,hU=>by
  simp only[zbo] at h
  cases hv:zdL eq true step i s ev U with
  |error e'=>rw[hv] at h;cases h
  |ok U'=>rw[hv] at h;exact zgM h (zp9 hv hU)
theorem zjZ {alpha:List Int} {V:Unf σ}:∀{f i:Nat} {U:Unf σ},ze7 eq true step mkd alpha f i U=.ok V→U.sts.length≤4096→V.sts.length≤4096
 |0,_,_,h,hU=>by cases h;exact hU
 |f+1,i,U,h,hU=>by
  simp only[ze7] at h
  cases hg:U.sts[i]? with
  |none=>rw[hg] at h;cases h;exact hU
  |some s=>
   rw[hg] at h;simp only at h
   cases hv:zbo eq true step i s alpha (ze6 mkd i s U) with
   |error e'=>rw[hv] at h;cases h
   |ok U'=>rw[hv] at h;exact zjZ h (zgM hv (by rw[(zgQ mkd i s U).1];exact hU))
end
theorem zdr {m:Ext} {e:Int} (h:zbz m=.error e):e≠0:=by
 unfold zbz at h
 by_cases h1:chk m≠0
 ·rw[if_pos h1] at h;cases h;exact h1
 ·rw[if_neg h1] at h;exact zj0 h
theorem zgP {m:Ext} {U:Unf Sta} (h:zbz m=.ok U):U.sts.length≤4096:=by
 unfold zbz at h
 by_cases h1:chk m≠0
 ·rw[if_pos h1] at h;cases h
 ·rw[if_neg h1] at h;exact zjZ h (by simp[unf0])
theorem zem {α:Type} [DecidableEq α]:∀{l m:List α},l.Nodup→(∀x∈l,x∈m)→l.length≤m.length
 |[],_,_,_=>Nat.zero_le _
 |x::r,m,hn,hs=>by
  obtain⟨h1,h2⟩:=List.nodup_cons.1 hn;have hx:=hs x (by simp);have h3:=zem (m:=m.erase x) h2 fun y hy=>(List.mem_erase_of_ne (fun e=>h1 (by rw[←e];exact hy))).2 (hs y (by simp[hy]));rw[List.length_erase_of_mem hx] at h3;have:=List.length_pos_of_mem hx;rw[List.length_cons];omega
theorem zfo {l:List ByteArray} {s:ByteArray}:hasB l s=true↔s∈l:=by
 unfold hasB;rw[List.any_eq_true];constructor
 ·rintro ⟨x,hx,he⟩;rw[zbP] at he;subst he;exact hx
 ·exact fun h=>⟨s,h,zbP.2 rfl⟩
theorem zjs {l:List ByteArray} {s:ByteArray} (h:¬hasB l s=true):s ∉ l:=fun h2=>h (zfo.2 h2)
theorem zfg {s:ByteArray} (h:zaT s=true):s.size≤32:=by
 unfold zaT at h;simp only[Bool.and_eq_true,decide_eq_true_eq] at h;exact h.2
theorem zw1 {b:List ByteArray} {s:ByteArray} (h:nmE b s=0):zaT s=true∧s ∉ b:=by
 unfold nmE at h
 by_cases h1:zaT s=false
 ·rw[if_pos h1] at h;cases h
 rw[if_neg h1] at h
 by_cases h2:hasB b s=true
 ·rw[if_pos h2] at h;cases h
 exact⟨by simpa using h1,zjs h2⟩
theorem zfA {α:Type} {nm:α→ByteArray} {err:α→Int}:∀{l:List α} {b:List ByteArray} {i:Nat},za6 nm err b l i=none→(∀x∈l,zaT (nm x)=true∧nm x ∉ b)∧(l.map nm).Nodup
 |[],_,_,_=>⟨by simp,by simp⟩
 |y::r,b,i,h=>by
  simp only[za6] at h
  by_cases h1:nmE b (nm y)≠0
  ·rw[if_pos h1] at h;cases h
  rw[if_neg h1] at h
  by_cases h2:err y≠0
  ·rw[if_pos h2] at h;cases h
  rw[if_neg h2] at h;obtain⟨h3,h4⟩:=zfA h;have h1:=zw1 (Classical.byContradiction h1);refine⟨fun x hx=>?_,?_⟩
  ·rcases List.mem_cons.1 hx with rfl|hx
   ·exact h1
   ·exact⟨(h3 x hx).1,fun hb=>(h3 x hx).2 (by simp[hb])⟩
  ·rw[List.map_cons,List.nodup_cons];refine⟨fun hm=>?_,h4⟩;obtain⟨x,hx,e⟩:=List.mem_map.1 hm;exact (h3 x hx).2 (by rw[e];simp)
theorem zlX {m:Mdl}:∀{l:List NLc} {b:List ByteArray},lcsE m b l=0→(∀y∈l,y.1 ∉ b∧∃c t,m.comps.find? (fun c=>sB c.name y.1)=some c∧zbL m c=some t∧y.2∈t.locs)∧(l.map (·.1)).Nodup
 |[],_,_=>⟨by simp,by simp⟩
 |y::r,b,h=>by
  simp only[lcsE] at h
  cases h1:m.comps.find? (fun c=>sB c.name y.1) with
  |none=>rw[h1] at h;cases h
  |some c=>
   rw[h1] at h;simp only at h
   by_cases h2:hasB b y.1=true
   ·rw[if_pos h2] at h;cases h
   rw[if_neg h2] at h
   cases h3:zbL m c with
   |none=>rw[h3] at h;cases h
   |some t=>
    rw[h3] at h;simp only at h
    by_cases h5:hasB t.locs y.2=false
    ·rw[if_pos h5] at h;cases h
    rw[if_neg h5] at h;obtain⟨h6,h7⟩:=zlX h;refine⟨fun x hx=>?_,?_⟩
    ·rcases List.mem_cons.1 hx with rfl|hx
     ·exact⟨zjs h2,c,t,h1,h3,zfo.1 (by simpa using h5)⟩
     ·exact⟨fun hb=>(h6 x hx).1 (by simp[hb]),(h6 x hx).2⟩
    ·rw[List.map_cons,List.nodup_cons];refine⟨fun hm=>?_,h7⟩;obtain⟨x,hx,e⟩:=List.mem_map.1 hm;exact (h6 x hx).1 (by rw[e];simp)
theorem zlC {m:Mdl}:∀{l:List NTm} {b:List ByteArray},tmsE m b l=0→(∀y∈l,y.1 ∉ b∧y.1∈m.comps.map (·.name))∧(l.map (·.1)).Nodup
 |[],_,_=>⟨by simp,by simp⟩
 |y::r,b,h=>by
  simp only[tmsE] at h
  by_cases h1:hasB (m.comps.map (·.name)) y.1=false
  ·rw[if_pos h1] at h;cases h
  rw[if_neg h1] at h
  by_cases h2:hasB b y.1=true
  ·rw[if_pos h2] at h;cases h
  rw[if_neg h2] at h
  by_cases h3:y.2=0∨bigB y.2=true
  ·rw[if_pos h3] at h;cases h
  rw[if_neg h3] at h;obtain⟨h6,h7⟩:=zlC h;refine⟨fun x hx=>?_,?_⟩
  ·rcases List.mem_cons.1 hx with rfl|hx
   ·exact⟨zjs h2,zfo.1 (by simpa using h1)⟩
   ·exact⟨fun hb=>(h6 x hx).1 (by simp[hb]),(h6 x hx).2⟩
  ·rw[List.map_cons,List.nodup_cons];refine⟨fun hm=>?_,h7⟩;obtain⟨x,hx,e⟩:=List.mem_map.1 hm;exact (h6 x hx).1 (by rw[e];simp)
theorem zf7 {m:Mdl} (h:(chkC m).2=0):m.excs.length≤32∧za6 NEx.name (excE m) [] m.excs 0=none∧m.cons.length≤32∧za6 NCn.name (conE m) [] m.cons 0=none:=by
 unfold chkC at h
 by_cases h2:m.excs.length>32
 ·rw[if_pos h2] at h;simp at h
 rw[if_neg h2] at h;obtain⟨h4,h5⟩:=zez (fun _ _ h=>zbD h) h;rw[h5] at h
 by_cases h3:m.cons.length>32
 ·rw[if_pos h3] at h;simp at h
 rw[if_neg h3] at h;exact⟨by omega,h4,by omega,(zez (fun _ _ h=>zbD h) h).1⟩
theorem zgG {m:Mdl} (h:(chkI m).2=0):m.comps.length≤8∧0<m.comps.length∧m.comps.length+m.reqs.length≤12:=by
 unfold chkI at h
 by_cases h2:m.comps.length=0
 ·rw[if_pos h2] at h;simp at h
 rw[if_neg h2] at h
 by_cases h3:m.comps.length>8
 ·rw[if_pos h3] at h;simp at h
 rw[if_neg h3] at h
 by_cases h4:m.comps.length+m.reqs.length>12
 ·rw[if_pos h4] at h;simp at h
 omega
theorem zk1 {m:Mdl} {s:ByteArray} {c:Ins} (h:m.comps.find? (fun c=>sB c.name s)=some c):s∈m.comps.map (·.name):=by
 have h1:=List.find?_some h;rw[zbP] at h1;rw[←h1];exact List.mem_map.2 ⟨c,List.mem_of_find?_eq_some h,rfl⟩
theorem zyI {m:Mdl} (hm:mdlOk m) (h:(mdlE m).2=0) {og:List (List Sta)} (hog:og.length=m.comps.length) (hs:∀s∈og,s.length≤100000):m.excs.length≤32∧∀x∈m.excs,x.locals.length≤12∧(∀y∈x.locals,lcOk m og y)∧x.name.size≤1000:=by
 obtain⟨_,_,_,h4,h5,_⟩:=zcG h;obtain⟨c1,c2,_⟩:=zf7 h5;obtain⟨d1,_⟩:=zgG h4;refine⟨c1,fun x hx=>?_⟩;have hn:=zfg ((zfA c2).1 x hx).1;have he:=zc1 c2 x hx;unfold excE at he
 by_cases h6:x.locals.length=0
 ·rw[if_pos h6] at he;cases he
 rw[if_neg h6] at he;obtain⟨e1,e2⟩:=zlX he;refine⟨?_,fun y hy=>?_,by omega⟩
 ·have:=zem (m:=m.comps.map (·.name)) e2 fun s hs=>by
   obtain⟨y,hy,rfl⟩:=List.mem_map.1 hs;obtain⟨_,c,t,h7,_⟩:=e1 y hy;exact zk1 h7
  rw[List.length_map,List.length_map] at this;omega
 ·obtain⟨_,c,t,h7,h8,_⟩:=e1 y hy;rcases zdG Ins.name m.comps y.1 with ⟨f1,_⟩|⟨k,c',f1,f2,f3⟩
  ·rw[f1] at h7;cases h7
  rw[f2] at h7
  cases h7
  have h8':=h8;unfold zbL at h8';rcases zdG Tpl.name m.tpls c.tpl with ⟨g1,_⟩|⟨k2,t',g1,g2,g3⟩
  ·rw[g1] at h8';cases h8'
  rw[g2] at h8'
  cases h8'
  have hk:k<og.length:=by rw[hog];exact (List.getElem?_eq_some_iff.1 f1).1
  exact⟨k,k2,c,t,og[k],f3,f1,g3,g1,h8,(hm.tpk t (List.mem_of_getElem? g1)).ll,List.getElem?_eq_getElem hk,hs _ (List.getElem_mem hk)⟩
theorem zt4 {m:Mdl} (h:(mdlE m).2=0):m.cons.length≤32∧∀x∈m.cons,x.terms.length≤12:=by
 obtain⟨_,_,_,h4,h5,_⟩:=zcG h;obtain⟨_,_,c3,c4⟩:=zf7 h5;obtain⟨d1,_⟩:=zgG h4;refine⟨c3,fun x hx=>?_⟩;have he:=zc1 c4 x hx;unfold conE at he
 by_cases h6:x.terms.length=0
 ·omega
 rw[if_neg h6] at he
 by_cases h7:tmsE m [] x.terms≠0
 ·rw[if_pos h7] at he;exact absurd he h7
 obtain⟨e1,e2⟩:=zlC (Classical.byContradiction h7);have:=zem (m:=m.comps.map (·.name)) e2 fun s hs=>by
  obtain⟨y,hy,rfl⟩:=List.mem_map.1 hs;exact (e1 y hy).2
 rw[List.length_map,List.length_map] at this;omega
theorem zsi {x:Mv} {l:List Mv}:x∈zdH l↔x∈l:=by
 have hi:∀(y:Mv) (l:List Mv),x∈zcO y l↔x=y∨x∈l:=by
  intro y l
  induction l with
  |nil=>simp[zcO]
  |cons z r ih=>
   unfold zcO
   split
   ·simp
   ·simp only[List.mem_cons,ih];constructor
    ·rintro (h|h|h)
     ·exact .inr (.inl h)
     ·exact .inl h
     ·exact .inr (.inr h)
    ·rintro (h|h|h)
     ·exact .inr (.inl h)
     ·exact .inl h
     ·exact .inr (.inr h)
 have:∀(r acc:List Mv),x∈r.foldl (fun acc x=>zcO x acc) acc↔x∈acc∨x∈r:=by
  intro r
  induction r with
  |nil=>simp
  |cons y r ih=>
   intro acc;rw[List.foldl_cons,ih,hi,List.mem_cons];constructor
   ·rintro ((h|h)|h)
    ·exact .inr (.inl h)
    ·exact .inl h
    ·exact .inr (.inr h)
   ·rintro (h|h|h)
    ·exact .inl (.inr h)
    ·exact .inl (.inl h)
    ·exact .inr h
 unfold zdH;rw[this];simp
theorem zlW {m:Mdl} (hm:mdlOk m) {x:Ins} {t:Tpl} (hx:x.evs.length≤1000000) (h:mchOk m x t):extOk (mchE m x t):=by
 have ho:=(hm.tpk t h.mem).mo;refine⟨?_,ho.ma,ho.va,ho.na,?_,?_⟩
 ·show (srtZ _).length≤zap;rw[(zcK _).length_eq,List.length_map];simp only[zap];omega
 ·show (zdH _).length≤zap;rw[zfb,List.length_map];exact ho.mo
 ·intro y hy;have hy:y∈zdH _:=hy;rw[zsi] at hy;obtain⟨z,hz,rfl⟩:=List.mem_map.1 hy;exact ho.mv z hz
end Go.AI
namespace Go.AI
open Go.Proofs
set_option maxRecDepth 20000
abbrev olTm (l:List Loc2):Ob:=.arr 160 2 l.length (l.map zbq) true
def zt8 (x y:Loc2):Int:=cmpI x.1 y.1
abbrev ltTm (x y:Loc2):Prop:=x.1<y.1
theorem zwG {x y:Loc2}:zt8 x y<0↔ltTm x y:=by
 unfold zt8 cmpI ltTm
 by_cases h1:x.1<y.1
 ·rw[if_pos h1];exact⟨fun _=>h1,fun _=>by decide⟩
 rw[if_neg h1]
 by_cases h2:x.1>y.1
 ·rw[if_pos h2];exact⟨fun h=>absurd h (by decide),fun h=>absurd h h1⟩
 ·rw[if_neg h2];exact⟨fun h=>absurd h (by decide),fun h=>absurd h h1⟩
abbrev zdQ (l:List Loc2):List Loc2:=l.foldl (fun acc x=>zc7 x acc) []
abbrev zlt (l:List Loc2):Prop:=l.Pairwise fun x y=>¬ltTm y x
theorem zeS {x:Loc2}:∀{P S:List Loc2},(∀p∈P,¬ltTm x p)→(∀s∈S,ltTm x s)→zc7 x (P++S)=P++x::S
 |[],[],_,_=>rfl
 |[],s::r,_,h=>by
  have:=h s (by simp);simp only[List.nil_append,zc7];rw[if_pos this]
 |p::P,S,h,h2=>by
  have:=h p (by simp);simp only[List.cons_append,zc7];rw[if_neg this,zeS (fun q hq=>h q (by simp[hq])) h2]
theorem zj6 {x:Loc2} {P S:List Loc2} (h:zlt (P++S)) (hp:∀p∈P,¬ltTm x p) (hs:∀s∈S,ltTm x s):zlt (P++x::S):=by
 obtain⟨h1,h2,h3⟩:=List.pairwise_append.1 h;refine List.pairwise_append.2 ⟨h1,List.pairwise_cons.2 ⟨fun s hs'=>?_,h2⟩,fun a ha b hb=>?_⟩
 ·have:=hs s hs';unfold ltTm at *;omega
 ·rcases List.mem_cons.1 hb with rfl|hb
  ·exact hp a ha
  ·exact h3 a ha b hb
theorem zwW:∀(P:List Loc2) (p x:Loc2) (T:List Loc2),(((P++p::x::T).map zbq).set (P.length+1) (zbq p)).set P.length (zbq x)=(P++x::p::T).map zbq
 |[],p,x,T=>rfl
 |q::P,p,x,T=>by
  have:=zwW P p x T;simp only[List.cons_append,List.map_cons,List.length_cons,List.set_cons_succ,this]
theorem zy9 (P:List Loc2):P=[]∨∃Q p,P=Q++[p]:=by
 by_cases h:P=[]
 ·exact .inl h
 ·exact .inr ⟨P.dropLast,P.getLast h,(List.dropLast_concat_getLast h).symm⟩
theorem zql (A:List Loc2) (x:Loc2):zdQ (A++[x])=zc7 x (zdQ A):=by simp[zdQ,List.foldl_append]
theorem zzs (O:List Heap) (x y:Loc2):zan Tryz.prog 58 [.agg [ii x.1,ii x.2],.agg [ii y.1,ii y.2]] O (ii (zt8 x y)) [] O:=by
 have h1:=fun O=>zoO O x.1 y.1;unfold zt8;generalize cmpI x.1 y.1=a at *;refine zaa Tk Tryz.func58 rfl Tryz.call58 Tryz.ntmps58 (Nat.le_of_ble_eq_true rfl) fun E=>?_;refine zai Tk Tryz.func58 ?_;refine zak Tk Tryz.func58 (h1 _) rfl rfl rfl rfl rfl ?_;refine zaj Tk (r:=ii a) rfl rfl rfl trivial rfl rfl ?_;rfl
abbrev fn58:D:=.fn (.func 58) [] []
theorem zzD {A:List Loc2} {x:Loc2} {T:List Loc2} {k:Nat} (hk:k=A.length):((A++x::T).map zbq)[((k:Nat):Int).toNat]? = some (zbq x):=by
 subst hk;simp
set_option maxHeartbeats 8000000 in
theorem zzA (O:List Heap) (d nm:Nat) (l:List Loc2) (hl:l.length≤1000) (ho:zab O d nm=some (olTm l)):zan Tryz.prog 182 [.osl d nm,ii 0,ii l.length,fn58] O (.tup []) [] (setAt O d nm (olTm (zdQ l))):=by
 have hc:=fun O x y=>zzs O x y
 cases l with
 |nil=>
  refine zaa Tk Tryz.func182 rfl Tryz.call182 Tryz.ntmps182 (Nat.le_of_ble_eq_true rfl) fun E=>?_;refine zai Tk Tryz.func182 ?_;refine zad ?_;refine zai Tk Tryz.func182 ?_;refine gcF Tk Tryz.func182 rfl ?_;refine za3 (wk_S (S':=_::setAt O d nm (olTm [])) (zaJ (zbl ho))) ?_;refine zaj Tk (r:=.tup []) rfl rfl rfl trivial rfl rfl ?_;rfl
 |cons z r=>
 generalize hL:z::r=l at *;have hpos:1≤l.length:=by rw[←hL];simp
 refine zaa Tk Tryz.func182 rfl Tryz.call182 Tryz.ntmps182 (Nat.le_of_ble_eq_true rfl) fun E=>?_;refine zai Tk Tryz.func182 ?_;refine g_wk (wk_S (S':=_::setAt O d nm (olTm ([z]++r))) (zaJ (zbl (by rw[ho,←hL];rfl)))) ?_;refine zad ?_;refine zag (fun x:List Loc2×List Loc2=>[(0,.osl (d+1) nm),(1,ii 0),(2,ii l.length),(3,fn58),(8,ii x.1.length)]) (fun _=>[]) (fun x=>setAt O d nm (olTm (x.1++x.2))) 53
  (fun x=>zlt x.1∧(∃T,T++x.2=l∧zdQ T=x.1)∧x.1.length+x.2.length=l.length) (fun x=>x.2.length) ([z],r) ⟨List.pairwise_singleton _ _,⟨[z],hL,rfl⟩,by rw[←hL];simp;omega⟩ ⟨rfl,rfl,rfl,rfl,rfl,trivial⟩ rfl trivial rfl rfl ?_
 rintro ⟨A,R⟩ ⟨hA,hp,hlen⟩ ih;simp only at hA hp hlen;refine zai Tk Tryz.func182 ?_;refine zaf Tk Tryz.func182 rfl (fun g1=>?_) (fun g1=>?_)
 ·have g1:A.length<l.length:=by simpa using g1
  obtain⟨x,R',rfl⟩:∃x R',R=x::R':=by
   cases R with
   |nil=>simp at hlen;omega
   |cons x R'=>exact⟨x,R',rfl⟩
  obtain⟨T,hT,hTA⟩:=hp;have hTn:(T++[x])++R'=l:=by rw[←hT];simp
  have hTs:zdQ (T++[x])=zc7 x A:=by rw[zql,hTA]
  rw[List.length_cons] at hlen;refine zad ?_;refine zag (fun y:List Loc2×List Loc2=>[(0,.osl (d+1) nm),(1,ii 0),(2,ii l.length),(3,fn58),(8,ii A.length),(9,ii y.1.length)]) (fun _=>[]) (fun y=>setAt O d nm (olTm (y.1++x::(y.2++R')))) 53
   (fun y=>(∀s∈y.2,ltTm x s)∧y.1++y.2=A) (fun y=>y.1.length) (A,[]) ⟨by simp,by simp⟩ ⟨rfl,rfl,rfl,rfl,rfl,rfl,trivial⟩ rfl trivial rfl rfl ?_
  rintro ⟨P,S⟩ ⟨hS,hA2⟩ ih2;simp only at hS hA2;rcases zy9 P with rfl|⟨Q,p,rfl⟩
  ·rw[List.nil_append] at hA2;subst hA2;have hi1:ii (IntKind.i64.wrap ((S.length:Int)+1))=ii ((x::S:List Loc2).length:Int):=congrArg ii (zav (n:=1000001) (by omega) (by decide));refine zai Tk Tryz.func182 ?_;refine zat Tk Tryz.func182 zax rfl ?_;refine zbU Tk (fun h=>absurd h (by simp)) (fun _=>?_);refine zaA Tk Tryz.func182 (by kernel_rfl) ?_;refine zaf Tk Tryz.func182 rfl (fun h=>absurd h (by simp)) (fun _=>?_);refine zad ?_;have e1:zc7 x S=x::S:=zeS (P:=[]) (by simp) hS;refine ih (x::S,R') _ _ ⟨zj6 (P:=[]) hA (by simp) hS,⟨T++[x],hTn,hTs.trans e1⟩,by simp only[List.length_cons];omega⟩ (by simp) ⟨rfl,rfl,rfl,rfl,hi1,trivial⟩ rfl trivial rfl rfl
  ·have e1:(Q++[p])++x::(S++R')=Q++p::x::(S++R'):=by simp
   have e2:((Q++[p]).length:Int)=((Q.length+1:Nat):Int):=by simp
   have hQA:Q.length+1+S.length=A.length:=by rw[←hA2];simp;omega
   have w1:IntKind.i64.wrap (((Q.length+1:Nat):Int)-1)=(Q.length:Int):=by rw[w64 (by omega) (by omega)];omega
   have gx:((Q++p::x::(S++R')).map zbq)[(((Q.length+1:Nat):Int)).toNat]? = some (zbq x):=by
    have:=zzD (A:=Q++[p]) (x:=x) (T:=S++R') (k:=Q.length+1) (by simp);rwa [e1] at this
   have gp:((Q++p::x::(S++R')).map zbq)[(IntKind.i64.wrap (((Q.length+1:Nat):Int)-1)).toNat]? = some (zbq p):=by rw[w1];exact zzD rfl
   have hlt:=zwG (x:=x) (y:=p);have hcc:=fun O=>hc O x p;rw[e2,e1];have hll:(Q++p::x::(S++R')).length=l.length:=by simp;omega
   generalize zt8 x p=cw at *;refine zai Tk Tryz.func182 ?_;refine zat Tk Tryz.func182 zax rfl ?_;refine zbU Tk (fun _=>?_) (fun h=>absurd h (by simp));refine zbR Tk (zaz (H:=([]:Heap)) (zae ho)) ?_;refine zar Tk (by exact⟨by omega,by show ((Q.length+1:Nat):Int)<((Q++p::x::(S++R')).length:Int);rw[hll];omega⟩) ?_;refine zbR Tk (zaz (H:=([]:Heap)) (zae ho)) ?_;refine zay Tk (gx) ?_;refine zbR Tk (zaz (H:=([]:Heap)) (zae ho)) ?_;refine zar Tk (by exact⟨by show (0:Int)≤IntKind.i64.wrap (((Q.length+1:Nat):Int)-1);rw[w1];omega,by show IntKind.i64.wrap (((Q.length+1:Nat):Int)-1)<((Q++p::x::(S++R')).length:Int);rw[w1,hll];omega⟩) ?_;refine zbR Tk (zaz (H:=([]:Heap)) (zae ho)) ?_;refine zay Tk (gp) ?_;refine zaF Tk (fun _=>hcc _) rfl rfl rfl ?_;refine zaA Tk Tryz.func182 (by kernel_rfl) ?_;refine zaf Tk Tryz.func182 rfl (fun c1=>?_) (fun c1=>?_)
   ·have c1:cw<0:=of_decide_eq_true c1;have hrk:=hlt.1 c1;have e3:Ob.arr 160 2 (Q++p::x::(S++R')).length ((((Q++p::x::(S++R')).map zbq).set (((Q.length+1:Nat):Int)).toNat (zbq p)).set (IntKind.i64.wrap (((Q.length+1:Nat):Int)-1)).toNat (zbq x)) true=olTm (Q++x::(p::S++R')):=by
     rw[w1];show Ob.arr 160 2 _ ((((Q++p::x::(S++R')).map zbq).set (Q.length+1) (zbq p)).set Q.length (zbq x)) true=_;rw[zwW];simp[olTm]
    refine zjw Tk 15 rfl ?_;refine zbR Tk (zaz (H:=([]:Heap)) (zae ho)) ?_;refine zar Tk (by exact⟨by show (0:Int)≤IntKind.i64.wrap (((Q.length+1:Nat):Int)-1);rw[w1];omega,by show IntKind.i64.wrap (((Q.length+1:Nat):Int)-1)<((Q++p::x::(S++R')).length:Int);rw[w1,hll];omega⟩) ?_;refine zbR Tk (zaz (H:=([]:Heap)) (zae ho)) ?_;refine zay Tk (gp) ?_;refine zbR Tk (zaz (H:=([]:Heap)) (zae ho)) ?_;refine zar Tk (by exact⟨by omega,by show ((Q.length+1:Nat):Int)<((Q++p::x::(S++R')).length:Int);rw[hll];omega⟩) ?_;refine zbR Tk (zaz (H:=([]:Heap)) (zae ho)) ?_;refine zay Tk (gx) ?_;refine zbR Tk (zaz (H:=([]:Heap)) (zae ho)) ?_;refine zar Tk (by exact⟨by omega,by show ((Q.length+1:Nat):Int)<((Q++p::x::(S++R')).length:Int);rw[hll];omega⟩) ?_
    refine zyN Tk Tryz.func182 zax (N:=15) [16,17] [2,3,4] (by kernel_rfl) rfl rfl rfl rfl rfl rfl rfl rfl rfl rfl (zae ho) (by kernel_rfl) (by kernel_rfl) ?_ (by kernel_rfl) ?_
    ·intro i hi;simp only[List.mem_cons,List.not_mem_nil,or_false] at hi;rcases hi with rfl|rfl|rfl
     ·exact⟨_,_,_,rfl,rfl,rfl,rfl,rfl,rfl,rfl⟩
     ·exact⟨_,_,_,rfl,rfl,rfl,rfl,rfl,rfl,rfl⟩
     ·exact⟨_,_,_,rfl,rfl,rfl,rfl,rfl,rfl,rfl⟩
    refine zbm Tk Tryz.func182 (zaz (H:=([]:Heap)) (zae (zae ho))) ?_;refine zah Tk Tryz.func182 (by exact⟨by show (0:Int)≤IntKind.i64.wrap (((Q.length+1:Nat):Int)-1);rw[w1];omega,by show IntKind.i64.wrap (((Q.length+1:Nat):Int)-1)<((Q++p::x::(S++R')).length:Int);rw[w1,hll];omega⟩) ?_;refine zbm Tk Tryz.func182 (zaz (H:=([]:Heap)) (zae (zae ho))) ?_;refine g_wk (wk_S (S':=_::setAt O d nm (olTm (Q++x::(p::S++R')))) (zaJ fun d' n'=>by rw[←e3];exact (zbM d' n').trans (zbM d' n'))) ?_;refine zad ?_;refine ih2 (Q,p::S) _ _ ⟨fun s hs=>?_,by simpa using hA2⟩ (by simp) ⟨rfl,rfl,rfl,rfl,rfl,congrArg ii w1,trivial⟩ rfl trivial rfl rfl;rcases List.mem_cons.1 hs with rfl|hs
    ·exact hrk
    ·exact hS s hs
   ·have c1:¬cw<0:=of_decide_eq_false c1;have hrk:¬ltTm x p:=fun h=>c1 (hlt.2 h);have hall:∀q∈Q++[p],¬ltTm x q:=by
     rw[←hA2] at hA;have h1:=(List.pairwise_append.1 hA).1;intro q hq;rcases List.mem_append.1 hq with hq|hq
     ·have:=(List.pairwise_append.1 h1).2.2 q hq p (by simp);unfold ltTm at *;omega
     ·rw[List.mem_singleton] at hq;subst hq;exact hrk
    have e4:zc7 x A=(Q++[p])++x::S:=by rw[←hA2];exact zeS hall hS
    have hi1:ii (IntKind.i64.wrap ((A.length:Int)+1))=ii (((Q++[p])++x::S:List Loc2).length:Int):=by
     rw[zav (n:=1000001) (by omega) (by decide),←hA2];simp;omega
    refine zad ?_;refine ih ((Q++[p])++x::S,R') _ _ ⟨zj6 (by rw[hA2];exact hA) hall hS,⟨T++[x],hTn,hTs.trans e4⟩,by simp;omega⟩ (by simp) ⟨rfl,rfl,rfl,rfl,hi1,trivial⟩ (congrArg (fun L=>_::setAt O d nm (olTm L)) (by simp:Q++p::x::(S++R')=((Q++[p])++x::S)++R')) trivial rfl rfl
 ·have g1:l.length≤A.length:=by simpa using g1
  obtain rfl:R=[]:=List.eq_nil_of_length_eq_zero (by omega);obtain⟨T,hT,hTA⟩:=hp;rw[List.append_nil] at hT ⊢;subst hT;rw[←hTA];refine zaj Tk (r:=.tup []) rfl rfl rfl trivial rfl rfl ?_;rfl
theorem zhu (x:Loc2):∀l,(zc7 x l).length=l.length+1
 |[]=>rfl
 |y::r=>by
  unfold zc7
  split
  ·simp
  ·simp[zhu x r]
theorem zgS (l:List Loc2):(zdQ l).length=l.length:=by
 have:∀(r acc:List Loc2),(r.foldl (fun acc x=>zc7 x acc) acc).length=acc.length+r.length:=by
  intro r
  induction r with
  |nil=>simp
  |cons x r ih=>intro acc;rw[List.foldl_cons,ih,zhu,List.length_cons];omega
 have:=this l [];simpa [zdQ] using this
theorem zzk (O:List Heap) (d nm:Nat) (l:List Loc2) (q:Int) (hl:l.length≤12) (ho:zab O d nm=some (olTm l)):zan Tryz.prog 140 [.osl d nm,ii 0,ii l.length,ii q,fn58] O (.tup []) [] (setAt O d nm (olTm (zdQ l))):=by
 have h:=fun O d ho=>zzA O d nm l (by omega) ho;have hsl:=zgS l;have w:IntKind.i64.wrap ((l.length:Int)-0)=(l.length:Int):=by rw[w64 (by omega) (by omega)];omega
 refine zaa Tk Tryz.func140 rfl Tryz.call140 Tryz.ntmps140 (Nat.le_of_ble_eq_true rfl) fun E=>?_;refine zai Tk Tryz.func140 ?_;refine zad ?_;refine zai Tk Tryz.func140 ?_;refine zaf Tk Tryz.func140 rfl (fun _=>?_) (fun h=>absurd h (by rw[w];simp;omega));refine zak Tk Tryz.func140 (h _ (d+1) (zaz (H:=([]:Heap)) ho)) rfl rfl rfl (zaR (zaz (H:=([]:Heap)) ho) (by simp[Ob.sh,hsl])) rfl ?_;refine zaj Tk (r:=.tup []) rfl rfl rfl trivial rfl rfl ?_;rfl
theorem zy7 (O:List Heap) (d nm:Nat) (l:List Loc2) (hl:l.length≤12) (ho:zab O d nm=some (olTm l)):zan Tryz.prog 57 [.osl d nm,fn58] O (.tup []) [] (setAt O d nm (olTm (zdQ l))):=by
 obtain⟨q,hb⟩:=ziN l.length (by omega);have h:=fun O d q ho=>zzk O d nm l q hl ho;have hsl:=zgS l;refine zaa Tk Tryz.func57 rfl Tryz.call57 Tryz.ntmps57 (Nat.le_of_ble_eq_true rfl) fun E=>?_;refine zai Tk Tryz.func57 ?_;refine zbm Tk Tryz.func57 (zaz ho) ?_;refine zak Tk Tryz.func57 (hb _) rfl rfl rfl rfl rfl ?_;refine zak Tk Tryz.func57 (h _ (d+1) _ (zaz (H:=([]:Heap)) ho)) rfl rfl rfl (zaR (zaz (H:=([]:Heap)) ho) (by simp[Ob.sh,hsl])) rfl ?_;refine zaj Tk (r:=.tup []) rfl rfl rfl trivial rfl rfl ?_;rfl
end Go.AI
