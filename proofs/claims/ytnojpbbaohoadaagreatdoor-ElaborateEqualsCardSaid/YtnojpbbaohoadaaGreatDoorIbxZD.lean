/- The layer of abstract runs, part 30. -/
import Derived.Test.YtnojpbbaohoadaaGreatDoorIbxZC
import Derived.KernelRfl
set_option linter.unusedSimpArgs false
set_option linter.unusedVariables false
set_option linter.all false
set_option maxHeartbeats 4000000
namespace Go.AI
open Go.Proofs
set_option maxRecDepth 20000
abbrev olTm (l:List Loc2):Ob:=.arr 160 2 l.length (l.map zcb) true
def zs2 (x y:Loc2):Int:=cmpI x.1 y.1
abbrev ltTm (x y:Loc2):Prop:=x.1<y.1
theorem zvO {x y:Loc2}:zs2 x y<0↔ltTm x y:=by
 unfold zs2 cmpI ltTm
 by_cases h1:x.1<y.1
 ·rw[if_pos h1];exact⟨fun _=>h1,fun _=>by decide⟩
 rw[if_neg h1]
 by_cases h2:x.1>y.1
 ·rw[if_pos h2];exact⟨fun h=>absurd h (by decide),fun h=>absurd h h1⟩
 ·rw[if_neg h2];exact⟨fun h=>absurd h (by decide),fun h=>absurd h h1⟩
abbrev zf5 (l:List Loc2):List Loc2:=l.foldl (fun acc x=>zfC x acc) []
abbrev zyi (l:List Loc2):Prop:=l.Pairwise fun x y=>¬ltTm y x
theorem zeH {x:Loc2}:∀{P S:List Loc2},(∀p∈P,¬ltTm x p)→(∀s∈S,ltTm x s)→zfC x (P++S)=P++x::S
 |[],[],_,_=>rfl
 |[],s::r,_,h=>by
  have:=h s (by simp);simp only[List.nil_append,zfC];rw[if_pos this]
 |p::P,S,h,h2=>by
  have:=h p (by simp);simp only[List.cons_append,zfC];rw[if_neg this,zeH (fun q hq=>h q (by simp[hq])) h2]
theorem zjE {x:Loc2} {P S:List Loc2} (h:zyi (P++S)) (hp:∀p∈P,¬ltTm x p) (hs:∀s∈S,ltTm x s):zyi (P++x::S):=by
 obtain⟨h1,h2,h3⟩:=List.pairwise_append.1 h;refine List.pairwise_append.2 ⟨h1,List.pairwise_cons.2 ⟨fun s hs'=>?_,h2⟩,fun a ha b hb=>?_⟩
 ·have:=hs s hs';unfold ltTm at *;omega
 ·rcases List.mem_cons.1 hb with rfl|hb
  ·exact hp a ha
  ·exact h3 a ha b hb
theorem zv5:∀(P:List Loc2) (p x:Loc2) (T:List Loc2),(((P++p::x::T).map zcb).set (P.length+1) (zcb p)).set P.length (zcb x)=(P++x::p::T).map zcb
 |[],p,x,T=>rfl
 |q::P,p,x,T=>by
  have:=zv5 P p x T;simp only[List.cons_append,List.map_cons,List.length_cons,List.set_cons_succ,this]
theorem zyt (P:List Loc2):P=[]∨∃Q p,P=Q++[p]:=by
 by_cases h:P=[]
 ·exact .inl h
 ·exact .inr ⟨P.dropLast,P.getLast h,(List.dropLast_concat_getLast h).symm⟩
theorem zps (A:List Loc2) (x:Loc2):zf5 (A++[x])=zfC x (zf5 A):=by simp[zf5,List.foldl_append]
theorem zyQ (O:List Heap) (x y:Loc2):zao Tryz.prog 58 [.agg [ii x.1,ii x.2],.agg [ii y.1,ii y.2]] O (ii (zs2 x y)) [] O:=by
 have h1:=fun O=>znX O x.1 y.1;unfold zs2;generalize cmpI x.1 y.1=a at *;refine zaa Tk Tryz.func58 rfl Tryz.call58 Tryz.ntmps58 (Nat.le_of_ble_eq_true rfl) fun E=>?_;refine zai Tk Tryz.func58 ?_;refine zaj Tk Tryz.func58 (h1 _) rfl rfl rfl rfl rfl ?_;refine zae Tk (r:=ii a) rfl rfl rfl trivial rfl rfl ?_;rfl
abbrev fn58:D:=.fn (.func 58) [] []
theorem zy2 {A:List Loc2} {x:Loc2} {T:List Loc2} {k:Nat} (hk:k=A.length):((A++x::T).map zcb)[((k:Nat):Int).toNat]? = some (zcb x):=by
 subst hk;simp
set_option maxHeartbeats 8000000 in
theorem zyZ (O:List Heap) (d nm:Nat) (l:List Loc2) (hl:l.length≤1000) (ho:zab O d nm=some (olTm l)):zao Tryz.prog 182 [.osl d nm,ii 0,ii l.length,fn58] O (.tup []) [] (setAt O d nm (olTm (zf5 l))):=by
 have hc:=fun O x y=>zyQ O x y
 cases l with
 |nil=>
  refine zaa Tk Tryz.func182 rfl Tryz.call182 Tryz.ntmps182 (Nat.le_of_ble_eq_true rfl) fun E=>?_;refine zai Tk Tryz.func182 ?_;refine zah ?_;refine zai Tk Tryz.func182 ?_;refine gcF Tk Tryz.func182 rfl ?_;refine za9 (wk_S (S':=_::setAt O d nm (olTm [])) (zaH (zbm ho))) ?_;refine zae Tk (r:=.tup []) rfl rfl rfl trivial rfl rfl ?_;rfl
 |cons z r=>
 generalize hL:z::r=l at *;have hpos:1≤l.length:=by rw[←hL];simp
 refine zaa Tk Tryz.func182 rfl Tryz.call182 Tryz.ntmps182 (Nat.le_of_ble_eq_true rfl) fun E=>?_;refine zai Tk Tryz.func182 ?_;refine g_wk (wk_S (S':=_::setAt O d nm (olTm ([z]++r))) (zaH (zbm (by rw[ho,←hL];rfl)))) ?_;refine zah ?_;refine zal (fun x:List Loc2×List Loc2=>[(0,.osl (d+1) nm),(1,ii 0),(2,ii l.length),(3,fn58),(8,ii x.1.length)]) (fun _=>[]) (fun x=>setAt O d nm (olTm (x.1++x.2))) 53
  (fun x=>zyi x.1∧(∃T,T++x.2=l∧zf5 T=x.1)∧x.1.length+x.2.length=l.length) (fun x=>x.2.length) ([z],r) ⟨List.pairwise_singleton _ _,⟨[z],hL,rfl⟩,by rw[←hL];simp;omega⟩ ⟨rfl,rfl,rfl,rfl,rfl,trivial⟩ rfl trivial rfl rfl ?_
 rintro ⟨A,R⟩ ⟨hA,hp,hlen⟩ ih;simp only at hA hp hlen;refine zai Tk Tryz.func182 ?_;refine zad Tk Tryz.func182 rfl (fun g1=>?_) (fun g1=>?_)
 ·have g1:A.length<l.length:=by simpa using g1
  obtain⟨x,R',rfl⟩:∃x R',R=x::R':=by
   cases R with
   |nil=>simp at hlen;omega
   |cons x R'=>exact⟨x,R',rfl⟩
  obtain⟨T,hT,hTA⟩:=hp;have hTn:(T++[x])++R'=l:=by rw[←hT];simp
  have hTs:zf5 (T++[x])=zfC x A:=by rw[zps,hTA]
  rw[List.length_cons] at hlen;refine zah ?_;refine zal (fun y:List Loc2×List Loc2=>[(0,.osl (d+1) nm),(1,ii 0),(2,ii l.length),(3,fn58),(8,ii A.length),(9,ii y.1.length)]) (fun _=>[]) (fun y=>setAt O d nm (olTm (y.1++x::(y.2++R')))) 53
   (fun y=>(∀s∈y.2,ltTm x s)∧y.1++y.2=A) (fun y=>y.1.length) (A,[]) ⟨by simp,by simp⟩ ⟨rfl,rfl,rfl,rfl,rfl,rfl,trivial⟩ rfl trivial rfl rfl ?_
  rintro ⟨P,S⟩ ⟨hS,hA2⟩ ih2;simp only at hS hA2;rcases zyt P with rfl|⟨Q,p,rfl⟩
  ·rw[List.nil_append] at hA2;subst hA2;have hi1:ii (IntKind.i64.wrap ((S.length:Int)+1))=ii ((x::S:List Loc2).length:Int):=congrArg ii (zaE (n:=1000001) (by omega) (by decide));refine zai Tk Tryz.func182 ?_;refine zat Tk Tryz.func182 zaA rfl ?_;refine zbP Tk (fun h=>absurd h (by simp)) (fun _=>?_);refine zaC Tk Tryz.func182 (by kernel_rfl) ?_;refine zad Tk Tryz.func182 rfl (fun h=>absurd h (by simp)) (fun _=>?_);refine zah ?_;have e1:zfC x S=x::S:=zeH (P:=[]) (by simp) hS;refine ih (x::S,R') _ _ ⟨zjE (P:=[]) hA (by simp) hS,⟨T++[x],hTn,hTs.trans e1⟩,by simp only[List.length_cons];omega⟩ (by simp) ⟨rfl,rfl,rfl,rfl,hi1,trivial⟩ rfl trivial rfl rfl
  ·have e1:(Q++[p])++x::(S++R')=Q++p::x::(S++R'):=by simp
   have e2:((Q++[p]).length:Int)=((Q.length+1:Nat):Int):=by simp
   have hQA:Q.length+1+S.length=A.length:=by rw[←hA2];simp;omega
   have w1:IntKind.i64.wrap (((Q.length+1:Nat):Int)-1)=(Q.length:Int):=by rw[w64 (by omega) (by omega)];omega
   have gx:((Q++p::x::(S++R')).map zcb)[(((Q.length+1:Nat):Int)).toNat]? = some (zcb x):=by
    have:=zy2 (A:=Q++[p]) (x:=x) (T:=S++R') (k:=Q.length+1) (by simp);rwa [e1] at this
   have gp:((Q++p::x::(S++R')).map zcb)[(IntKind.i64.wrap (((Q.length+1:Nat):Int)-1)).toNat]? = some (zcb p):=by rw[w1];exact zy2 rfl
   have hlt:=zvO (x:=x) (y:=p);have hcc:=fun O=>hc O x p;rw[e2,e1];have hll:(Q++p::x::(S++R')).length=l.length:=by simp;omega
   generalize zs2 x p=cw at *;refine zai Tk Tryz.func182 ?_;refine zat Tk Tryz.func182 zaA rfl ?_;refine zbP Tk (fun _=>?_) (fun h=>absurd h (by simp));refine zce Tk (zaB (H:=([]:Heap)) (zag ho)) ?_;refine zar Tk (by exact⟨by omega,by show ((Q.length+1:Nat):Int)<((Q++p::x::(S++R')).length:Int);rw[hll];omega⟩) ?_;refine zce Tk (zaB (H:=([]:Heap)) (zag ho)) ?_;refine zax Tk (gx) ?_;refine zce Tk (zaB (H:=([]:Heap)) (zag ho)) ?_;refine zar Tk (by exact⟨by show (0:Int)≤IntKind.i64.wrap (((Q.length+1:Nat):Int)-1);rw[w1];omega,by show IntKind.i64.wrap (((Q.length+1:Nat):Int)-1)<((Q++p::x::(S++R')).length:Int);rw[w1,hll];omega⟩) ?_;refine zce Tk (zaB (H:=([]:Heap)) (zag ho)) ?_;refine zax Tk (gp) ?_;refine zaT Tk (fun _=>hcc _) rfl rfl rfl ?_;refine zaC Tk Tryz.func182 (by kernel_rfl) ?_;refine zad Tk Tryz.func182 rfl (fun c1=>?_) (fun c1=>?_)
   ·have c1:cw<0:=of_decide_eq_true c1;have hrk:=hlt.1 c1;have e3:Ob.arr 160 2 (Q++p::x::(S++R')).length ((((Q++p::x::(S++R')).map zcb).set (((Q.length+1:Nat):Int)).toNat (zcb p)).set (IntKind.i64.wrap (((Q.length+1:Nat):Int)-1)).toNat (zcb x)) true=olTm (Q++x::(p::S++R')):=by
     rw[w1];show Ob.arr 160 2 _ ((((Q++p::x::(S++R')).map zcb).set (Q.length+1) (zcb p)).set Q.length (zcb x)) true=_;rw[zv5];simp[olTm]
    refine zi3 Tk 15 rfl ?_;refine zce Tk (zaB (H:=([]:Heap)) (zag ho)) ?_;refine zar Tk (by exact⟨by show (0:Int)≤IntKind.i64.wrap (((Q.length+1:Nat):Int)-1);rw[w1];omega,by show IntKind.i64.wrap (((Q.length+1:Nat):Int)-1)<((Q++p::x::(S++R')).length:Int);rw[w1,hll];omega⟩) ?_;refine zce Tk (zaB (H:=([]:Heap)) (zag ho)) ?_;refine zax Tk (gp) ?_;refine zce Tk (zaB (H:=([]:Heap)) (zag ho)) ?_;refine zar Tk (by exact⟨by omega,by show ((Q.length+1:Nat):Int)<((Q++p::x::(S++R')).length:Int);rw[hll];omega⟩) ?_;refine zce Tk (zaB (H:=([]:Heap)) (zag ho)) ?_;refine zax Tk (gx) ?_;refine zce Tk (zaB (H:=([]:Heap)) (zag ho)) ?_;refine zar Tk (by exact⟨by omega,by show ((Q.length+1:Nat):Int)<((Q++p::x::(S++R')).length:Int);rw[hll];omega⟩) ?_
    refine zxT Tk Tryz.func182 zaA (N:=15) [16,17] [2,3,4] (by kernel_rfl) rfl rfl rfl rfl rfl rfl rfl rfl rfl rfl (zag ho) (by kernel_rfl) (by kernel_rfl) ?_ (by kernel_rfl) ?_
    ·intro i hi;simp only[List.mem_cons,List.not_mem_nil,or_false] at hi;rcases hi with rfl|rfl|rfl
     ·exact⟨_,_,_,rfl,rfl,rfl,rfl,rfl,rfl,rfl⟩
     ·exact⟨_,_,_,rfl,rfl,rfl,rfl,rfl,rfl,rfl⟩
     ·exact⟨_,_,_,rfl,rfl,rfl,rfl,rfl,rfl,rfl⟩
    refine zbF Tk Tryz.func182 (zaB (H:=([]:Heap)) (zag (zag ho))) ?_;refine zaf Tk Tryz.func182 (by exact⟨by show (0:Int)≤IntKind.i64.wrap (((Q.length+1:Nat):Int)-1);rw[w1];omega,by show IntKind.i64.wrap (((Q.length+1:Nat):Int)-1)<((Q++p::x::(S++R')).length:Int);rw[w1,hll];omega⟩) ?_;refine zbF Tk Tryz.func182 (zaB (H:=([]:Heap)) (zag (zag ho))) ?_;refine g_wk (wk_S (S':=_::setAt O d nm (olTm (Q++x::(p::S++R')))) (zaH fun d' n'=>by rw[←e3];exact (zbO d' n').trans (zbO d' n'))) ?_;refine zah ?_;refine ih2 (Q,p::S) _ _ ⟨fun s hs=>?_,by simpa using hA2⟩ (by simp) ⟨rfl,rfl,rfl,rfl,rfl,congrArg ii w1,trivial⟩ rfl trivial rfl rfl;rcases List.mem_cons.1 hs with rfl|hs
    ·exact hrk
    ·exact hS s hs
   ·have c1:¬cw<0:=of_decide_eq_false c1;have hrk:¬ltTm x p:=fun h=>c1 (hlt.2 h);have hall:∀q∈Q++[p],¬ltTm x q:=by
     rw[←hA2] at hA;have h1:=(List.pairwise_append.1 hA).1;intro q hq;rcases List.mem_append.1 hq with hq|hq
     ·have:=(List.pairwise_append.1 h1).2.2 q hq p (by simp);unfold ltTm at *;omega
     ·rw[List.mem_singleton] at hq;subst hq;exact hrk
    have e4:zfC x A=(Q++[p])++x::S:=by rw[←hA2];exact zeH hall hS
    have hi1:ii (IntKind.i64.wrap ((A.length:Int)+1))=ii (((Q++[p])++x::S:List Loc2).length:Int):=by
     rw[zaE (n:=1000001) (by omega) (by decide),←hA2];simp;omega
    refine zah ?_;refine ih ((Q++[p])++x::S,R') _ _ ⟨zjE (by rw[hA2];exact hA) hall hS,⟨T++[x],hTn,hTs.trans e4⟩,by simp;omega⟩ (by simp) ⟨rfl,rfl,rfl,rfl,hi1,trivial⟩ (congrArg (fun L=>_::setAt O d nm (olTm L)) (by simp:Q++p::x::(S++R')=((Q++[p])++x::S)++R')) trivial rfl rfl
 ·have g1:l.length≤A.length:=by simpa using g1
  obtain rfl:R=[]:=List.eq_nil_of_length_eq_zero (by omega);obtain⟨T,hT,hTA⟩:=hp;rw[List.append_nil] at hT ⊢;subst hT;rw[←hTA];refine zae Tk (r:=.tup []) rfl rfl rfl trivial rfl rfl ?_;rfl
theorem zka (x:Loc2):∀l,(zfC x l).length=l.length+1
 |[]=>rfl
 |y::r=>by
  unfold zfC
  split
  ·simp
  ·simp[zka x r]
theorem zgA (l:List Loc2):(zf5 l).length=l.length:=by
 have:∀(r acc:List Loc2),(r.foldl (fun acc x=>zfC x acc) acc).length=acc.length+r.length:=by
  intro r
  induction r with
  |nil=>simp
  |cons x r ih=>intro acc;rw[List.foldl_cons,ih,zka,List.length_cons];omega
 have:=this l [];simpa [zf5] using this
theorem zyG (O:List Heap) (d nm:Nat) (l:List Loc2) (q:Int) (hl:l.length≤12) (ho:zab O d nm=some (olTm l)):zao Tryz.prog 140 [.osl d nm,ii 0,ii l.length,ii q,fn58] O (.tup []) [] (setAt O d nm (olTm (zf5 l))):=by
 have h:=fun O d ho=>zyZ O d nm l (by omega) ho;have hsl:=zgA l;have w:IntKind.i64.wrap ((l.length:Int)-0)=(l.length:Int):=by rw[w64 (by omega) (by omega)];omega
 refine zaa Tk Tryz.func140 rfl Tryz.call140 Tryz.ntmps140 (Nat.le_of_ble_eq_true rfl) fun E=>?_;refine zai Tk Tryz.func140 ?_;refine zah ?_;refine zai Tk Tryz.func140 ?_;refine zad Tk Tryz.func140 rfl (fun _=>?_) (fun h=>absurd h (by rw[w];simp;omega));refine zaj Tk Tryz.func140 (h _ (d+1) (zaB (H:=([]:Heap)) ho)) rfl rfl rfl (zaS (zaB (H:=([]:Heap)) ho) (by simp[Ob.sh,hsl])) rfl ?_;refine zae Tk (r:=.tup []) rfl rfl rfl trivial rfl rfl ?_;rfl
theorem zyr (O:List Heap) (d nm:Nat) (l:List Loc2) (hl:l.length≤12) (ho:zab O d nm=some (olTm l)):zao Tryz.prog 57 [.osl d nm,fn58] O (.tup []) [] (setAt O d nm (olTm (zf5 l))):=by
 obtain⟨q,hb⟩:=zin l.length (by omega);have h:=fun O d q ho=>zyG O d nm l q hl ho;have hsl:=zgA l;refine zaa Tk Tryz.func57 rfl Tryz.call57 Tryz.ntmps57 (Nat.le_of_ble_eq_true rfl) fun E=>?_;refine zai Tk Tryz.func57 ?_;refine zbF Tk Tryz.func57 (zaB ho) ?_;refine zaj Tk Tryz.func57 (hb _) rfl rfl rfl rfl rfl ?_;refine zaj Tk Tryz.func57 (h _ (d+1) _ (zaB (H:=([]:Heap)) ho)) rfl rfl rfl (zaS (zaB (H:=([]:Heap)) ho) (by simp[Ob.sh,hsl])) rfl ?_;refine zae Tk (r:=.tup []) rfl rfl rfl trivial rfl rfl ?_;rfl
theorem zx0 (O:List Heap) (l:List Evt) (hl:l.length≤1000000):zao Tryz.prog 54 [.i (zbc l)] O (.i (zbc l)) [] O:=by
 refine zaa Tk Tryz.func54 rfl Tryz.call54 Tryz.ntmps54 (Nat.le_of_ble_eq_true rfl) fun E=>?_;refine zai Tk Tryz.func54 ?_;refine znK Tk Tryz.func54 rfl rfl fun b hb=>?_;refine zad Tk Tryz.func54 rfl (fun h1=>?_) (fun h1=>?_)
 ·have hl0:l=[]:=List.eq_nil_of_length_eq_zero (hb h1);subst hl0;refine zaF Tk (r:=.i (.v (.slice none 0 0))) rfl rfl rfl trivial rfl rfl ?_;exact zcz zbf
 ·refine zaf Tk Tryz.func54 (by exact⟨by show (0+l.length)*32≤140737488355328;omega,by show 0+l.length≤9223372036854775807;omega⟩) ?_;refine za9 (zbp (l:=[(2,.osl 0 7)]) (Hv:=[(7,.arr 101 5 (0+l.length) ([]++l.map evtI) true)]) ⟨rfl,trivial⟩ rfl ⟨rfl,trivial⟩ rfl rfl) ?_;rw[Nat.zero_add,List.nil_append];refine za9 (zap 7 rfl rfl) ?_;refine zae Tk (r:=.i (zbc l)) rfl rfl rfl trivial rfl rfl ?_;rfl
abbrev zuT (l:List Itm):Ob:=.arr 76 5 l.length (l.map itmI) true
abbrev zj9 (l:List Itm):I:=.sl 5 l.length (l.map itmI)
abbrev zyH (l:List (List Sta)):Ob:=.arr 62 1 l.length (l.map fun s=>[I.sl 2 s.length (s.map staI)]) true
abbrev zxf (l:List XCn):Ob:=.arr 158 3 l.length (l.map xcnI) true
abbrev zq0:List D:=[.i (.v (.slice none 0 0)),.i (.v (.slice none 0 0)),.i (.v (.slice none 0 0)),.i (.v (.slice none 0 0)),.i (.v (.slice none 0 0))]
abbrev zyb (r:Cel×Plc×Int):D:=.tup [celD r.1,.agg [ii r.2.1.1,ii r.2.1.2],ii r.2.2]
theorem zvM {a b c:Int}:CoD (.tup [.agg zq0,.agg [ii a,ii b],ii c]) (zyb (zCel,(a,b),c)):=by
 repeat' (first|refine zbT ?_|refine zbD ?_|refine zcz ?_|refine CoDL.cons ?_ ?_|exact CoDL.nil|exact zbf|refine zcA ?_|refine CoLL.cons ?_ ?_|exact CoLL.nil|refine CoL.cons ?_ ?_|exact CoL.nil|exact CoI.refl _|exact CoL.refl _|exact CoLL.refl _|exact CoDL.refl _|exact CoD.refl _)
def exAp (A:List Itm) (G:List (List Sta)):Except (Nat×Int) (List Itm×List (List Sta))→Except (Nat×Int) (List Itm×List (List Sta))
 |.error e=>.error e
 |.ok (a,o)=>.ok (A++a,G++o)
theorem znQ (R:Except (Nat×Int) (List Itm×List (List Sta))):exAp [] [] R=R:=by
 cases R with
 |error e=>rfl
 |ok p=>rfl
theorem znR (A:List Itm) (G:List (List Sta)) (x:Itm) (s:List Sta) (R:Except (Nat×Int) (List Itm×List (List Sta))):exAp A G (match R with
  |.error e=>.error e
  |.ok (a,o)=>.ok (x::a,s::o))=exAp (A++[x]) (G++[s]) R:=by
 cases R with
 |error e=>rfl
 |ok p=>simp[exAp]
def celK (m:Mdl) (A B:List Itm) (og:List (List Sta)):Cel×Plc×Int:=match zf7 m og m.excs 0 [] [] with
 |.error (i,e)=>(zCel,(5,(i:Int)),e)
 |.ok out=>(⟨m.evs,A,B,out,m.cons.map (zje m)⟩,(0,0),0)
theorem zkr {m:Mdl} {og:List (List Sta)}:∀{l:List NEx} {i:Nat} {seen:List ByteArray} {out:List XEx} {j:Nat} {e:Int},zf7 m og l i seen out=.error (j,e)→e≠0
 |[],_,_,_,_,_,h=>by cases h
 |x::r,i,seen,out,j,e,h=>by
  simp only[zf7] at h
  by_cases h1:(expX m og x (32-(out.length:Int))).2≠0
  ·rw[if_pos h1] at h;cases h;exact h1
  rw[if_neg h1] at h
  by_cases h2:(expX m og x (32-(out.length:Int))).1.any (fun y=>decide (y.name.size>32))=true
  ·rw[if_pos h2] at h;cases h;decide
  rw[if_neg h2] at h
  cases h3:dupX seen (expX m og x (32-(out.length:Int))).1 with
  |error u=>rw[h3] at h;cases h;decide
  |ok s=>rw[h3] at h;exact zkr h
theorem zvW (m:Mdl) (A B:List Itm) (og:List (List Sta)):celK m A B og=if (excX m og).2.2≠0 then (zCel,(excX m og).2) else (⟨m.evs,A,B,(excX m og).1,m.cons.map (zje m)⟩,(0,0),0):=by
 unfold celK excX
 cases h:zf7 m og m.excs 0 [] [] with
 |error p=>
  obtain⟨j,e⟩:=p;have he:=zkr h;simp only;rw[if_pos he]
 |ok out=>rfl
set_option maxHeartbeats 8000000 in
theorem zzk {g:Nat} (hg:zda g) {ty:TypeId} {fr:Nat×Nat} (O:List Heap) (m:Mdl) (hm:mdlOk m) (hmv:∀t∈m.tpls,t.mach.moves.length≤19) :
  zba g (ptab ty fr) Tryz.prog 16 [mdlD m] O (zyb (celR m)) [] O:=by
 have h14:=fun O=>zub O m hm;have hMU:(mdlE m).2=0→∀x,x∈m.comps∨x∈m.reqs→(∀O,zao Tryz.prog 55 [mdlD m,insD x] O (extD (mchR m x)) [] O)∧∀O,zba g (ptab ty fr) Tryz.prog 32 [extD (mchR m x)] O (unfD (mchR m x).alpha (zcI (mchR m x))) [] O:=fun hv x hx=>by
  obtain⟨t,ht,he,_⟩:=zgr hmv hv hx;have hxl:=zlf hm hx;rw[he];exact⟨fun O=>zj0 O m x t hm hxl ht,fun O=>zv0 hg O _ (zr4 hm hxl ht)⟩
 have hEx:(mdlE m).2=0→∀og:List (List Sta),og.length=m.comps.length→(∀s∈og,s.length≤100000)→∀O,zba g (ptab ty fr) Tryz.prog 56 [mdlD m,.i (zk4 og)] O (excD (excX m og)) [] O:=fun hv og h1 h2 O=>by
  obtain⟨e1,e2⟩:=zxL hm hv h1 h2;exact zks hg O m og hm.toszOk e1 e2
 have hCn:=fun hv=>zxV (m:=m) hv;have hIl:=fun hv=>zjh (m:=m) (zd5 hv).2.2.2.1;have hevl:=hm.ev;have hf1:=fun O s=>zer O m 3 s hm.toszOk;rw[show namK m 3=m.comps.map (·.name) from rfl] at hf1;have hr0:∀i,zg6 m [] i=.ok ([],[]):=fun _=>rfl;have hrs:∀x r i,zg6 m (x::r) i=match zcI (mchR m x) with
  |.error e=>.error (i,e)
  |.ok U=>match zg6 m r (i+1) with
   |.error e=>.error e
   |.ok (a,o)=>.ok (⟨x.name,⟨(mchR m x).alpha,U.sts.length,U.mkl,U.eds⟩⟩::a,U.sts::o):=fun _ _ _=>rfl
 generalize hR:celR m=R;have hR:(if (mdlE m).2≠0 then (zCel,mdlE m) else match zg6 m m.comps 0 with
  |.error (i,e)=>(zCel,(3,(i:Int)),e)
  |.ok (a,og)=>match zg6 m m.reqs 0 with
   |.error (i,e)=>(zCel,(4,(i:Int)),e)
   |.ok (b,_)=>celK m a b og)=R:=hR
 generalize hE0:mdlE m=E0 at *;obtain⟨⟨q1,q2⟩,q3⟩:=E0;simp only at hR hMU hEx hCn hIl;generalize hRA:zg6 m m.comps 0=RA at hR;generalize hRB:zg6 m m.reqs 0=RB at hR;generalize hiR:zg6 m=iR at *;clear hiR hE0;refine zaM [36] Tk Tryz.func16 rfl Tryz.call16 Tryz.ntmps16 (Nat.le_of_ble_eq_true rfl) fun E hE=>?_;refine zai Tk Tryz.func16 ?_;refine zaj Tk Tryz.func16 (h14 _) rfl rfl rfl rfl rfl ?_;refine zad Tk Tryz.func16 rfl (fun c1=>?_) (fun c1=>?_)
 ·have c1:q3≠0:=bneT c1;rw[if_pos c1] at hR;subst hR;refine zat Tk Tryz.func16 zaA rfl ?_;refine zct Tk rfl rfl rfl ?_;refine zct Tk rfl rfl rfl ?_;refine zaC Tk Tryz.func16 (by kernel_rfl) ?_;refine zaF Tk (r:=.tup [.agg zq0,.agg [ii q1,ii q2],ii q3]) rfl rfl rfl trivial rfl rfl ?_;exact zvM
 have c1:q3=0:=bneF c1;rw[if_neg (fun h=>h c1)] at hR;have hMU:=hMU c1;have hEx:=hEx c1;obtain⟨hcn1,hcn2⟩:=hCn c1;obtain⟨hcl,hcl0,hql⟩:=hIl c1;have h54:=fun O=>zx0 O m.evs hevl;clear hCn hIl;refine zaj Tk Tryz.func16 (h54 _) rfl rfl rfl rfl rfl ?_;refine g_wk (zaJ 2 68 76 5 (pre:=[.i (zbc m.evs)]) (post:=[.i (.v (.slice none 0 0)),.i (.v (.slice none 0 0)),.i (.v (.slice none 0 0))]) rfl rfl rfl) ?_;refine g_wk (zcp 7 72 62 1 rfl rfl rfl) ?_;refine zah ?_;refine zal (fun x:Nat×List Itm×List (List Sta)=>[(1,.own 0 1 0 0),(2,.own 0 2 0 0),(3,.own 0 3 0 0),(7,.osl 0 72),(40,.i (zaK m.comps)),(41,ii m.comps.length),(42,ii x.1)])
  (fun x=>[(1,.box (mdlC m)),(2,.box [.i (zbc m.evs),.osl 0 68,.i (.v (.slice none 0 0)),.i (.v (.slice none 0 0)),.i (.v (.slice none 0 0))]),(3,plcN),(68,zuT x.2.1),(72,zyH x.2.2)]) (fun _=>O) 168
  (fun x=>x.1≤m.comps.length∧x.2.1.length=x.1∧x.2.2.length=x.1∧(∀s∈x.2.2,s.length≤100000)∧exAp x.2.1 x.2.2 (iR (m.comps.drop x.1) x.1)=RA) (fun x=>m.comps.length-x.1) (0,[],[]) ⟨Nat.zero_le _,rfl,rfl,by simp,by rw[znQ];exact hRA⟩ ⟨rfl,rfl,rfl,rfl,rfl,rfl,rfl,trivial⟩ rfl ⟨rfl,rfl,rfl,rfl,rfl,trivial⟩ rfl rfl ?_
 clear hRA;rintro ⟨i,A,G⟩ ⟨hi,hA,hG,hGs,hno⟩ ih;simp only at hi hA hG hGs hno;refine zai Tk Tryz.func16 ?_;refine zad Tk Tryz.func16 rfl (fun g1=>?_) (fun g1=>?_)
 ·have g1:i<m.comps.length:=by simpa using g1
  have gs:(m.comps.map insI)[(i:Int).toNat]? = some (insI m.comps[i]):=zak (f:=insI) g1;obtain⟨hM,hU⟩:=hMU m.comps[i] (.inl (List.getElem_mem g1));have hj1:ii (IntKind.i64.wrap ((i:Int)+1))=ii ((i+1:Nat):Int):=congrArg ii (zaE (n:=1000001) (by omega) (by decide));rw[List.drop_eq_getElem_cons g1,hrs] at hno;generalize m.comps[i]=x at *;generalize mchR m x=X at *;obtain⟨xn,xt,xe⟩:=x;simp only at hno
  cases hu:zcI X with
  |error e=>
   have he:=zgv hu;have hU2:∀O,zba g (ptab ty fr) Tryz.prog 32 [extD X] O (.tup [autD ⟨[],0,[],[]⟩,zjD [],ii e]) [] O:=fun O=>by have:=hU O;rw[hu] at this;exact this
   rw[hu] at hno;have hno:Except.error (i,e)=RA:=hno;subst hno;simp only at hR;subst hR;refine zaf Tk Tryz.func16 (by exact⟨by omega,by show (i:Int)<(m.comps.length:Int);omega⟩) ?_;refine zaq Tk Tryz.func16 (gs) ?_;refine zaj Tk Tryz.func16 (hM _) rfl rfl rfl rfl rfl ?_;refine zbM Tk Tryz.func16 hE (hU2 _) rfl rfl rfl rfl rfl rfl ?_;refine zad Tk Tryz.func16 rfl (fun _=>?_) (fun h=>absurd h (by simpa using he));refine zaF Tk (r:=.tup [.agg zq0,.agg [ii 3,ii i],ii e]) rfl rfl rfl trivial rfl rfl ?_;exact zvM
  |ok U=>
   have hsl:=zkO hu;have hU2:∀O,zba g (ptab ty fr) Tryz.prog 32 [extD X] O (.tup [autD ⟨X.alpha,U.sts.length,U.mkl,U.eds⟩,zjD U.sts,ii 0]) [] O:=fun O=>by have:=hU O;rw[hu] at this;exact this
   rw[hu] at hno;simp only at hno;rw[znR] at hno;clear hU;refine zaf Tk Tryz.func16 (by exact⟨by omega,by show (i:Int)<(m.comps.length:Int);omega⟩) ?_;refine zaq Tk Tryz.func16 (gs) ?_;refine zaj Tk Tryz.func16 (hM _) rfl rfl rfl rfl rfl ?_;refine zbM Tk Tryz.func16 hE (hU2 _) rfl rfl rfl rfl rfl rfl ?_;refine gcF Tk Tryz.func16 rfl ?_;refine zaf Tk Tryz.func16 (by exact⟨by show (A.length+1)*96≤140737488355328;omega,by show A.length+1≤9223372036854775807;omega⟩) ?_;refine zaf Tk Tryz.func16 (by exact⟨by show (G.length+1)*24≤140737488355328;omega,by show G.length+1≤9223372036854775807;omega⟩) ?_;refine zah ?_;refine ih (i+1,A++[⟨xn,⟨X.alpha,U.sts.length,U.mkl,U.eds⟩⟩],G++[U.sts]) _ _ ⟨g1,by simp[hA],by simp[hG],fun s hs=>?_,hno⟩ (by simp only;omega) ⟨rfl,rfl,rfl,rfl,rfl,rfl,hj1,trivial⟩ rfl ⟨rfl,rfl,rfl,?_,?_,trivial⟩ rfl rfl
   ·rcases List.mem_append.1 hs with hs|hs
    ·exact hGs s hs
    ·rw[List.mem_singleton] at hs;subst hs;omega
   ·show some (Ob.arr 76 5 (A.length+1) (A.map itmI++[itmI ⟨xn,⟨X.alpha,U.sts.length,U.mkl,U.eds⟩⟩]) true)=_;simp[zuT]
   ·show some (Ob.arr 62 1 (G.length+1) ((G.map fun s=>[I.sl 2 s.length (s.map staI)])++[[I.sl 2 U.sts.length (U.sts.map staI)]]) true)=_;simp[zyH]
 have g1:m.comps.length≤i:=by simpa using g1
 rw[List.drop_eq_nil_of_le g1,hr0] at hno;have hno:Except.ok (A++[],G++[])=RA:=hno;rw[List.append_nil,List.append_nil] at hno;subst hno;simp only at hR;have hEx:=hEx G (by omega) hGs;clear ih;refine g_wk (zap 68 rfl rfl) ?_;refine g_wk (zap 72 rfl rfl) ?_;refine g_wk (zaR rfl) ?_;refine g_wk (zaJ 2 104 76 5 (pre:=[.i (zbc m.evs),.i (zj9 A)]) (post:=[.i (.v (.slice none 0 0)),.i (.v (.slice none 0 0))]) rfl rfl rfl) ?_;refine zah ?_;refine zal (fun x:Nat×List Itm×List (List Sta)=>[(1,.own 0 1 0 0),(2,.own 0 2 0 0),(3,.own 0 3 0 0),(7,.i (zk4 G)),(76,.i (zaK m.reqs)),(77,ii m.reqs.length),(78,ii x.1)])
  (fun x=>[(1,.box (mdlC m)),(2,.box [.i (zbc m.evs),.i (zj9 A),.osl 0 104,.i (.v (.slice none 0 0)),.i (.v (.slice none 0 0))]),(3,plcN),(104,zuT x.2.1)]) (fun _=>O) 168
  (fun x=>x.1≤m.reqs.length∧x.2.1.length=x.1∧exAp x.2.1 x.2.2 (iR (m.reqs.drop x.1) x.1)=RB) (fun x=>m.reqs.length-x.1) (0,[],[]) ⟨Nat.zero_le _,rfl,by rw[znQ];exact hRB⟩ ⟨rfl,rfl,rfl,rfl,rfl,rfl,rfl,trivial⟩ rfl ⟨rfl,rfl,rfl,rfl,trivial⟩ rfl rfl ?_
 clear hRB;rintro ⟨i,B,G2⟩ ⟨hi,hB,hno⟩ ih;simp only at hi hB hno;refine zai Tk Tryz.func16 ?_;refine zad Tk Tryz.func16 rfl (fun g2=>?_) (fun g2=>?_)
 ·have g2:i<m.reqs.length:=by simpa using g2
  have gs:(m.reqs.map insI)[(i:Int).toNat]? = some (insI m.reqs[i]):=zak (f:=insI) g2;obtain⟨hM,hU⟩:=hMU m.reqs[i] (.inr (List.getElem_mem g2));have hj1:ii (IntKind.i64.wrap ((i:Int)+1))=ii ((i+1:Nat):Int):=congrArg ii (zaE (n:=1000001) (by omega) (by decide));rw[List.drop_eq_getElem_cons g2,hrs] at hno;generalize m.reqs[i]=x at *;generalize mchR m x=X at *;obtain⟨xn,xt,xe⟩:=x;simp only at hno
  cases hu:zcI X with
  |error e=>
   have he:=zgv hu;have hU2:∀O,zba g (ptab ty fr) Tryz.prog 32 [extD X] O (.tup [autD ⟨[],0,[],[]⟩,zjD [],ii e]) [] O:=fun O=>by have:=hU O;rw[hu] at this;exact this
   rw[hu] at hno;have hno:Except.error (i,e)=RB:=hno;subst hno;simp only at hR;subst hR;refine zaf Tk Tryz.func16 (by exact⟨by omega,by show (i:Int)<(m.reqs.length:Int);omega⟩) ?_;refine zaq Tk Tryz.func16 (gs) ?_;refine zaj Tk Tryz.func16 (hM _) rfl rfl rfl rfl rfl ?_;refine zbM Tk Tryz.func16 hE (hU2 _) rfl rfl rfl rfl rfl rfl ?_;refine zad Tk Tryz.func16 rfl (fun _=>?_) (fun h=>absurd h (by simpa using he));refine zaF Tk (r:=.tup [.agg zq0,.agg [ii 4,ii i],ii e]) rfl rfl rfl trivial rfl rfl ?_;exact zvM
  |ok U=>
   have hU2:∀O,zba g (ptab ty fr) Tryz.prog 32 [extD X] O (.tup [autD ⟨X.alpha,U.sts.length,U.mkl,U.eds⟩,zjD U.sts,ii 0]) [] O:=fun O=>by have:=hU O;rw[hu] at this;exact this
   rw[hu] at hno;simp only at hno;rw[znR] at hno;clear hU;refine zaf Tk Tryz.func16 (by exact⟨by omega,by show (i:Int)<(m.reqs.length:Int);omega⟩) ?_;refine zaq Tk Tryz.func16 (gs) ?_;refine zaj Tk Tryz.func16 (hM _) rfl rfl rfl rfl rfl ?_;refine zbM Tk Tryz.func16 hE (hU2 _) rfl rfl rfl rfl rfl rfl ?_;refine gcF Tk Tryz.func16 rfl ?_;refine zaf Tk Tryz.func16 (by exact⟨by show (B.length+1)*96≤140737488355328;omega,by show B.length+1≤9223372036854775807;omega⟩) ?_;refine zah ?_;refine ih (i+1,B++[⟨xn,⟨X.alpha,U.sts.length,U.mkl,U.eds⟩⟩],G2++[U.sts]) _ _ ⟨g2,by simp[hB],hno⟩ (by simp only;omega) ⟨rfl,rfl,rfl,rfl,rfl,rfl,hj1,trivial⟩ rfl ⟨rfl,rfl,rfl,?_,trivial⟩ rfl rfl;show some (Ob.arr 76 5 (B.length+1) (B.map itmI++[itmI ⟨xn,⟨X.alpha,U.sts.length,U.mkl,U.eds⟩⟩]) true)=_;simp[zuT]
 have g2:m.reqs.length≤i:=by simpa using g2
 rw[List.drop_eq_nil_of_le g2,hr0] at hno;have hno:Except.ok (B++[],G2++[])=RB:=hno;rw[List.append_nil,List.append_nil] at hno;subst hno;simp only at hR;rw[zvW] at hR;clear ih hMU;generalize excX m G=rx at *;obtain⟨xs,⟨p1,p2⟩,e⟩:=rx;simp only at hR hEx;refine zbM Tk Tryz.func16 hE (hEx _) rfl rfl rfl rfl rfl rfl ?_;refine zad Tk Tryz.func16 rfl (fun c2=>?_) (fun c2=>?_)
 ·have c2:e≠0:=bneT c2;rw[if_pos c2] at hR;subst hR;refine zat Tk Tryz.func16 zaA rfl ?_;refine zct Tk rfl rfl rfl ?_;refine zct Tk rfl rfl rfl ?_;refine zaC Tk Tryz.func16 (by kernel_rfl) ?_;refine zaF Tk (r:=.tup [.agg zq0,.agg [ii p1,ii p2],ii e]) rfl rfl rfl trivial rfl rfl ?_;exact zvM
 have c2:e=0:=bneF c2;rw[if_neg (fun h=>h c2)] at hR;subst c2;refine g_wk (zap 104 rfl rfl) ?_;refine g_wk (zaR rfl) ?_;refine g_wk (zaJ 2 163 158 3 (pre:=[.i (zbc m.evs),.i (zj9 A),.i (zj9 B),.i (ziq xs)]) (post:=[]) rfl rfl rfl) ?_;refine zah ?_;refine zal (fun i:Nat=>[(1,.own 0 1 0 0),(2,.own 0 2 0 0),(3,.own 0 3 0 0),(121,.i (zdC m.cons)),(122,ii m.cons.length),(123,ii i)])
  (fun i=>[(1,.box (mdlC m)),(2,.box [.i (zbc m.evs),.i (zj9 A),.i (zj9 B),.i (ziq xs),.osl 0 163]),(3,.box [ii p1,ii p2]),(163,zxf ((m.cons.take i).map (zje m)))]) (fun _=>O) 168
  (fun i=>i≤m.cons.length) (fun i=>m.cons.length-i) 0 (Nat.zero_le _) ⟨rfl,rfl,rfl,rfl,rfl,rfl,trivial⟩ rfl ⟨rfl,rfl,rfl,rfl,trivial⟩ rfl rfl ?_
 intro i hi ih;have hi:i≤m.cons.length:=hi;refine zai Tk Tryz.func16 ?_;refine zad Tk Tryz.func16 rfl (fun g3=>?_) (fun g3=>?_)
 ·have g3:i<m.cons.length:=by simpa using g3
  have gs:(m.cons.map ncnI)[(i:Int).toNat]? = some (ncnI m.cons[i]):=zak (f:=ncnI) g3;have ht:=zbl (zje m) g3;have hcl3:((m.cons.take i).map (zje m)).length≤32:=by rw[List.length_map,List.length_take];omega
  have htl:=hcn2 m.cons[i] (List.getElem_mem g3);have hj1:ii (IntKind.i64.wrap ((i:Int)+1))=ii ((i+1:Nat):Int):=congrArg ii (zaE (n:=1000001) (by omega) (by decide));generalize (m.cons.take i).map (zje m)=L at *;generalize m.cons[i]=x at *;obtain⟨xn,ts,bd⟩:=x;simp only at htl;have hcr:zje m ⟨xn,ts,bd⟩=⟨xn,zf5 (ts.map fun t=>(fndI (m.comps.map (·.name)) t.1,t.2)),bd⟩:=rfl;rw[hcr] at ht;clear hcr;refine zaf Tk Tryz.func16 (by exact⟨by omega,by show (i:Int)<(m.cons.length:Int);omega⟩) ?_;refine zaq Tk Tryz.func16 (gs) ?_;refine g_wk (zaJ 20 153 160 2 (pre:=[sD xn]) (post:=[ii bd]) rfl rfl rfl) ?_;refine zah ?_;refine zal (fun j:Nat=>[(1,.own 0 1 0 0),(2,.own 0 2 0 0),(3,.own 0 3 0 0),(20,.own 0 20 0 0),(121,.i (zdC m.cons)),(122,ii m.cons.length),(123,ii i),(133,.i (zxk ts)),(134,ii ts.length),(135,ii j)])
   (fun j=>[(1,.box (mdlC m)),(2,.box [.i (zbc m.evs),.i (zj9 A),.i (zj9 B),.i (ziq xs),.osl 0 163]),(3,.box [ii p1,ii p2]),(163,zxf L),(20,.box [sD xn,.osl 0 153,ii bd]),(153,olTm ((ts.take j).map fun t=>(fndI (m.comps.map (·.name)) t.1,t.2)))]) (fun _=>O) 168
   (fun j=>j≤ts.length) (fun j=>ts.length-j) 0 (Nat.zero_le _) ⟨rfl,rfl,rfl,rfl,rfl,rfl,rfl,rfl,rfl,rfl,trivial⟩ rfl ⟨rfl,rfl,rfl,rfl,rfl,rfl,trivial⟩ rfl rfl ?_
  intro j hj ih2;have hj:j≤ts.length:=hj;refine zai Tk Tryz.func16 ?_;refine zad Tk Tryz.func16 rfl (fun g4=>?_) (fun g4=>?_)
  ·have g4:j<ts.length:=by simpa using g4
   have gt:(ts.map ntmI)[(j:Int).toNat]? = some (ntmI ts[j]):=zak (f:=ntmI) g4;have ht2:=zbl (fun t:NTm=>(fndI (m.comps.map (·.name)) t.1,t.2)) g4;have hl2:((ts.take j).map fun t=>(fndI (m.comps.map (·.name)) t.1,t.2)).length≤12:=by rw[List.length_map,List.length_take];omega
   have hf2:=fun O=>hf1 O ts[j].1;have hq:fndI (m.comps.map (·.name)) ts[j].1=fnd0 (nmIx (m.comps.map (·.name)) ts[j].1):=rfl;have hk1:ii (IntKind.i64.wrap ((j:Int)+1))=ii ((j+1:Nat):Int):=congrArg ii (zaE (n:=1000001) (by omega) (by decide));rw[hq] at ht2;clear hq;generalize ((ts.take j).map fun t=>(fndI (m.comps.map (·.name)) t.1,t.2))=T at *;generalize nmIx (m.comps.map (·.name)) ts[j].1=q at *;generalize ts[j]=y at *;obtain⟨yn,yf⟩:=y;simp only at hf2 ht2;refine zaf Tk Tryz.func16 (by exact⟨by omega,by show (j:Int)<(ts.length:Int);omega⟩) ?_;refine zaq Tk Tryz.func16 (gt) ?_;refine zaj Tk Tryz.func16 (hf2 _) rfl rfl rfl rfl rfl ?_;refine zaf Tk Tryz.func16 (by exact⟨by show (T.length+1)*16≤140737488355328;omega,by show T.length+1≤9223372036854775807;omega⟩) ?_;refine zah ?_
   refine ih2 (j+1) _ _ g4 (by omega) ⟨rfl,rfl,rfl,rfl,rfl,rfl,rfl,rfl,rfl,hk1,trivial⟩ rfl ⟨rfl,rfl,rfl,rfl,rfl,?_,trivial⟩ rfl rfl;rw[ht2];show some (Ob.arr 160 2 (T.length+1) (T.map zcb++[zcb (fnd0 q,yf)]) true)=_;simp[olTm]
  ·have g4:ts.length≤j:=by simpa using g4
   rw[List.take_of_length_le g4];have hl2:(ts.map fun t=>(fndI (m.comps.map (·.name)) t.1,t.2)).length≤12:=by rw[List.length_map];exact htl
   generalize (ts.map fun t=>(fndI (m.comps.map (·.name)) t.1,t.2))=T at *;have h57:=fun O d ho=>zyr O d 153 T hl2 ho;refine zaj Tk Tryz.func16 (h57 _ 0 rfl) rfl rfl rfl (za6 (ob:=olTm T) rfl (by simp[Ob.sh,zgA])) rfl ?_;refine zau ?_;refine zas (zap 153 rfl rfl) ?_;refine zas (zaR rfl) ?_;refine zai Tk Tryz.func16 ?_;refine g_go Tk Tryz.func16 ?_;refine zaf Tk Tryz.func16 (by exact⟨by show (L.length+1)*48≤140737488355328;omega,by show L.length+1≤9223372036854775807;omega⟩) ?_;refine zah ?_;refine ih (i+1) _ _ g3 (by omega) ⟨rfl,rfl,rfl,rfl,rfl,hj1,trivial⟩ rfl ⟨rfl,rfl,rfl,?_,trivial⟩ rfl rfl;rw[ht];show some (Ob.arr 158 3 (L.length+1) (L.map xcnI++[xcnI ⟨xn,zf5 T,bd⟩]) true)=_;simp[zxf]
 ·have g3:m.cons.length≤i:=by simpa using g3
  rw[List.take_of_length_le g3];subst hR;refine za9 (zap 163 rfl rfl) ?_;refine za9 (zaR rfl) ?_;refine zae Tk (r:=zyb (⟨m.evs,A,B,xs,m.cons.map (zje m)⟩,(0,0),0)) rfl rfl rfl trivial rfl rfl ?_;rfl
theorem zxr {m:Mdl} {p:Plc} (hm:mdlOk m) (hmv:∀t∈m.tpls,t.mach.moves.length≤19) (h:(mchA m p).2=0):∃x t,(mdlE m).2=0∧zdf m p=.ok x∧(mchA m p).1=mchR m x∧mchOk m x t∧mchR m x=mchE m x t∧extOk (mchR m x)∧(t.locs.length:Int)=t.mach.locs∧nmsE [] t.locs=0:=by
 unfold mchA at h ⊢
 by_cases h1:(mdlE m).2≠0
 ·rw[if_pos h1] at h;exact absurd h h1
 rw[if_neg h1] at h ⊢;have h1:(mdlE m).2=0:=Classical.byContradiction h1
 cases hp:zdf m p with
 |error e=>rw[hp] at h;exact absurd h (zfw hp)
 |ok x=>
  obtain⟨t,a1,a2,a3,a4,_⟩:=zgr hmv h1 (zfv hp);exact⟨x,t,h1,rfl,rfl,a1,a2,by rw[a2];exact zr4 hm (zlf hm (zfv hp)) a1,a3,a4⟩
theorem zjW:∀{l b:List ByteArray},nmsE b l=0→∀s∈l,s.size≤32
 |[],_,_,s,hs=>by simp at hs
 |x::r,b,h,s,hs=>by
  simp only[nmsE] at h
  by_cases h1:nmE b x≠0
  ·rw[if_pos h1] at h;exact absurd h h1
  rw[if_neg h1] at h;rcases List.mem_cons.1 hs with rfl|hs
  ·exact zgU (zwa (Classical.byContradiction h1)).1
  ·exact zjW h s hs
theorem zhw {all:List Vr}:∀{l:List Vr} {i:Nat},zbh all l i=0→∀v∈l,v.name.size≤32
 |[],_,_,v,hv=>by simp at hv
 |x::r,i,h,v,hv=>by
  simp only[zbh] at h
  split at h
  ·rename_i e he;subst h;unfold checkVr at he
   split at he;· cases he
   split at he;· cases he
   split at he;· cases he
   split at he;· cases he
   split at he<;>cases he
  ·rename_i he;rcases List.mem_cons.1 hv with rfl|hv
   ·unfold checkVr at he
    split at he;· cases he
    rename_i h1;exact zgU (by simpa using h1)
   ·exact zhw h v hv
theorem zwC {l:List Vr} (h:zbB l=0):∀v∈l,v.name.size≤32:=by
 unfold zbB at h
 split at h
 ·cases h
 ·exact zhw h
abbrev stgD (s:ByteArray) (e:Int):D:=.tup [.i (.v (.string s)),ii e]
theorem zyk {g:Nat} (hg:zda g) {ty:TypeId} {fr:Nat×Nat} (O:List Heap) (m:Mdl) (p:Plc) (s:Sta) (hm:mdlOk m) (hmv:∀t∈m.tpls,t.mach.moves.length≤19) :
  zba g (ptab ty fr) Tryz.prog 20 [mdlD m,.agg [ii p.1,ii p.2],staD s] O (stgD (labR m p s).1 (labR m p s).2) [] O:=by
 have h18:=fun O=>zt8 O m p hm hmv;have hk:=fun h=>zxr (p:=p) hm hmv h;have h61:=fun O=>zh8 O m p hm.toszOk;have hf:=fun O nm=>zer O m 2 nm hm.toszOk;rw[show namK m 2=m.tpls.map (·.name) from rfl] at hf;generalize hR:labR m p s=R;have hR:(if (mchA m p).2≠0 then ((⟨#[]⟩:ByteArray),(mchA m p).2) else match zdf m p with
  |.error e=>(⟨#[]⟩,e)
  |.ok x=>if ckS (mchR m x) s≠0 then (⟨#[]⟩,ckS (mchR m x) s) else match zc5 m x with
   |none=>(⟨#[]⟩,0)
   |some t=>(labT (mchR m x).vars s.vals (t.locs.getD s.loc.toNat ⟨#[]⟩),0))=R:=by
  rw[←hR];unfold labR mchA
  by_cases h1:(mdlE m).2≠0
  ·rw[if_pos h1,if_pos h1,if_pos h1]
  ·rw[if_neg h1,if_neg h1]
   cases hp:zdf m p with
   |error e=>simp only;rw[if_pos (zfw hp)]
   |ok x=>simp only;rw[if_neg (by decide)];rfl
 generalize hAA:mchA m p=A at *;obtain⟨X,e⟩:=A;obtain⟨a,b⟩:=p;obtain⟨sl,sv⟩:=s;simp only at h18 hk hR h61;refine zaM [] Tk Tryz.func20 rfl Tryz.call20 Tryz.ntmps20 (Nat.le_of_ble_eq_true rfl) fun E hE=>?_;refine zai Tk Tryz.func20 ?_;refine zaj Tk Tryz.func20 (h18 _) rfl rfl rfl rfl rfl ?_;refine zad Tk Tryz.func20 rfl (fun c1=>?_) (fun c1=>?_)
 ·have c1:e≠0:=bneT c1;rw[if_pos c1] at hR;subst hR;refine zae Tk (r:=stgD ⟨#[]⟩ e) rfl rfl rfl trivial rfl rfl ?_;rfl
 have c1:e=0:=bneF c1;rw[if_neg (fun h=>h c1)] at hR;obtain⟨x,t,_,hp,hX,hmo,hme,hok,hlo,hnm⟩:=hk c1;rw[hp] at hR;simp only at hR;have hck:=@zkC (mchR m x) ⟨sl,sv⟩;have h34:=fun O=>zfZ O (mchR m x) ⟨sl,sv⟩ hok;rw[←hX] at hR hck h34;rw[show zhG m (a,b)=(x,0) from by unfold zhG;rw[hp]] at h61;have htp:=hmo.tp;rw[htp] at hR;simp only at hR;have hXv:X.vars=t.mach.vars:=by rw[hX,hme];rfl
 have hXl:X.locs=t.mach.locs:=by rw[hX,hme];rfl
 have hvr:=hmo.right.vars;have hv16:t.mach.vars.length≤16:=by
  have:=hmo.right.vars;unfold zbB at this
  by_cases hc:t.mach.vars.length>16
  ·rw[if_pos hc] at this;cases this
  ·omega
 unfold zc5 at htp;rcases zfX Tpl.name m.tpls x.tpl with ⟨h1,_⟩|⟨k,t',h1,h2,h3⟩
 ·rw[h1] at htp;cases htp
 rw[h2] at htp
 cases htp
 have hf2:=fun O=>hf O x.tpl;rw[h3,zfe] at hf2;have hkl:k<m.tpls.length:=(List.getElem?_eq_some_iff.1 h1).1;have gt:(m.tpls.map tplI)[(k:Int).toNat]? = some (tplI t):=by rw[Int.toNat_natCast,List.getElem?_map,h1];rfl
 rw[←hXl] at hlo;rw[←hXv] at hvr hv16;clear h2 h3 hf hmo hme hok hXv hXl hp h18 hk hAA;generalize hC:ckS X ⟨sl,sv⟩=C at *;refine zaj Tk Tryz.func20 (h34 _) rfl rfl rfl rfl rfl ?_;refine zad Tk Tryz.func20 rfl (fun c2=>?_) (fun c2=>?_)
 ·have c2:C≠0:=bneT c2;rw[if_pos c2] at hR;subst hR;refine zae Tk (r:=stgD ⟨#[]⟩ C) rfl rfl rfl trivial rfl rfl ?_;rfl
 have c2:C=0:=bneF c2;rw[if_neg (fun h=>h c2)] at hR;obtain⟨_,k2,k3,k4,k5⟩:=hck c2;simp only at k2 k3 k4 k5;have hsl:sl.toNat<t.locs.length:=by omega
 have gl:(t.locs.map fun s=>[strI s])[sl.toNat]? = some [strI (t.locs.getD sl.toNat ⟨#[]⟩)]:=by
  rw[List.getElem?_map,List.getD_eq_getElem?_getD,List.getElem?_eq_getElem hsl];rfl
 have hs0:(t.locs.getD sl.toNat ⟨#[]⟩).size≤32:=by
  rw[List.getD_eq_getElem?_getD,List.getElem?_eq_getElem hsl];exact zjW hnm _ (List.getElem_mem hsl)
 generalize t.locs.getD sl.toNat ⟨#[]⟩=s0 at *;have hvn:=zwC hvr;have hvb:∀v∈sv,-65536≤v∧v≤65536:=by
  intro v hv;obtain⟨i,hi,rfl⟩:=List.getElem_of_mem hv;have:=(within_iff.1 k3).2 i (by omega) hi;have hb:=zkN hvr X.vars[i] (List.getElem_mem (by omega));omega
 obtain⟨xn,xt,xe⟩:=x;simp only at hf2;refine zaj Tk Tryz.func20 (h61 _) rfl rfl rfl rfl rfl ?_;refine zaj Tk Tryz.func20 (hf2 _) rfl rfl rfl rfl rfl ?_;refine zat Tk Tryz.func20 zaA rfl ?_;refine zar Tk (by exact⟨by omega,by show (k:Int)<(m.tpls.length:Int);omega⟩) ?_;refine zax Tk (gt) ?_;refine zar Tk (by exact⟨k4,by show sl<(t.locs.length:Int);omega⟩) ?_;refine zax Tk (gl) ?_;refine zaC Tk Tryz.func20 (by kernel_rfl) ?_;generalize hT:labT X.vars sv s0=T at hR;subst hR;refine zah ?_;refine zal (fun x:Nat×ByteArray=>[(5,.own 0 5 0 0),(15,sD x.2),(57,vrs X.vars),(58,ii X.vars.length),(59,ii x.1)])
  (fun _=>[(5,.box [ii sl,ints sv])]) (fun _=>O) 79
  (fun x=>x.1≤X.vars.length∧x.2.size≤100+100*x.1∧labT (X.vars.drop x.1) (sv.drop x.1) x.2=T) (fun x=>X.vars.length-x.1) (0,s0) ⟨Nat.zero_le _,by simp only;omega,hT⟩ ⟨rfl,rfl,rfl,rfl,rfl,trivial⟩ rfl ⟨rfl,trivial⟩ rfl rfl ?_
 clear hT;rintro ⟨i,acc⟩ ⟨hi,has,hno⟩ ih;simp only at hi has hno;refine zai Tk Tryz.func20 ?_;refine zad Tk Tryz.func20 rfl (fun g1=>?_) (fun g1=>?_)
 ·have g1:i<X.vars.length:=by simpa using g1
  have g1':i<sv.length:=by omega
  have gv:(X.vars.map vrI)[(i:Int).toNat]? = some (vrI X.vars[i]):=zak (f:=vrI) g1;have gn:(sv.map fun x=>[vi x])[(i:Int).toNat]? = some [vi sv[i]]:=zak (f:=fun x=>[vi x]) g1';have hvi:=hvn X.vars[i] (List.getElem_mem g1);have hni:=hvb sv[i] (List.getElem_mem g1');rw[List.drop_eq_getElem_cons g1,List.drop_eq_getElem_cons g1'] at hno;simp only[labT] at hno;have hit:=fun O=>zj8 hg (ty:=ty) (fr:=fr) O sv[i] (by omega) (by omega);have hsz:=zcH (n:=sv[i]) (by omega) (by omega);have hj1:ii (IntKind.i64.wrap ((i:Int)+1))=ii ((i+1:Nat):Int):=congrArg ii (zaE (n:=1000001) (by omega) (by decide));generalize X.vars[i]=v at *;generalize zcU sv[i]=tx at *;generalize sv[i]=n at *;obtain⟨vn,vlo,vhi,vin⟩:=v;simp only at hno hvi;have hs1:((⟨#[32]⟩:ByteArray)++vn).size=1+vn.size:=ByteArray.size_append
  have hs2:((⟨#[32]⟩:ByteArray)++vn++⟨#[61]⟩).size=1+vn.size+1:=by rw[ByteArray.size_append,hs1];rfl
  have hs3:((⟨#[32]⟩:ByteArray)++vn++⟨#[61]⟩++tx).size=1+vn.size+1+tx.size:=by rw[ByteArray.size_append,hs2]
  refine zaf Tk Tryz.func20 (by exact⟨by omega,by show (i:Int)<(X.vars.length:Int);omega⟩) ?_;refine zaq Tk Tryz.func20 (gv) ?_;refine zat Tk Tryz.func20 zaA rfl ?_;refine zar Tk (by show 1+vn.size≤9223372036854775807;omega) ?_;refine zar Tk (by show ((⟨#[32]⟩:ByteArray)++vn).size+1≤9223372036854775807;rw[hs1];omega) ?_;refine zar Tk (by exact⟨by omega,by show (i:Int)<(sv.length:Int);omega⟩) ?_;refine zax Tk (gn) ?_;refine zdp Tk hE (hit _) rfl rfl rfl rfl ?_;refine zar Tk (by show ((⟨#[32]⟩:ByteArray)++vn++⟨#[61]⟩).size+tx.size≤9223372036854775807;rw[hs2];omega) ?_;refine zar Tk (by show acc.size+((⟨#[32]⟩:ByteArray)++vn++⟨#[61]⟩++tx).size≤9223372036854775807;rw[hs3];omega) ?_;refine zaC Tk Tryz.func20 (by kernel_rfl) ?_;refine zah ?_
  exact ih (i+1,acc++(⟨#[32]⟩++vn++⟨#[61]⟩++tx)) _ _ ⟨g1,by simp only;rw[ByteArray.size_append,hs3];omega,hno⟩ (by simp only;omega) ⟨rfl,rfl,rfl,rfl,hj1,trivial⟩ rfl ⟨rfl,trivial⟩ rfl rfl
 ·have g1:X.vars.length≤i:=by simpa using g1
  rw[List.drop_eq_nil_of_le g1] at hno;have hno:acc=T:=by rw[←hno];simp[labT]
  subst hno;refine zae Tk (r:=stgD acc 0) rfl rfl rfl trivial rfl rfl ?_;rfl
end Go.AI
namespace Go.AI
def valB:Value→Value→Bool
 |.string a,.string b=>a.data.toList==b.data.toList
 |.int k a,.int k' b=>decide (k=k')&&a==b
 |.bool a,.bool b=>a==b
 |.slice none 0 0,.slice none 0 0=>true
 |_,_=>false
theorem zwE:∀{x y:Value},valB x y=true→x=y:=by
 intro x y h;unfold valB at h
 split at h
 ·rw[beq_iff_eq] at h;exact congrArg Value.string (ByteArray.ext (Array.ext' h))
 ·simp only[Bool.and_eq_true,decide_eq_true_eq,beq_iff_eq] at h;rw[h.1,h.2]
 ·rw[beq_iff_eq] at h;rw[h]
 ·rfl
 ·cases h
mutual
def coIB:I→I→Bool
 |.v x,.v y=>valB x y
 |.v (.slice none 0 0),.sl _ 0 []=>true
 |.sl es n xs,.sl es' n' ys=>es==es'&&(n==n'&&zqf xs ys)
 |_,_=>false
def coLB:List I→List I→Bool
 |[],[]=>true
 |x::xs,y::ys=>coIB x y&&coLB xs ys
 |_,_=>false
def zqf:List (List I)→List (List I)→Bool
 |[],[]=>true
 |x::xs,y::ys=>coLB x y&&zqf xs ys
 |_,_=>false
end
mutual
theorem zlG:∀{x y:I},coIB x y=true→CoI x y
 |.v x,.v y,h=>by
  simp only[coIB] at h;rw[zwE h];exact CoI.refl _
 |.v x,.sl es n ys,h=>by
  unfold coIB at h
  split at h
  ·rename_i e1 e2;cases e2
  ·rename_i e1 e2;cases e1;cases e2;exact zbf
  ·rename_i e1 e2;cases e1
  ·cases h
 |.sl es n xs,.sl es' n' ys,h=>by
  simp only[coIB,Bool.and_eq_true,beq_iff_eq] at h;obtain⟨rfl,rfl,h⟩:=h;exact zcA (znW h)
 |.v x,.ptr _ _ _ _,h=>by simp[coIB] at h
 |.sl _ _ _,.v _,h=>by simp[coIB] at h
 |.sl _ _ _,.ptr _ _ _ _,h=>by simp[coIB] at h
 |.ptr _ _ _ _,_,h=>by simp[coIB] at h
theorem zs0:∀{x y:List I},coLB x y=true→CoL x y
 |[],[],_=>.nil
 |x::xs,y::ys,h=>by
  simp only[coLB,Bool.and_eq_true] at h;exact .cons (zlG h.1) (zs0 h.2)
 |[],_::_,h=>by simp[coLB] at h
 |_::_,[],h=>by simp[coLB] at h
theorem znW:∀{x y:List (List I)},zqf x y=true→CoLL x y
 |[],[],_=>.nil
 |x::xs,y::ys,h=>by
  simp only[zqf,Bool.and_eq_true] at h;exact .cons (zs0 h.1) (znW h.2)
 |[],_::_,h=>by simp[zqf] at h
 |_::_,[],h=>by simp[zqf] at h
end
def coDB:List D→List D→Bool
 |[],[]=>true
 |.i x::xs,.i y::ys=>coIB x y&&coDB xs ys
 |.osl a b::xs,.osl c d::ys=>a==c&&(b==d&&coDB xs ys)
 |_,_=>false
theorem zht:∀{x y:List D},coDB x y=true→CoDL x y
 |[],[],_=>.nil
 |.i x::xs,.i y::ys,h=>by
  simp only[coDB,Bool.and_eq_true] at h;exact .cons (zcz (zlG h.1)) (zht h.2)
 |.osl a b::xs,.osl c d::ys,h=>by
  simp only[coDB,Bool.and_eq_true,beq_iff_eq] at h;obtain⟨rfl,rfl,h⟩:=h;exact .cons (CoD.refl _) (zht h)
 |x::xs,y::ys,h=>by
  unfold coDB at h
  split at h
  ·rename_i e1 e2;cases e1
  ·rename_i e1 e2
   cases e1;cases e2
   simp only[Bool.and_eq_true] at h;exact .cons (zcz (zlG h.1)) (zht h.2)
  ·rename_i e1 e2
   cases e1;cases e2
   simp only[Bool.and_eq_true,beq_iff_eq] at h;obtain⟨rfl,rfl,h⟩:=h;exact .cons (CoD.refl _) (zht h)
  ·cases h
 |[],_::_,h=>by simp[coDB] at h
 |_::_,[],h=>by simp[coDB] at h
theorem zvN {x y:List D} (h:coDB x y=true):CoD (.agg x) (.agg y):=zbD (zht h)
end Go.AI
namespace Go.AI
open Go.Proofs
set_option maxRecDepth 20000
mutual
def nilJ:I→I
 |.sl es n xs=>match xs with
  |[]=>.v (.slice none 0 0)
  |x::r=>.sl es n (nilL x::zyJ r)
 |d=>d
def nilL:List I→List I
 |[]=>[]
 |x::r=>nilJ x::nilL r
def zyJ:List (List I)→List (List I)
 |[]=>[]
 |x::r=>nilL x::zyJ r
end
def nilD:D→D
 |.i x=>.i (nilJ x)
 |d=>d
theorem zuw:CoD (.agg ((mdlC shopM).map nilD)) (mdlD shopM):=zvN (by kernel_rfl)
set_option maxHeartbeats 8000000 in
theorem zyx (O:List Heap):zao Tryz.prog 26 [] O (mdlD shopM) [] O:=by
 refine zaa Tk Tryz.func26 rfl Tryz.call26 Tryz.ntmps26 (Nat.le_of_ble_eq_true rfl) fun E=>?_;refine zai Tk Tryz.func26 ?_;refine zaF Tk (r:=.agg ((mdlC shopM).map nilD)) rfl rfl rfl trivial (by kernel_rfl) rfl ?_;exact zuw
theorem zsR (O:List Heap) (es:List Edg) (he:es.length≤zan):zao Tryz.prog 115 [edgs es,edgs es] O (bb true) [] O:=by
 refine zaa Tk Tryz.func115 rfl Tryz.call115 Tryz.ntmps115 (Nat.le_of_ble_eq_true rfl) fun E=>?_;refine zai Tk Tryz.func115 ?_;refine zad Tk Tryz.func115 rfl (fun g1=>?_) (fun g1=>?_)
 ·exact absurd rfl (bneT g1)
 refine zah ?_;refine zal (fun i:Nat=>[(0,edgs es),(1,edgs es),(12,ii es.length),(13,ii i)]) (fun _=>[]) (fun _=>O) 26
  (fun i=>i≤es.length) (fun i=>es.length-i) 0 (Nat.zero_le _) ⟨rfl,rfl,rfl,rfl,trivial⟩ rfl trivial rfl rfl ?_
 rintro i hi ih;refine zai Tk Tryz.func115 ?_;refine zad Tk Tryz.func115 rfl (fun g3=>?_) (fun g3=>?_)
 ·have h3:i<es.length:=by simpa using g3
  have ge:(es.map edgI)[(i:Int).toNat]? = some (edgI es[i]):=zak h3;generalize es[i]=e at *;refine zat Tk Tryz.func115 zaA rfl ?_;refine zar Tk (by exact⟨by omega,by show (i:Int)<(es.length:Int);omega⟩) ?_;refine zax Tk (ge) ?_;refine zar Tk (by exact⟨by omega,by show (i:Int)<(es.length:Int);omega⟩) ?_;refine zax Tk (ge) ?_;refine zaC Tk Tryz.func115 (by kernel_rfl) ?_;refine zad Tk Tryz.func115 rfl (fun g4=>?_) (fun g4=>?_)
  ·simp at g4
  ·refine zah ?_;exact ih (i+1) _ _ h3 (by omega) ⟨rfl,rfl,rfl,congrArg ii (zaE h3 he),trivial⟩ rfl trivial rfl rfl
 ·refine zae Tk (r:=bb true) rfl rfl rfl trivial rfl rfl ?_;rfl
theorem zsS (O:List Heap) (a:Aut) (ha:a.alpha.length≤zan) (hm:a.marked.length≤zan) (he:a.edges.length≤zan):zao Tryz.prog 42 [autD a,autD a] O (bb true) [] O:=by
 obtain⟨al,n,mk,es⟩:=a;simp only at ha hm he;have h1:∀O,zao Tryz.prog 67 [ints al,ints al] O (bb true) [] O:=fun O=>by
  have h:=zhq O al al ha;rwa [decide_eq_true rfl] at h
 have h2:∀O,zao Tryz.prog 67 [ints mk,ints mk] O (bb true) [] O:=fun O=>by
  have h:=zhq O mk mk hm;rwa [decide_eq_true rfl] at h
 have h3:=fun O=>zsR O es he;refine zaa Tk Tryz.func42 rfl Tryz.call42 Tryz.ntmps42 (Nat.le_of_ble_eq_true rfl) fun E=>?_;refine zai Tk Tryz.func42 ?_;refine zaw Tk Tryz.func42 rfl (fun c1=>?_) (fun c1=>?_);rotate_left
 ·exact absurd rfl (beqF c1)
 refine zaj Tk Tryz.func42 (h1 _) rfl rfl rfl rfl rfl ?_;refine gkT Tk Tryz.func42 rfl ?_;refine zaj Tk Tryz.func42 (h2 _) rfl rfl rfl rfl rfl ?_;refine gkT Tk Tryz.func42 rfl ?_;refine zaj Tk Tryz.func42 (h3 _) rfl rfl rfl rfl rfl ?_;refine zae Tk (r:=bb true) rfl rfl rfl trivial rfl rfl ?_;rfl
theorem zyl:exOk yesX:=by simp[yesX,exOk,zkt,zan]
theorem zu0:extOk zr7:=by
 refine⟨by decide,by decide,by decide,by simp[zr7],by decide,?_⟩;intro x hx;simp only[zr7,List.mem_cons,List.not_mem_nil,or_false] at hx;rcases hx with rfl|rfl<;>exact⟨zyl,by decide,by simp⟩
theorem zvY:extOk zvZ:=by
 refine⟨by decide,by decide,by decide,?_,by decide,?_⟩
 ·intro v hv;simp only[zvZ,List.mem_cons,List.not_mem_nil,or_false] at hv;subst hv;decide
 ·intro x hx;simp only[zvZ,List.mem_cons,List.not_mem_nil,or_false] at hx;subst hx;refine⟨by simp[exOk,zkt,zan],by decide,?_⟩;intro u hu;simp only[List.mem_cons,List.not_mem_nil,or_false] at hu;subst hu;simp[exOk,zkt,zan]
theorem zwI:tplOk tplX:=⟨by decide,by decide,by
  intro s hs;simp only[tplX,List.mem_cons,List.not_mem_nil,or_false] at hs;rcases hs with rfl|rfl<;>decide,by decide,by
  intro s hs;simp only[tplX,List.mem_cons,List.not_mem_nil,or_false] at hs;rcases hs with rfl|rfl<;>decide,zu0⟩
theorem zgF:∀t∈shopM.tpls,tplOk t∧t.mach.moves.length≤19:=by
 intro t ht;simp only[shopM,List.mem_cons,List.not_mem_nil,or_false] at ht;rcases ht with rfl|rfl
 ·exact⟨zwI,by decide⟩
 ·refine⟨⟨by decide,by decide,?_,by decide,?_,zvY⟩,by decide⟩
  ·intro s hs;simp only[List.mem_cons,List.not_mem_nil,or_false] at hs;subst hs;decide
  ·intro s hs;simp only[List.mem_cons,List.not_mem_nil,or_false] at hs;subst hs;decide
theorem zwX:szOk shopM:=⟨by decide,by decide,by decide,by decide,by decide,by decide⟩
theorem zuv:∀x∈shopM.evs,x.name.size≤zan:=by
 intro x hx;simp only[shopM,List.mem_cons,List.not_mem_nil,or_false] at hx;rcases hx with rfl|rfl<;>decide
theorem zpz:∀x∈shopM.comps,insOk x:=by
 intro x hx;simp only[shopM,List.mem_cons,List.not_mem_nil,or_false] at hx;rcases hx with rfl|rfl<;>exact⟨by decide,by decide⟩
theorem zrx:∀x∈shopM.excs,x.name.size≤zan∧x.locals.length≤1000000:=by
 intro x hx;simp only[shopM,List.mem_cons,List.not_mem_nil,or_false] at hx;subst hx;exact⟨by decide,by decide⟩
theorem zrw:mdlOk shopM:={ toszOk:=zwX,nm:=by decide,evn:=zuv,tpk:=fun t ht=>(zgF t ht).1,cok:=zpz,rqk:=fun x hx=>(by cases hx),exk:=zrx,cnk:=fun x hx=>(by cases hx)}
theorem zxD {g:Nat} (hg:zda g) {ty:TypeId} {fr:Nat×Nat} (O:List Heap):zba g (ptab ty fr) Tryz.prog 11 [] O (bb true) [] O:=by
 have hs:=fun O=>zyx O;have hC:=fun O=>zzk hg (ty:=ty) (fr:=fr) O shopM zrw fun t ht=>(zgF t ht).2;rw[zry] at hC;have hL:=fun O=>zyk hg (ty:=ty) (fr:=fr) O shopM (3,1) ⟨0,[2]⟩ zrw fun t ht=>(zgF t ht).2;rw[zpy] at hL;have hEq:=fun O=>zsS O ⟨[0,1],2,[0],[(0,1,1),(1,0,0)]⟩ (by decide) (by decide) (by decide);refine zaM [] Tk Tryz.func11 rfl Tryz.call11 Tryz.ntmps11 (Nat.le_of_ble_eq_true rfl) fun E hE=>?_;refine zai Tk Tryz.func11 ?_;refine zaj Tk Tryz.func11 (hs _) rfl rfl rfl rfl rfl ?_;refine zbM Tk Tryz.func11 hE (hC _) rfl rfl rfl rfl rfl rfl ?_
 repeat (first|refine gcT Tk Tryz.func11 rfl ?_|refine gkT Tk Tryz.func11 rfl ?_|refine skT Tk ?_|refine gcF Tk Tryz.func11 rfl ?_|refine gkF Tk Tryz.func11 rfl ?_|refine skF Tk ?_)
 refine zaf Tk Tryz.func11 (by decide) ?_;refine zaq Tk Tryz.func11 (rfl) ?_;refine zaj Tk Tryz.func11 (hs _) rfl rfl rfl rfl rfl ?_;refine zbM Tk Tryz.func11 hE (hL _) rfl rfl rfl rfl rfl rfl ?_;refine zaf Tk Tryz.func11 (by decide) ?_;refine zaq Tk Tryz.func11 (rfl) ?_;refine zaj Tk Tryz.func11 (hEq _) rfl rfl rfl rfl rfl ?_;refine gkT Tk Tryz.func11 rfl ?_;refine zaf Tk Tryz.func11 (by decide) ?_;refine zaq Tk Tryz.func11 (rfl) ?_;refine gkT Tk Tryz.func11 rfl ?_;refine zaw Tk Tryz.func11 rfl (fun _=>?_) (fun h=>absurd h (by rw[zbe];decide));refine gkT Tk Tryz.func11 rfl ?_;refine zaf Tk Tryz.func11 (by decide) ?_;refine zaq Tk Tryz.func11 (rfl) ?_;refine gkT Tk Tryz.func11 rfl ?_;refine zaf Tk Tryz.func11 (by decide) ?_;refine zaq Tk Tryz.func11 (rfl) ?_;refine gkT Tk Tryz.func11 rfl ?_;refine zaw Tk Tryz.func11 rfl (fun _=>?_) (fun h=>absurd h (by rw[zbe];decide))
 refine zae Tk (r:=bb true) rfl rfl rfl trivial rfl rfl ?_;rfl
abbrev zxg (l:List Tpl):Ob:=.arr 87 9 l.length (l.map tplI) true
abbrev ziM (l:List NEx):Ob:=.arr 91 2 l.length (l.map nexI) true
theorem zpT (c:UInt8) (i:Nat) (h:i≤1000):(zbC c i).size≤22:=by
 unfold zbC;rw[ByteArray.size_append];have:=zcH (n:=(i:Int)) (by omega) (by omega);show 1+_≤_;omega
end Go.AI
