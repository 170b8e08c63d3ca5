/- The layer of abstract runs, part 32. -/
import Derived.Test.YtnojpbbaohoadaaGreatDoorFoxZE
set_option linter.unusedSimpArgs false
set_option linter.unusedVariables false
set_option linter.all false
set_option maxHeartbeats 4000000
namespace Go.AI
def zbX (m:Mdl) (x:NLc):Bool:=match m.comps.find? (fun c=>sB c.name x.1) with
 | none=>false
 | some c=>match zb1 m c with
  | none=>false
  | some t=>decide (nmIx t.locs x.2 ≥ 0)
def zbK (x:NTm):Bool:=decide (x.2≠0) && decide (x.2 ≥ -65536) && decide (x.2≤65536)
theorem zky (l:List Ins) (s:ByteArray):l.find? (fun c=>sB c.name s)=none ↔ nmIx (l.map (·.name)) s<0:=by
 rcases zdv Ins.name l s with ⟨h1,h2⟩ | ⟨k,e,h1,h2,h3⟩
 ·rw[h1,h2];simp
 ·rw[h2,h3]
  constructor
  ·intro h;cases h
  ·intro h;omega
theorem zsx (m:Mdl):∀ (l:List NLc) (b:List ByteArray),lcsE m b l=cpE m 9 b (l.map fun x=>(x.1,zbX m x))
 | [],_=>rfl
 | x::r,b=>by
  have ih:=zsx m r (b++[x.1])
  have h1:=zky m.comps x.1
  simp only[lcsE,List.map_cons,cpE,zbX]
  cases hf:m.comps.find? (fun c=>sB c.name x.1) with
  | none=>
   rw[hf] at h1
   simp only[true_iff] at h1
   rw[if_pos h1]
  | some c=>
   rw[hf] at h1
   simp only[reduceCtorEq,false_iff] at h1
   rw[if_neg h1]
   simp only
   rw[zdR]
   by_cases h2:nmIx b x.1 ≥ 0
   ·rw[if_pos (by simpa using h2),if_pos h2]
   rw[if_neg (by simpa using h2),if_neg h2]
   have hT:zb1 m c=none∨∃ t,zb1 m c=some t:=by
    generalize zb1 m c=o
    cases o with
    | none=>exact .inl rfl
    | some t=>exact .inr ⟨t,rfl⟩
   rcases hT with ht | ⟨t,ht⟩
   ·simp only[ht,if_true]
   ·simp only[ht,zdR]
    by_cases h3:nmIx t.locs x.2 ≥ 0
    ·rw[if_neg (by simpa using h3),if_neg (by simpa using h3),ih]
     simp only[zbX]
    ·rw[if_pos (by simpa using h3),if_pos (by simpa using h3)]
theorem zx1 (m:Mdl) (x:NEx):excE m x=if (x.locals.map fun y=>(y.1,zbX m y)).length=0 then 12 else cpE m 9 [] (x.locals.map fun y=>(y.1,zbX m y)):=by
 unfold excE
 rw[List.length_map,zsx]
theorem zru (m:Mdl):∀ (l:List NTm) (b:List ByteArray),tmsE m b l=cpE m 2 b (l.map fun x=>(x.1,zbK x))
 | [],_=>rfl
 | x::r,b=>by
  have ih:=zru m r (b++[x.1])
  simp only[tmsE,List.map_cons,cpE,zdR]
  by_cases h1:nmIx (m.comps.map (·.name)) x.1<0
  ·rw[if_pos (by simp;omega),if_pos h1]
  rw[if_neg (by simp;omega),if_neg h1]
  by_cases h2:nmIx b x.1 ≥ 0
  ·rw[if_pos (by simpa using h2),if_pos h2]
  rw[if_neg (by simpa using h2),if_neg h2]
  have e:(x.2=0∨bigB x.2=true) ↔ zbK x=false:=by
   unfold bigB zbK
   simp only[Bool.or_eq_true,decide_eq_true_eq,Bool.and_eq_false_iff,decide_eq_false_iff_not]
   omega
  by_cases h3:x.2=0∨bigB x.2=true
  ·rw[if_pos h3,if_pos (e.1 h3)]
  ·rw[if_neg h3,if_neg fun h=>h3 (e.2 h),ih]
end Go.AI
namespace Go.AI
open Go.Proofs
theorem zfr (l:List ByteArray) (s:ByteArray):(nmIx l s = -1∧s ∉ l)∨∃ k,l[k]? = some s∧nmIx l s=((k:Nat):Int):=by
 rcases zdS (p:=fun x=>sB x s) l 0 with ⟨h1,h2⟩ | ⟨k,e,h1,h2,h3⟩
 ·refine .inl ⟨h2,fun hm=>?_⟩
  have:=List.find?_eq_none.1 h1 s hm
  exact this (zcO.2 rfl)
 ·have:=List.find?_some h2
  have:=zcO.1 this
  subst this
  exact .inr ⟨k,h1,by unfold nmIx;rw[h3,Nat.zero_add]⟩
theorem znD {α:Type} {l:List α} (h:l.Nodup) {i j:Nat} {s:α} (hi:l[i]? = some s) (hj:l[j]? = some s):i=j:=by
 obtain⟨hi1,hi2⟩:=List.getElem?_eq_some_iff.1 hi
 obtain⟨hj1,hj2⟩:=List.getElem?_eq_some_iff.1 hj
 have hp:=List.pairwise_iff_getElem.1 h
 rcases Nat.lt_trichotomy i j with c | c | c
 ·exact absurd (hi2.trans hj2.symm) (hp i j hi1 hj1 c)
 ·exact c
 ·exact absurd (hj2.trans hi2.symm) (hp j i hj1 hi1 c)
theorem zvf {l:List ByteArray} (h:l.Nodup) {s:ByteArray} {k:Nat}:nmIx l s=(k:Int) ↔ l[k]? = some s:=by
 rcases zfr l s with ⟨h1,h2⟩ | ⟨j,h1,h2⟩
 ·constructor
  ·intro e;omega
  ·intro e;exact absurd (List.mem_of_getElem? e) h2
 ·constructor
  ·intro e
   rw[h2] at e
   have:j=k:=by omega
   rw[← this];exact h1
  ·intro e
   rw[h2,znD h h1 e]
theorem znE {l:List ByteArray} {s:ByteArray}:nmIx l s ≥ 0 ↔ s∈l:=by
 rcases zfr l s with ⟨h1,h2⟩ | ⟨j,h1,h2⟩
 ·constructor
  ·intro e;omega
  ·intro e;exact absurd e h2
 ·exact⟨fun _=>List.mem_of_getElem? h1,fun _=>by omega⟩
theorem zn5 {N:List ByteArray} (h:N.Nodup) {s:ByteArray} (hs:s∈N) {k:Nat}:fndI N s=(k:Int) ↔ N[k]? = some s:=by
 have:=znE.2 hs
 unfold fndI
 rw[if_neg (by omega)]
 exact zvf h
theorem zkv {N:List ByteArray} {s:ByteArray} (hs:s∈N):∃ k,N[k]? = some s∧fndI N s=((k:Nat):Int):=by
 rcases zfr N s with ⟨h1,h2⟩ | ⟨j,h1,h2⟩
 ·exact absurd hs h2
 ·refine⟨j,h1,?_⟩
  unfold fndI
  rw[if_neg (by omega)]
  exact h2
theorem zki {m:Mdl}:∀ {l b:List ByteArray},zdu m b l=0→(∀ s∈l,s∈m.evs.map (·.name)∧s ∉ b)∧l.Nodup
 | [],_,_=>⟨by simp,by simp⟩
 | s::r,b,h=>by
  simp only[zdu] at h
  by_cases h1:hasB (m.evs.map (·.name)) s=false
  ·rw[if_pos h1] at h;cases h
  rw[if_neg h1] at h
  by_cases h2:hasB b s=true
  ·rw[if_pos h2] at h;cases h
  rw[if_neg h2] at h
  obtain⟨h3,h4⟩:=zki h
  refine⟨fun x hx=>?_,?_⟩
  ·rcases List.mem_cons.1 hx with rfl | hx
   ·exact⟨zgi.1 (by simpa using h1),zi1 h2⟩
   ·exact⟨(h3 x hx).1,fun hb=>(h3 x hx).2 (by simp[hb])⟩
  ·rw[List.nodup_cons]
   exact⟨fun hm=>(h3 s hm).2 (by simp),h4⟩
theorem zqr:(evs4.map (·.name)).Nodup:=by
 unfold evs4
 simp only[List.map_cons,List.map_nil,List.nodup_cons,List.mem_cons,List.mem_nil_iff,or_false,not_or,not_false_eq_true,List.nodup_nil,and_true,true_and]
 decide
end Go.AI
namespace Go.AI
open Go.Proofs
set_option maxRecDepth 20000
abbrev plcI (x:Plc):List I:=[vi x.1,vi x.2]
abbrev olPl (l:List Plc):Ob:=.arr 41 2 l.length (l.map plcI) true
def zts (x y:Plc):Int:=if cmpI x.1 y.1≠0 then cmpI x.1 y.1 else cmpI x.2 y.2
abbrev ltPl (x y:Plc):Prop:=x.1<y.1∨x.1=y.1∧x.2<y.2
theorem zvT {x y:Plc}:zts x y<0 ↔ ltPl x y:=by
 unfold zts cmpI ltPl
 by_cases h1:x.1<y.1
 ·rw[if_pos h1,if_pos (by decide)];simp[h1]
 rw[if_neg h1]
 by_cases h2:x.1>y.1
 ·rw[if_pos h2,if_pos (by decide)]
  constructor
  ·intro h;omega
  ·intro h;omega
 rw[if_neg h2,if_neg (by decide)]
 by_cases h3:x.2<y.2
 ·rw[if_pos h3];constructor
  ·intro _;exact .inr ⟨by omega,h3⟩
  ·intro _;decide
 rw[if_neg h3]
 by_cases h4:x.2>y.2
 ·rw[if_pos h4];constructor
  ·intro h;omega
  ·intro h;omega
 ·rw[if_neg h4];constructor
  ·intro h;omega
  ·intro h;omega
def zdz (x:Plc):List Plc→List Plc
 | []=>[x]
 | y::r=>if ltPl x y then x::y::r else y::zdz x r
def zc3 (l:List Plc):List Plc:=l.foldl (fun acc x=>zdz x acc) []
abbrev zkZ (l:List Plc):Prop:=l.Pairwise fun x y=>¬ ltPl y x
theorem zeC {x:Plc}:∀ {P S:List Plc},(∀ p∈P,¬ ltPl x p)→(∀ s∈S,ltPl x s)→zdz x (P++S)=P++x::S
 | [],[],_,_=>rfl
 | [],s::r,_,h=>by
  have:=h s (by simp)
  simp only[List.nil_append,zdz]
  rw[if_pos this]
 | p::P,S,h,h2=>by
  have:=h p (by simp)
  simp only[List.cons_append,zdz]
  rw[if_neg this,zeC (fun q hq=>h q (by simp[hq])) h2]
theorem zjE {x:Plc} {P S:List Plc} (h:zkZ (P++S)) (hp:∀ p∈P,¬ ltPl x p) (hs:∀ s∈S,ltPl x s):zkZ (P++x::S):=by
 obtain⟨h1,h2,h3⟩:=List.pairwise_append.1 h
 refine List.pairwise_append.2 ⟨h1,List.pairwise_cons.2 ⟨fun s hs'=>?_,h2⟩,fun a ha b hb=>?_⟩
 ·have:=hs s hs'
  unfold ltPl at *
  omega
 ·rcases List.mem_cons.1 hb with rfl | hb
  ·exact hp a ha
  ·exact h3 a ha b hb
theorem zwa:∀ (P:List Plc) (p x:Plc) (T:List Plc),(((P++p::x::T).map plcI).set (P.length+1) (plcI p)).set P.length (plcI x)=(P++x::p::T).map plcI
 | [],p,x,T=>rfl
 | q::P,p,x,T=>by
  have:=zwa P p x T
  simp only[List.cons_append,List.map_cons,List.length_cons,List.set_cons_succ,this]
theorem zyx (P:List Plc):P=[]∨∃ Q p,P=Q++[p]:=by
 by_cases h:P=[]
 ·exact .inl h
 ·exact .inr ⟨P.dropLast,P.getLast h,(List.dropLast_concat_getLast h).symm⟩
theorem zpJ (A:List Plc) (x:Plc):zc3 (A++[x])=zdz x (zc3 A):=by simp[zc3,List.foldl_append]
theorem zyU (O:List Heap) (x y:Plc):zan Tryz.prog 63 [.agg [ii x.1,ii x.2],.agg [ii y.1,ii y.2]] O (ii (zts x y)) [] O:=by
 have h1:=fun O=>zil O x.1 y.1
 have h2:=fun O=>zil O x.2 y.2
 have h3:=fun O=>zyK O (cmpI x.1 y.1) (cmpI x.2 y.2)
 unfold zts
 generalize cmpI x.1 y.1=a at *
 generalize cmpI x.2 y.2=b at *
 refine zaa Tk Tryz.func63 rfl Tryz.call63 Tryz.ntmps63 (Nat.le_of_ble_eq_true rfl) fun E=>?_
 refine zah Tk Tryz.func63 ?_
 refine zas Tk Tryz.func63 zaz rfl ?_
 refine zaH Tk (fun _=>h1 _) rfl rfl rfl ?_
 refine zaH Tk (fun _=>h2 _) rfl rfl rfl ?_
 refine zaH Tk (fun _=>h3 _) rfl rfl rfl ?_
 refine zaD Tk Tryz.func63 (by kernel_rfl) ?_
 refine zag Tk (r:=ii (if a≠0 then a else b)) rfl rfl rfl trivial rfl rfl ?_
 rfl
abbrev fn63:D:=.fn (.func 63) [] []
theorem zy7 {A:List Plc} {x:Plc} {T:List Plc} {k:Nat} (hk:k=A.length):((A++x::T).map plcI)[((k:Nat):Int).toNat]? = some (plcI x):=by
 subst hk
 simp
set_option maxHeartbeats 8000000 in
theorem zy3 (O:List Heap) (d nm:Nat) (l:List Plc) (hl:l.length≤1000) (ho:zab O d nm=some (olPl l)):zan Tryz.prog 192 [.osl d nm,ii 0,ii l.length,fn63] O (.tup []) [] (setAt O d nm (olPl (zc3 l))):=by
 have hc:=fun O x y=>zyU O x y
 cases l with
 | nil=>
  refine zaa Tk Tryz.func192 rfl Tryz.call192 Tryz.ntmps192 (Nat.le_of_ble_eq_true rfl) fun E=>?_
  refine zah Tk Tryz.func192 ?_
  refine zae ?_
  refine zah Tk Tryz.func192 ?_
  refine gcF Tk Tryz.func192 rfl ?_
  refine zaY (wk_S (S':=_::setAt O d nm (olPl [])) (zaF (za8 ho))) ?_
  refine zag Tk (r:=.tup []) rfl rfl rfl trivial rfl rfl ?_
  rfl
 | cons z r=>
 generalize hL:z::r=l at *
 have hpos:1≤l.length:=by rw[← hL];simp
 refine zaa Tk Tryz.func192 rfl Tryz.call192 Tryz.ntmps192 (Nat.le_of_ble_eq_true rfl) fun E=>?_
 refine zah Tk Tryz.func192 ?_
 refine g_wk (wk_S (S':=_::setAt O d nm (olPl ([z]++r))) (zaF (za8 (by rw[ho,← hL];rfl)))) ?_
 refine zae ?_
 refine zaj (fun x:List Plc × List Plc=>[(0,.osl (d+1) nm),(1,ii 0),(2,ii l.length),(3,fn63),(8,ii x.1.length)]) (fun _=>[]) (fun x=>setAt O d nm (olPl (x.1++x.2))) 53
  (fun x=>zkZ x.1∧(∃ T,T++x.2=l∧zc3 T=x.1)∧x.1.length+x.2.length=l.length) (fun x=>x.2.length) ([z],r) ⟨List.pairwise_singleton _ _,⟨[z],hL,rfl⟩,by rw[← hL];simp;omega⟩ ⟨rfl,rfl,rfl,rfl,rfl,trivial⟩ rfl trivial rfl rfl ?_
 rintro ⟨A,R⟩ ⟨hA,hp,hlen⟩ ih
 simp only at hA hp hlen
 refine zah Tk Tryz.func192 ?_
 refine zaf Tk Tryz.func192 rfl (fun g1=>?_) (fun g1=>?_)
 ·have g1:A.length<l.length:=by simpa using g1
  obtain⟨x,R',rfl⟩:∃ x R',R=x::R':=by
   cases R with
   | nil=>simp at hlen;omega
   | cons x R'=>exact⟨x,R',rfl⟩
  obtain⟨T,hT,hTA⟩:=hp
  have hTn:(T++[x])++R' = l:=by rw[← hT];simp
  have hTs:zc3 (T++[x])=zdz x A:=by rw[zpJ,hTA]
  rw[List.length_cons] at hlen
  refine zae ?_
  refine zaj (fun y:List Plc × List Plc=>[(0,.osl (d+1) nm),(1,ii 0),(2,ii l.length),(3,fn63),(8,ii A.length),(9,ii y.1.length)]) (fun _=>[]) (fun y=>setAt O d nm (olPl (y.1++x::(y.2++R')))) 53
   (fun y=>(∀ s∈y.2,ltPl x s)∧y.1++y.2=A) (fun y=>y.1.length) (A,[]) ⟨by simp,by simp⟩ ⟨rfl,rfl,rfl,rfl,rfl,rfl,trivial⟩ rfl trivial rfl rfl ?_
  rintro ⟨P,S⟩ ⟨hS,hA2⟩ ih2
  simp only at hS hA2
  rcases zyx P with rfl | ⟨Q,p,rfl⟩
  ·rw[List.nil_append] at hA2
   subst hA2
   have hi1:ii (IntKind.i64.wrap ((S.length:Int)+1))=ii ((x::S:List Plc).length:Int):=congrArg ii (zay (n:=1000001) (by omega) (by decide))
   refine zah Tk Tryz.func192 ?_
   refine zas Tk Tryz.func192 zaz rfl ?_
   refine zbq Tk (fun h=>absurd h (by simp)) (fun _=>?_)
   refine zaD Tk Tryz.func192 (by kernel_rfl) ?_
   refine zaf Tk Tryz.func192 rfl (fun h=>absurd h (by simp)) (fun _=>?_)
   refine zae ?_
   have e1:zdz x S=x::S:=zeC (P:=[]) (by simp) hS
   refine ih (x::S,R') _ _ ⟨zjE (P:=[]) hA (by simp) hS,⟨T++[x],hTn,hTs.trans e1⟩,by simp only[List.length_cons];omega⟩ (by simp) ⟨rfl,rfl,rfl,rfl,hi1,trivial⟩ rfl trivial rfl rfl
  ·have e1:(Q++[p])++x::(S++R')=Q++p::x::(S++R'):=by simp
   have e2:((Q++[p]).length:Int)=((Q.length+1:Nat):Int):=by simp
   have hQA:Q.length+1+S.length=A.length:=by rw[← hA2];simp;omega
   have w1:IntKind.i64.wrap (((Q.length+1:Nat):Int) - 1)=(Q.length:Int):=by rw[w64 (by omega) (by omega)];omega
   have gx:((Q++p::x::(S++R')).map plcI)[(((Q.length+1:Nat):Int)).toNat]? = some (plcI x):=by
    have:=zy7 (A:=Q++[p]) (x:=x) (T:=S++R') (k:=Q.length+1) (by simp)
    rwa [e1] at this
   have gp:((Q++p::x::(S++R')).map plcI)[(IntKind.i64.wrap (((Q.length+1:Nat):Int) - 1)).toNat]? = some (plcI p):=by rw[w1];exact zy7 rfl
   have hlt:=zvT (x:=x) (y:=p)
   have hcc:=fun O=>hc O x p
   rw[e2,e1]
   have hll:(Q++p::x::(S++R')).length=l.length:=by simp;omega
   generalize zts x p=cw at *
   refine zah Tk Tryz.func192 ?_
   refine zas Tk Tryz.func192 zaz rfl ?_
   refine zbq Tk (fun _=>?_) (fun h=>absurd h (by simp))
   refine zbH Tk (zat (H:=([]:Heap)) (zac ho)) ?_
   refine zar Tk (by exact⟨by omega,by show ((Q.length+1:Nat):Int)<((Q++p::x::(S++R')).length:Int);rw[hll];omega⟩) ?_
   refine zbH Tk (zat (H:=([]:Heap)) (zac ho)) ?_
   refine zaG Tk (gx) ?_
   refine zbH Tk (zat (H:=([]:Heap)) (zac ho)) ?_
   refine zar Tk (by exact⟨by show (0:Int)≤IntKind.i64.wrap (((Q.length+1:Nat):Int) - 1);rw[w1];omega,by show IntKind.i64.wrap (((Q.length+1:Nat):Int) - 1)<((Q++p::x::(S++R')).length:Int);rw[w1,hll];omega⟩) ?_
   refine zbH Tk (zat (H:=([]:Heap)) (zac ho)) ?_
   refine zaG Tk (gp) ?_
   refine zaH Tk (fun _=>hcc _) rfl rfl rfl ?_
   refine zaD Tk Tryz.func192 (by kernel_rfl) ?_
   refine zaf Tk Tryz.func192 rfl (fun c1=>?_) (fun c1=>?_)
   ·have c1:cw<0:=of_decide_eq_true c1
    have hrk:=hlt.1 c1
    have e3:Ob.arr 41 2 (Q++p::x::(S++R')).length ((((Q++p::x::(S++R')).map plcI).set (((Q.length+1:Nat):Int)).toNat (plcI p)).set (IntKind.i64.wrap (((Q.length+1:Nat):Int) - 1)).toNat (plcI x)) true=olPl (Q++x::(p::S++R')):=by
     rw[w1]
     show Ob.arr 41 2 _ ((((Q++p::x::(S++R')).map plcI).set (Q.length+1) (plcI p)).set Q.length (plcI x)) true=_
     rw[zwa]
     simp[olPl]
    refine zgj Tk 15 rfl ?_
    refine zbH Tk (zat (H:=([]:Heap)) (zac ho)) ?_
    refine zar Tk (by exact⟨by show (0:Int)≤IntKind.i64.wrap (((Q.length+1:Nat):Int) - 1);rw[w1];omega,by show IntKind.i64.wrap (((Q.length+1:Nat):Int) - 1)<((Q++p::x::(S++R')).length:Int);rw[w1,hll];omega⟩) ?_
    refine zbH Tk (zat (H:=([]:Heap)) (zac ho)) ?_
    refine zaG Tk (gp) ?_
    refine zbH Tk (zat (H:=([]:Heap)) (zac ho)) ?_
    refine zar Tk (by exact⟨by omega,by show ((Q.length+1:Nat):Int)<((Q++p::x::(S++R')).length:Int);rw[hll];omega⟩) ?_
    refine zbH Tk (zat (H:=([]:Heap)) (zac ho)) ?_
    refine zaG Tk (gx) ?_
    refine zbH Tk (zat (H:=([]:Heap)) (zac ho)) ?_
    refine zar Tk (by exact⟨by omega,by show ((Q.length+1:Nat):Int)<((Q++p::x::(S++R')).length:Int);rw[hll];omega⟩) ?_
    refine zvL Tk Tryz.func192 zaz (N:=15) [16,17] [2,3,4] (by kernel_rfl) rfl rfl rfl rfl rfl rfl rfl rfl rfl rfl (zac ho) (by kernel_rfl) (by kernel_rfl) ?_ (by kernel_rfl) ?_
    ·intro i hi
     simp only[List.mem_cons,List.not_mem_nil,or_false] at hi
     rcases hi with rfl | rfl | rfl
     ·exact⟨_,_,_,rfl,rfl,rfl,rfl,rfl,rfl,rfl⟩
     ·exact⟨_,_,_,rfl,rfl,rfl,rfl,rfl,rfl,rfl⟩
     ·exact⟨_,_,_,rfl,rfl,rfl,rfl,rfl,rfl,rfl⟩
    refine zbl Tk Tryz.func192 (zat (H:=([]:Heap)) (zac (zac ho))) ?_
    refine zai Tk Tryz.func192 (by exact⟨by show (0:Int)≤IntKind.i64.wrap (((Q.length+1:Nat):Int) - 1);rw[w1];omega,by show IntKind.i64.wrap (((Q.length+1:Nat):Int) - 1)<((Q++p::x::(S++R')).length:Int);rw[w1,hll];omega⟩) ?_
    refine zbl Tk Tryz.func192 (zat (H:=([]:Heap)) (zac (zac ho))) ?_
    refine g_wk (wk_S (S':=_::setAt O d nm (olPl (Q++x::(p::S++R')))) (zaF fun d' n'=>by rw[← e3];exact (zbk d' n').trans (zbk d' n'))) ?_
    refine zae ?_
    refine ih2 (Q,p::S) _ _ ⟨fun s hs=>?_,by simpa using hA2⟩ (by simp) ⟨rfl,rfl,rfl,rfl,rfl,congrArg ii w1,trivial⟩ rfl trivial rfl rfl
    rcases List.mem_cons.1 hs with rfl | hs
    ·exact hrk
    ·exact hS s hs
   ·have c1:¬ cw<0:=of_decide_eq_false c1
    have hrk:¬ ltPl x p:=fun h=>c1 (hlt.2 h)
    have hall:∀ q∈Q++[p],¬ ltPl x q:=by
     rw[← hA2] at hA
     have h1:=(List.pairwise_append.1 hA).1
     intro q hq
     rcases List.mem_append.1 hq with hq | hq
     ·have:=(List.pairwise_append.1 h1).2.2 q hq p (by simp)
      unfold ltPl at *
      omega
     ·rw[List.mem_singleton] at hq;subst hq;exact hrk
    have e4:zdz x A=(Q++[p])++x::S:=by rw[← hA2];exact zeC hall hS
    have hi1:ii (IntKind.i64.wrap ((A.length:Int)+1))=ii (((Q++[p])++x::S:List Plc).length:Int):=by
     rw[zay (n:=1000001) (by omega) (by decide),← hA2]
     simp
     omega
    refine zae ?_
    refine ih ((Q++[p])++x::S,R') _ _ ⟨zjE (by rw[hA2];exact hA) hall hS,⟨T++[x],hTn,hTs.trans e4⟩,by simp;omega⟩ (by simp) ⟨rfl,rfl,rfl,rfl,hi1,trivial⟩ (congrArg (fun L=>_::setAt O d nm (olPl L)) (by simp:Q++p::x::(S++R')=((Q++[p])++x::S)++R')) trivial rfl rfl
 ·have g1:l.length≤A.length:=by simpa using g1
  obtain rfl:R=[]:=List.eq_nil_of_length_eq_zero (by omega)
  obtain⟨T,hT,hTA⟩:=hp
  rw[List.append_nil] at hT ⊢
  subst hT
  rw[← hTA]
  refine zag Tk (r:=.tup []) rfl rfl rfl trivial rfl rfl ?_
  rfl
theorem zkf (x:Plc):∀ l,(zdz x l).length=l.length+1
 | []=>rfl
 | y::r=>by
  unfold zdz
  split
  ·simp
  ·simp[zkf x r]
theorem zeS (l:List Plc):(zc3 l).length=l.length:=by
 have:∀ (r acc:List Plc),(r.foldl (fun acc x=>zdz x acc) acc).length=acc.length+r.length:=by
  intro r
  induction r with
  | nil=>simp
  | cons x r ih=>intro acc;rw[List.foldl_cons,ih,zkf,List.length_cons];omega
 have:=this l []
 simpa [zc3] using this
theorem zyI (O:List Heap) (d nm:Nat) (l:List Plc) (q:Int) (hl:l.length≤12) (ho:zab O d nm=some (olPl l)):zan Tryz.prog 143 [.osl d nm,ii 0,ii l.length,ii q,fn63] O (.tup []) [] (setAt O d nm (olPl (zc3 l))):=by
 have h:=fun O d ho=>zy3 O d nm l (by omega) ho
 have hsl:=zeS l
 have w:IntKind.i64.wrap ((l.length:Int) - 0)=(l.length:Int):=by rw[w64 (by omega) (by omega)];omega
 refine zaa Tk Tryz.func143 rfl Tryz.call143 Tryz.ntmps143 (Nat.le_of_ble_eq_true rfl) fun E=>?_
 refine zah Tk Tryz.func143 ?_
 refine zae ?_
 refine zah Tk Tryz.func143 ?_
 refine zaf Tk Tryz.func143 rfl (fun _=>?_) (fun h=>absurd h (by rw[w];simp;omega))
 refine zak Tk Tryz.func143 (h _ (d+1) (zat (H:=([]:Heap)) ho)) rfl rfl rfl (zaO (zat (H:=([]:Heap)) ho) (by simp[Ob.sh,hsl])) rfl ?_
 refine zag Tk (r:=.tup []) rfl rfl rfl trivial rfl rfl ?_
 rfl
theorem zyt (O:List Heap) (d nm:Nat) (l:List Plc) (hl:l.length≤12) (ho:zab O d nm=some (olPl l)):zan Tryz.prog 62 [.osl d nm,fn63] O (.tup []) [] (setAt O d nm (olPl (zc3 l))):=by
 obtain⟨q,hb⟩:=zfN l.length (by omega)
 have h:=fun O d q ho=>zyI O d nm l q hl ho
 have hsl:=zeS l
 refine zaa Tk Tryz.func62 rfl Tryz.call62 Tryz.ntmps62 (Nat.le_of_ble_eq_true rfl) fun E=>?_
 refine zah Tk Tryz.func62 ?_
 refine zbl Tk Tryz.func62 (zat ho) ?_
 refine zak Tk Tryz.func62 (hb _) rfl rfl rfl rfl rfl ?_
 refine zak Tk Tryz.func62 (h _ (d+1) _ (zat (H:=([]:Heap)) ho)) rfl rfl rfl (zaO (zat (H:=([]:Heap)) ho) (by simp[Ob.sh,hsl])) rfl ?_
 refine zag Tk (r:=.tup []) rfl rfl rfl trivial rfl rfl ?_
 rfl
end Go.AI
namespace Go.AI
open Go.Proofs
theorem zgE {α:Type} {R:α→α→Prop} (hR:∀ x y,R x y→R y x→False):∀ {a b:List α},a.Pairwise R→b.Pairwise R→(∀ x,x∈a ↔ x∈b)→a=b
 | [],[],_,_,_=>rfl
 | [],y::b,_,_,h=>absurd ((h y).2 (by simp)) (by simp)
 | x::a,[],_,_,h=>absurd ((h x).1 (by simp)) (by simp)
 | x::a,y::b,ha,hb,h=>by
  rw[List.pairwise_cons] at ha hb
  have hxy:x=y:=by
   have h1:=(h x).1 (by simp)
   have h2:=(h y).2 (by simp)
   rcases List.mem_cons.1 h1 with e | e1
   ·exact e
   rcases List.mem_cons.1 h2 with e | e2
   ·exact e.symm
   exact (hR _ _ (hb.1 x e1) (ha.1 y e2)).elim
  subst hxy
  rw[zgE hR ha.2 hb.2 fun z=>?_]
  have hz:=h z
  simp only[List.mem_cons] at hz
  constructor
  ·intro m
   rcases hz.1 (.inr m) with e | e
   ·subst e;exact (hR _ _ (ha.1 z m) (ha.1 z m)).elim
   ·exact e
  ·intro m
   rcases hz.2 (.inr m) with e | e
   ·subst e;exact (hR _ _ (hb.1 z m) (hb.1 z m)).elim
   ·exact e
theorem zj3:∀ x y:Plc,ltPl x y→ltPl y x→False:=by
 intro x y h1 h2
 unfold ltPl at h1 h2
 omega
theorem zfA (x:Plc):∀ l,(zdz x l).Perm (x::l)
 | []=>.refl _
 | y::r=>by
  unfold zdz
  by_cases h:ltPl x y
  ·rw[if_pos h]
  ·rw[if_neg h]
   exact ((zfA x r).cons y).trans (.swap x y r)
theorem zfn (l:List Plc):(zc3 l).Perm l:=by
 have:∀ (r acc:List Plc),(r.foldl (fun acc x=>zdz x acc) acc).Perm (acc++r):=by
  intro r
  induction r with
  | nil=>intro acc;simp
  | cons x r ih=>
   intro acc
   rw[List.foldl_cons]
   refine (ih _).trans ?_
   refine ((zfA x acc).append_right r).trans ?_
   exact List.perm_middle.symm
 exact this l []
theorem zke {x:Plc}:∀ {l:List Plc},zkZ l→zkZ (zdz x l)
 | [],_=>List.pairwise_singleton _ _
 | y::r,h=>by
  obtain⟨h1,h2⟩:=List.pairwise_cons.1 h
  unfold zdz
  by_cases c:ltPl x y
  ·rw[if_pos c]
   refine List.pairwise_cons.2 ⟨fun z hz=>?_,h⟩
   rcases List.mem_cons.1 hz with rfl | hz
   ·exact fun h=>zj3 _ _ c h
   ·have:=h1 z hz
    unfold ltPl at *
    omega
  ·rw[if_neg c]
   refine List.pairwise_cons.2 ⟨fun z hz=>?_,zke h2⟩
   rcases List.mem_cons.1 ((zfA x r).mem_iff.1 hz) with rfl | hz
   ·exact c
   ·exact h1 z hz
theorem zrC (l:List Plc):zkZ (zc3 l):=by
 have:∀ (r acc:List Plc),zkZ acc→zkZ (r.foldl (fun acc x=>zdz x acc) acc):=by
  intro r
  induction r with
  | nil=>intro acc h;exact h
  | cons x r ih=>intro acc h;exact ih _ (zke h)
 exact this l [] .nil
theorem zuJ {l:List Plc} (h:l.Nodup):(zc3 l).Pairwise ltPl:=by
 have h2:(zc3 l).Pairwise (· ≠ ·):=(zfn l).nodup_iff.2 h
 refine ((zrC l).and h2).imp fun {x y} hh=>?_
 obtain⟨h3,h4⟩:=hh
 obtain⟨a,b⟩:=x
 obtain⟨c,d⟩:=y
 unfold ltPl at *
 simp only at h3 ⊢
 by_cases e:a=c∧b=d
 ·obtain⟨rfl,rfl⟩:=e
  exact absurd rfl h4
 ·omega
abbrev Ref:=Int × ByteArray
def zcH (x:Ins):List Ref:=(2,x.tpl)::x.evs.map fun s=>(1,s)
def zcY (m:Mdl) (p:Plc):List Ref:=
 if p.1=3 then (match m.comps[p.2.toNat]? with | none=>[] | some x=>zcH x)
 else if p.1=4 then (match m.reqs[p.2.toNat]? with | none=>[] | some x=>zcH x)
 else if p.1=5 then (match m.excs[p.2.toNat]? with | none=>[] | some x=>x.locals.map fun y=>(3,y.1))
 else if p.1=6 then (match m.cons[p.2.toNat]? with | none=>[] | some x=>x.terms.map fun y=>(3,y.1))
 else []
def ixR (m:Mdl) (r:Ref):Plc:=(r.1,fndI (namK m r.1) r.2)
def zlo (m:Mdl) (f:Int→ByteArray→Bool):List Plc:=[1,2,3].flatMap fun k=>((List.range (namK m k).length).filter fun n=>f k ((namK m k).getD n ⟨#[]⟩)).map fun n=>(k,((n:Nat):Int))
theorem zvl (m:Mdl) (f:Int→ByteArray→Bool):(zlo m f).Pairwise ltPl:=by
 unfold zlo
 rw[List.pairwise_flatMap]
 refine⟨fun k _=>?_,?_⟩
 ·rw[List.pairwise_map]
  refine (List.Pairwise.filter _ List.pairwise_lt_range).imp fun {a b} h=>?_
  exact .inr ⟨rfl,by show (a:Int)<(b:Int);omega⟩
 ·have h:([1,2,3]:List Int).Pairwise (· < ·):=by decide
  refine h.imp fun {a b} h=>?_
  intro p hp q hq
  obtain⟨_,_,rfl⟩:=List.mem_map.1 hp
  obtain⟨_,_,rfl⟩:=List.mem_map.1 hq
  exact .inl h
theorem zsu {m:Mdl} {f:Int→ByteArray→Bool} {p:Plc}:p∈zlo m f ↔ (p.1=1∨p.1=2∨p.1=3)∧∃ (n:Nat) (s:ByteArray),p.2=(n:Int)∧(namK m p.1)[n]? = some s∧f p.1 s=true:=by
 obtain⟨k,i⟩:=p
 unfold zlo
 simp only[List.mem_flatMap,List.mem_map,List.mem_filter,List.mem_range,List.mem_cons,List.mem_nil_iff,or_false,Prod.mk.injEq]
 constructor
 ·rintro ⟨k',hk,n,⟨h1,h2⟩,rfl,rfl⟩
  refine⟨hk,n,(namK m k')[n],rfl,List.getElem?_eq_getElem h1,?_⟩
  rwa [List.getD_eq_getElem?_getD,List.getElem?_eq_getElem h1] at h2
 ·rintro ⟨hk,n,s,rfl,h1,h2⟩
  refine⟨k,hk,n,⟨(List.getElem?_eq_some_iff.1 h1).1,?_⟩,rfl,rfl⟩
  rw[List.getD_eq_getElem?_getD,h1]
  exact h2
theorem zxR {m:Mdl} {a b:Ref} (hN:(namK m a.1).Nodup) (ha:a.2∈namK m a.1) (hb:b.2∈namK m b.1) (h:ixR m a=ixR m b):a=b:=by
 obtain⟨k,s⟩:=a
 obtain⟨k',s'⟩:=b
 unfold ixR at h
 simp only[Prod.mk.injEq] at h ha hb hN
 obtain⟨rfl,h⟩:=h
 obtain⟨i,h1,h2⟩:=zkv ha
 rw[h2] at h
 have:=(zn5 hN hb).1 h.symm
 rw[h1] at this
 rw[Option.some.inj this]
theorem zyo {m:Mdl} {R:List Ref} (hN:∀ k,k=1∨k=2∨k=3→(namK m k).Nodup) (hnd:R.Nodup) (hin:∀ r∈R,(r.1=1∨r.1=2∨r.1=3)∧r.2∈namK m r.1) {f:Int→ByteArray→Bool} (hf:∀ k s,(k=1∨k=2∨k=3)→(f k s=true ↔ (k,s)∈R)) :
  (R.map (ixR m)).Nodup∧zc3 (R.map (ixR m))=zlo m f:=by
 have hm:(R.map (ixR m)).Nodup:=by
  unfold List.Nodup
  rw[List.pairwise_map]
  exact List.Pairwise.imp_of_mem (fun {a b} ha hb hne e=>hne (zxR (hN _ (hin a ha).1) (hin a ha).2 (hin b hb).2 e)) hnd
 refine⟨hm,zgE zj3 (zuJ hm) (zvl m f) fun p=>?_⟩
 rw[(zfn _).mem_iff,zsu,List.mem_map]
 constructor
 ·rintro ⟨r,hr,rfl⟩
  obtain⟨h1,h2⟩:=hin r hr
  obtain⟨i,h3,h4⟩:=zkv h2
  exact⟨h1,i,r.2,h4,h3,(hf _ _ h1).2 hr⟩
 ·rintro ⟨h1,n,s,h2,h3,h4⟩
  refine⟨(p.1,s),(hf _ _ h1).1 h4,?_⟩
  unfold ixR
  simp only
  rw[(zn5 (hN _ h1) (List.mem_of_getElem? h3)).2 h3,← h2]
theorem zk2 {m:Mdl} (h:(mdlE m).2=0):(m.tpls.map (·.name)).Nodup∧(m.comps.map (·.name)).Nodup:=by
 obtain⟨_,_,h3,h4,_⟩:=zcz h
 refine⟨?_,?_⟩
 ·unfold chkT at h3
  by_cases h2:m.tpls.length>16
  ·rw[if_pos h2] at h3;simp at h3
  rw[if_neg h2] at h3
  exact (zgo (zej (fun _ _ h=>zbG h) h3).1).2
 ·unfold chkI at h4
  by_cases h2:m.comps.length=0
  ·rw[if_pos h2] at h4;simp at h4
  rw[if_neg h2] at h4
  by_cases h3:m.comps.length>8
  ·rw[if_pos h3] at h4;simp at h4
  rw[if_neg h3] at h4
  by_cases h5:m.comps.length+m.reqs.length>12
  ·rw[if_pos h5] at h4;simp at h4
  rw[if_neg h5] at h4
  exact (zgo (zej (fun _ _ h=>zbG h) h4).1).2
theorem zh8 {m:Mdl} {x:Ins} (hi:insE m x=0):(zcH x).Nodup∧∀ r∈zcH x,(r.1=1∨r.1=2∨r.1=3)∧r.2∈namK m r.1:=by
 obtain⟨t,t1,t2,t3,t4⟩:=zgh hi
 obtain⟨h1,h2⟩:=zki t4
 unfold zcH
 refine⟨?_,fun r hr=>?_⟩
 ·rw[List.nodup_cons]
  refine⟨fun hm=>?_,?_⟩
  ·obtain⟨s,_,e⟩:=List.mem_map.1 hm
   simp at e
  ·unfold List.Nodup
   rw[List.pairwise_map]
   exact List.Pairwise.imp (fun {a b} hne e=>hne (by simpa using e)) h2
 ·rcases List.mem_cons.1 hr with rfl | hr
  ·refine⟨.inr (.inl rfl),?_⟩
   have:=List.find?_some t1
   rw[zcO] at this
   show x.tpl∈m.tpls.map (·.name)
   rw[← this]
   exact List.mem_map.2 ⟨t,t2,rfl⟩
  ·obtain⟨s,hs,rfl⟩:=List.mem_map.1 hr
   exact⟨.inl rfl,(h1 s hs).1⟩
theorem zsr {m:Mdl} {l:List ByteArray} (h1:l.Nodup) (h2:∀ s∈l,s∈m.comps.map (·.name)):(l.map fun s=>((3,s):Ref)).Nodup∧∀ r∈(l.map fun s=>((3,s):Ref)),(r.1=1∨r.1=2∨r.1=3)∧r.2∈namK m r.1:=by
 refine⟨?_,fun r hr=>?_⟩
 ·unfold List.Nodup
  rw[List.pairwise_map]
  exact List.Pairwise.imp (fun {a b} hne e=>hne (by simpa using e)) h1
 ·obtain⟨s,hs,rfl⟩:=List.mem_map.1 hr
  exact⟨.inr (.inr rfl),h2 s hs⟩
theorem zxj {m:Mdl} (h:(mdlE m).2=0) (p:Plc):(zcY m p).Nodup∧∀ r∈zcY m p,(r.1=1∨r.1=2∨r.1=3)∧r.2∈namK m r.1:=by
 obtain⟨_,_,h3,h4,h5,_⟩:=zcz h
 obtain⟨_,c2,_,c4⟩:=zfK h5
 unfold zcY
 by_cases k3:p.1=3
 ·rw[if_pos k3]
  cases hx:m.comps[p.2.toNat]? with
  | none=>exact⟨.nil,fun _ h=>by cases h⟩
  | some x=>exact zh8 (zji h4 x (List.mem_of_getElem? hx))
 rw[if_neg k3]
 by_cases k4:p.1=4
 ·rw[if_pos k4]
  cases hx:m.reqs[p.2.toNat]? with
  | none=>exact⟨.nil,fun _ h=>by cases h⟩
  | some x=>exact zh8 (zoi h4 x (List.mem_of_getElem? hx))
 rw[if_neg k4]
 by_cases k5:p.1=5
 ·rw[if_pos k5]
  cases hx:m.excs[p.2.toNat]? with
  | none=>exact⟨.nil,fun _ h=>by cases h⟩
  | some x=>
   have he:=zcV c2 x (List.mem_of_getElem? hx)
   unfold excE at he
   by_cases h6:x.locals.length=0
   ·rw[if_pos h6] at he;cases he
   rw[if_neg h6] at he
   obtain⟨e1,e2⟩:=zlp he
   have:=zsr (m:=m) e2 fun s hs=>by
    obtain⟨y,hy,rfl⟩:=List.mem_map.1 hs
    obtain⟨_,c,t,h7,_⟩:=e1 y hy
    exact zkz h7
   rw[List.map_map] at this
   exact this
 rw[if_neg k5]
 by_cases k6:p.1=6
 ·rw[if_pos k6]
  cases hx:m.cons[p.2.toNat]? with
  | none=>exact⟨.nil,fun _ h=>by cases h⟩
  | some x=>
   have he:=zcV c4 x (List.mem_of_getElem? hx)
   unfold conE at he
   by_cases h6:x.terms.length=0
   ·rw[if_pos h6] at he;cases he
   rw[if_neg h6] at he
   by_cases h7:tmsE m [] x.terms≠0
   ·rw[if_pos h7] at he;exact absurd he h7
   obtain⟨e1,e2⟩:=zk7 (Classical.byContradiction h7)
   have:=zsr (m:=m) e2 fun s hs=>by
    obtain⟨y,hy,rfl⟩:=List.mem_map.1 hs
    exact (e1 y hy).2
   rw[List.map_map] at this
   exact this
 rw[if_neg k6]
 exact⟨.nil,fun _ h=>by cases h⟩
def useR (m:Mdl) (p:Plc):List Plc × Int:=
 if (mdlE m).2≠0 then ([],(mdlE m).2) else if p.1<1∨p.1>6 then ([],11) else if p.2<0∨p.2 ≥ ((namK m p.1).length:Int) then ([],10) else (zc3 ((zcY m p).map (ixR m)),0)
def rfrB (m:Mdl) (p:Plc) (k:Int) (s:ByteArray):Bool:=
 if p.1=3∨p.1=4 then (match (if p.1=3 then m.comps else m.reqs)[p.2.toNat]? with | none=>false | some x=>(decide (k=2) && sB x.tpl s) || (decide (k=1) && decide (nmIx x.evs s ≥ 0)))
 else if p.1=5 then (match m.excs[p.2.toNat]? with | none=>false | some x=>x.locals.any fun y=>decide (k=3) && sB y.1 s)
 else if p.1=6 then (match m.cons[p.2.toNat]? with | none=>false | some x=>x.terms.any fun y=>decide (k=3) && sB y.1 s)
 else false
theorem zrT {x:Ins} {k:Int} {s:ByteArray}:((decide (k=2) && sB x.tpl s) || (decide (k=1) && decide (nmIx x.evs s ≥ 0)))=true ↔ (k,s)∈zcH x:=by
 unfold zcH
 simp only[Bool.or_eq_true,Bool.and_eq_true,decide_eq_true_eq,zcO,znE,List.mem_cons,List.mem_map,Prod.mk.injEq]
 constructor
 ·rintro (⟨h1,h2⟩ | ⟨h1,h2⟩)
  ·exact .inl ⟨h1,h2.symm⟩
  ·exact .inr ⟨s,h2,h1.symm,rfl⟩
 ·rintro (⟨h1,h2⟩ | ⟨s',h2,h1,rfl⟩)
  ·exact .inl ⟨h1,h2.symm⟩
  ·exact .inr ⟨h1.symm,h2⟩
theorem zxg {m:Mdl} {p:Plc} {k:Int} {s:ByteArray}:rfrB m p k s=true ↔ (k,s)∈zcY m p:=by
 unfold rfrB zcY
 by_cases k3:p.1=3
 ·rw[if_pos (.inl k3),if_pos k3,if_pos k3]
  cases m.comps[p.2.toNat]? with
  | none=>simp
  | some x=>exact zrT
 by_cases k4:p.1=4
 ·rw[if_pos (.inr k4),if_neg k3,if_neg k3,if_pos k4]
  cases m.reqs[p.2.toNat]? with
  | none=>simp
  | some x=>exact zrT
 rw[if_neg (by omega),if_neg k3,if_neg k4]
 by_cases k5:p.1=5
 ·rw[if_pos k5,if_pos k5]
  cases m.excs[p.2.toNat]? with
  | none=>simp
  | some x=>
   simp only[List.any_eq_true,Bool.and_eq_true,decide_eq_true_eq,zcO,List.mem_map,Prod.mk.injEq]
   constructor
   ·rintro ⟨y,hy,rfl,rfl⟩;exact⟨y,hy,rfl,rfl⟩
   ·rintro ⟨y,hy,rfl,rfl⟩;exact⟨y,hy,rfl,rfl⟩
 rw[if_neg k5,if_neg k5]
 by_cases k6:p.1=6
 ·rw[if_pos k6,if_pos k6]
  cases m.cons[p.2.toNat]? with
  | none=>simp
  | some x=>
   simp only[List.any_eq_true,Bool.and_eq_true,decide_eq_true_eq,zcO,List.mem_map,Prod.mk.injEq]
   constructor
   ·rintro ⟨y,hy,rfl,rfl⟩;exact⟨y,hy,rfl,rfl⟩
   ·rintro ⟨y,hy,rfl,rfl⟩;exact⟨y,hy,rfl,rfl⟩
 rw[if_neg k6,if_neg k6]
 simp
theorem zrn {m:Mdl} (h:(mdlE m).2=0) (hev:(m.evs.map (·.name)).Nodup) (p:Plc):((zcY m p).map (ixR m)).Nodup∧zc3 ((zcY m p).map (ixR m))=zlo m (rfrB m p):=by
 obtain⟨h1,h2⟩:=zxj h p
 obtain⟨h3,h4⟩:=zk2 h
 refine zyo ?_ h1 h2 fun k s _=>zxg
 rintro k (rfl | rfl | rfl)
 ·exact hev
 ·exact h3
 ·exact h4
end Go.AI
namespace Go.AI
open Go.Proofs
set_option maxRecDepth 20000
abbrev obs (l:List Bool):Ob:=.arr 4 1 l.length (l.map fun b=>[bI b]) true
theorem zeW (l:List Bool) (b:Bool):Ob.arr 4 1 (l.length+1) ((l.map fun b=>[bI b])++[[bI b]]) true=obs (l++[b]):=by simp[obs]
theorem zkN (O:List Heap) (m:Mdl) (w:Int) {α:Type} (L:List α) (f:α→ByteArray) (g:α→Bool) (hm:mdlOk m) (hl:L.length≤1000000) :
  zan Tryz.prog 130 [mdlD m,ssD (L.map f),.i (.sl 1 (L.map g).length ((L.map g).map fun b=>[bI b])),ii w] O (ii (if (L.map fun y=>(f y,g y)).length=0 then 12 else cpE m w [] (L.map fun y=>(f y,g y)))) [] O:=by
 have h:=zjf O m w (L.map fun y=>(f y,g y)) hm (by rw[List.length_map];exact hl)
 simp only[List.map_map,List.length_map] at h ⊢
 have e:ssD (L.map f) = .i (.sl 1 L.length (L.map fun y=>[strI (f y)])):=by
  show D.i (.sl 1 (L.map f).length ((L.map f).map fun s=>[strI s]))=_
  rw[List.map_map,List.length_map]
  rfl
 rw[e]
 exact h
theorem zlE (O:List Heap) (m:Mdl) (i:Nat) (hi:i<m.excs.length) (hm:mdlOk m) (ht:∀ c∈m.comps,∃ t,zb1 m c=some t) :
  zan Tryz.prog 52 [mdlD m,ii i] O (ii (if nmE ((m.excs.map (·.name)).take i) m.excs[i].name≠0 then nmE ((m.excs.map (·.name)).take i) m.excs[i].name else excE m m.excs[i])) [] O:=by
 have hex:=hm.ex
 have hx:=hm.exk m.excs[i] (List.getElem_mem hi)
 have hn:=fun O=>zjY O m hex
 have hf:=fun O=>ze4 O (m.excs.map (·.name)) i (by rw[List.length_map];exact hi) (by rw[List.length_map];exact hex) (fun s hs=>by
  obtain⟨t,ht,rfl⟩:=List.mem_map.1 hs
  exact (hm.exk t ht).1)
 rw[List.getElem_map] at hf
 have gt:(m.excs.map nexI)[(i:Int).toNat]? = some (nexI m.excs[i]):=zam (f:=nexI) hi
 have hw:IntKind.i64.wrap ((i:Int)+1)=((i+1:Nat):Int):=zay (n:=1000001) (by omega) (by decide)
 have h4:=fun O=>zgY O m hm.co
 have h5:=fun O s=>zb4 O (m.comps.map (·.name)) s (by rw[List.length_map];exact hm.co)
 have hT:=fun O x t h=>zjx O m x t hm.toszOk h
 have h130:=fun O=>zkN O m 9 m.excs[i].locals (·.1) (zbX m) hm hx.2
 have hlocs:∀ c t,zb1 m c=some t→t.locs.length≤1000000:=fun c t h=>(hm.tpk t (List.mem_of_find?_eq_some h)).ll
 have hco:=hm.co
 have hxl:=hx.2
 rw[zx1]
 have hNl:(m.excs.map (·.name)).length=m.excs.length:=List.length_map _
 generalize nmE ((m.excs.map (·.name)).take i) m.excs[i].name=e0 at *
 generalize m.excs[i]=x at *
 generalize m.excs.map (·.name)=N at *
 obtain⟨xn,L⟩:=x
 simp only at h130 hxl gt ⊢
 generalize (if (L.map fun y=>(y.1,zbX m y)).length=0 then (12:Int) else cpE m 9 [] (L.map fun y=>(y.1,zbX m y)))=R at *
 clear hx hm
 refine zaM [13] Tk Tryz.func52 rfl Tryz.call52 Tryz.ntmps52 (Nat.le_of_ble_eq_true rfl) fun E=>?_
 refine zah Tk Tryz.func52 ?_
 refine zak Tk Tryz.func52 (hn _) rfl rfl rfl rfl rfl ?_
 refine zai Tk Tryz.func52 (by exact⟨by rw[hw];omega,by show IntKind.i64.wrap ((i:Int)+1)≤(N.length:Int);rw[hw];omega⟩) ?_
 refine zak Tk Tryz.func52 (hf _) rfl rfl rfl rfl rfl ?_
 refine zaf Tk Tryz.func52 rfl (fun c0=>?_) (fun c0=>?_)
 ·have c0:e0≠0:=bneT c0
  rw[if_pos c0]
  refine zag Tk (r:=ii e0) rfl rfl rfl trivial rfl rfl ?_
  rfl
 have c0:¬ e0≠0:=fun h=>h (bneF c0)
 rw[if_neg c0]
 refine zai Tk Tryz.func52 (by exact⟨by omega,by show (i:Int)<(m.excs.length:Int);omega⟩) ?_
 refine zap Tk Tryz.func52 (gt) ?_
 refine g_wk (zbh 6 40 9 1 rfl rfl rfl) ?_
 refine g_wk (zbh 7 60 4 1 rfl rfl rfl) ?_
 refine zae ?_
 refine zaj (fun j:Nat=>[(2,.own 0 2 0 0),(6,.osl 0 40),(7,.osl 0 60),(25,.i (.sl 2 L.length (L.map nlcI))),(26,ii L.length),(27,ii j)]) (fun j=>[(2,.box (mdlC m)),(40,oss ((L.take j).map (·.1))),(60,obs ((L.take j).map (zbX m)))]) (fun _=>O) 66
  (fun j=>j≤L.length) (fun j=>L.length - j) 0 (Nat.zero_le _) ⟨rfl,rfl,rfl,rfl,rfl,rfl,trivial⟩ rfl ⟨rfl,rfl,rfl,trivial⟩ rfl rfl ?_
 intro j hj ih
 have hj:j≤L.length:=hj
 have hll:((L.take j).map (·.1)).length≤1000000:=by rw[List.length_map,List.length_take];omega
 have hll2:((L.take j).map (zbX m)).length≤1000000:=by rw[List.length_map,List.length_take];omega
 refine zah Tk Tryz.func52 ?_
 refine zaf Tk Tryz.func52 rfl (fun g1=>?_) (fun g1=>?_)
 ·have g1:j<L.length:=by simpa using g1
  have gs:(L.map nlcI)[(j:Int).toNat]? = some (nlcI L[j]):=zam (f:=nlcI) g1
  have t1:=zaB (fun y:NLc=>y.1) g1
  have t2:=zaB (zbX m) g1
  have hj1:ii (IntKind.i64.wrap ((j:Int)+1))=ii ((j+1:Nat):Int):=congrArg ii (zay (n:=1000001) (by omega) (by decide))
  have h5':=fun O=>h5 O L[j].1
  have hfk:=zdv Ins.name m.comps L[j].1
  unfold zbX at t2
  generalize (L.take j).map (·.1)=A at *
  change _=((L.take j).map (zbX m))++_ at t2
  change ((L.take (j+1)).map (zbX m))=_ at t2
  generalize (L.take j).map (zbX m)=B at *
  generalize L[j]=y at *
  obtain⟨yc,yl⟩:=y
  simp only at h5' hfk t1 t2
  refine zai Tk Tryz.func52 (by exact⟨by omega,by show (j:Int)<(L.length:Int);omega⟩) ?_
  refine zap Tk Tryz.func52 (gs) ?_
  rcases hfk with ⟨f1,f2⟩ | ⟨k,c,f1,f2,f3⟩
  ·have f2:nmIx (m.comps.map (·.name)) yc = -1:=f2
   rw[f2] at h5'
   rw[f1] at t2
   simp only at t2
   refine zas Tk Tryz.func52 zaz rfl ?_
   refine zaH Tk (fun _=>h4 _) rfl rfl rfl ?_
   refine zaH Tk (fun _=>h5' _) rfl rfl rfl ?_
   refine zaD Tk Tryz.func52 (by kernel_rfl) ?_
   refine zai Tk Tryz.func52 (by exact⟨by show (A.length+1) * 16≤140737488355328;omega,by show A.length+1≤9223372036854775807;omega⟩) ?_
   refine zas Tk Tryz.func52 zaz rfl ?_
   refine skF Tk ?_
   refine zdV Tk Tryz.func52 ([19,20]) (by kernel_rfl) (by kernel_rfl) ?_
   refine zai Tk Tryz.func52 (by exact⟨by show (B.length+1) * 1≤140737488355328;omega,by show B.length+1≤9223372036854775807;omega⟩) ?_
   refine zae ?_
   refine ih (j+1) _ _ g1 (by omega) ⟨rfl,rfl,rfl,rfl,rfl,hj1,trivial⟩ rfl ⟨rfl,?_,?_,trivial⟩ rfl rfl
   ·rw[t1];exact congrArg some (za2 A yc)
   ·rw[t2];exact congrArg some (zeW B _)
  ·have f3:nmIx (m.comps.map (·.name)) yc=(k:Int):=f3
   rw[f3] at h5'
   rw[f2] at t2
   simp only at t2
   obtain⟨t,htt⟩:=ht c (List.mem_of_getElem? f1)
   have h35:=fun O=>hT O c t htt
   have hloc:=hlocs c t htt
   have h39:=fun O=>zb4 O t.locs yl hloc
   rw[htt] at t2
   simp only at t2
   have hk:k<m.comps.length:=(List.getElem?_eq_some_iff.1 f1).1
   have gc:(m.comps.map insI)[(if (0:Int)>((k:Nat):Int) then (0:Int) else ((k:Nat):Int)).toNat]? = some (insI c):=by
    rw[if_neg (by omega),Int.toNat_natCast,List.getElem?_map,f1];rfl
   generalize nmIx t.locs yl=q at *
   obtain⟨cn,ct,ce⟩:=c
   obtain⟨tn,tl,te,⟨tal,tlo,tini,tmk,tvr,tmo⟩⟩:=t
   simp only at h39
   refine zas Tk Tryz.func52 zaz rfl ?_
   refine zaH Tk (fun _=>h4 _) rfl rfl rfl ?_
   refine zaH Tk (fun _=>h5' _) rfl rfl rfl ?_
   refine zaD Tk Tryz.func52 (by kernel_rfl) ?_
   refine zai Tk Tryz.func52 (by exact⟨by show (A.length+1) * 16≤140737488355328;omega,by show A.length+1≤9223372036854775807;omega⟩) ?_
   refine zas Tk Tryz.func52 zaz rfl ?_
   refine zbq Tk (fun _=>?_) (fun h=>absurd h (by simpa using h))
   refine zar Tk (by exact⟨by rw[if_neg (by omega)];omega,by rw[if_neg (by omega)];show ((k:Nat):Int)<(m.comps.length:Int);omega⟩) ?_
   refine zaG Tk (gc) ?_
   refine zaH Tk (fun _=>h35 _) rfl rfl rfl ?_
   refine zaH Tk (fun _=>h39 _) rfl rfl rfl ?_
   refine zdV Tk Tryz.func52 ([19,20]) (by kernel_rfl) (by kernel_rfl) ?_
   refine zai Tk Tryz.func52 (by exact⟨by show (B.length+1) * 1≤140737488355328;omega,by show B.length+1≤9223372036854775807;omega⟩) ?_
   refine zae ?_
   refine ih (j+1) _ _ g1 (by omega) ⟨rfl,rfl,rfl,rfl,rfl,hj1,trivial⟩ rfl ⟨rfl,?_,?_,trivial⟩ rfl rfl
   ·rw[t1];exact congrArg some (za2 A yc)
   ·rw[t2];exact congrArg some (zeW B _)
 ·have g1:L.length≤j:=by simpa using g1
  rw[List.take_of_length_le g1]
  refine zax ?_
  refine zau (zao 40 rfl rfl) ?_
  refine zau (za1 rfl) ?_
  refine zau (zao 60 rfl rfl) ?_
  refine zau (za1 rfl) ?_
  refine zah Tk Tryz.func52 ?_
  refine g_go Tk Tryz.func52 ?_
  refine zak Tk Tryz.func52 (h130 _) rfl rfl rfl rfl rfl ?_
  refine zag Tk (r:=ii R) rfl rfl rfl trivial rfl rfl ?_
  rfl
theorem zkM (O:List Heap) (m:Mdl) (i:Nat) (hi:i<m.cons.length) (hm:mdlOk m) :
  zan Tryz.prog 53 [mdlD m,ii i] O (ii (if nmE ((m.cons.map (·.name)).take i) m.cons[i].name≠0 then nmE ((m.cons.map (·.name)).take i) m.cons[i].name else conE m m.cons[i])) [] O:=by
 have hex:=hm.cn
 have hx:=hm.cnk m.cons[i] (List.getElem_mem hi)
 have hn:=fun O=>zjX O m hex
 have hf:=fun O=>ze4 O (m.cons.map (·.name)) i (by rw[List.length_map];exact hi) (by rw[List.length_map];exact hex) (fun s hs=>by
  obtain⟨t,ht,rfl⟩:=List.mem_map.1 hs
  exact (hm.cnk t ht).1)
 rw[List.getElem_map] at hf
 have gt:(m.cons.map ncnI)[(i:Int).toNat]? = some (ncnI m.cons[i]):=zam (f:=ncnI) hi
 have hw:IntKind.i64.wrap ((i:Int)+1)=((i+1:Nat):Int):=zay (n:=1000001) (by omega) (by decide)
 have h130:=fun O=>zkN O m 2 m.cons[i].terms (·.1) zbK hm hx.2
 have hxl:=hx.2
 have hE:conE m m.cons[i]=if (if (m.cons[i].terms.map fun y=>(y.1,zbK y)).length=0 then (12:Int) else cpE m 2 [] (m.cons[i].terms.map fun y=>(y.1,zbK y)))≠0 then (if (m.cons[i].terms.map fun y=>(y.1,zbK y)).length=0 then (12:Int) else cpE m 2 [] (m.cons[i].terms.map fun y=>(y.1,zbK y))) else if bigB m.cons[i].bound=true then 2 else 0:=by
  unfold conE
  rw[zru,List.length_map]
  by_cases h:m.cons[i].terms.length=0
  ·rw[if_pos h,if_pos h,if_pos (by decide)]
  ·rw[if_neg h,if_neg h]
 rw[hE]
 clear hE
 have hNl:(m.cons.map (·.name)).length=m.cons.length:=List.length_map _
 generalize nmE ((m.cons.map (·.name)).take i) m.cons[i].name=e0 at *
 generalize m.cons[i]=x at *
 generalize m.cons.map (·.name)=N at *
 obtain⟨xn,L,bd⟩:=x
 simp only at h130 hxl gt ⊢
 generalize (if (L.map fun y=>(y.1,zbK y)).length=0 then (12:Int) else cpE m 2 [] (L.map fun y=>(y.1,zbK y)))=R at *
 clear hx hm
 refine zaM [12] Tk Tryz.func53 rfl Tryz.call53 Tryz.ntmps53 (Nat.le_of_ble_eq_true rfl) fun E=>?_
 refine zah Tk Tryz.func53 ?_
 refine zak Tk Tryz.func53 (hn _) rfl rfl rfl rfl rfl ?_
 refine zai Tk Tryz.func53 (by exact⟨by rw[hw];omega,by show IntKind.i64.wrap ((i:Int)+1)≤(N.length:Int);rw[hw];omega⟩) ?_
 refine zak Tk Tryz.func53 (hf _) rfl rfl rfl rfl rfl ?_
 refine zaf Tk Tryz.func53 rfl (fun c0=>?_) (fun c0=>?_)
 ·have c0:e0≠0:=bneT c0
  rw[if_pos c0]
  refine zag Tk (r:=ii e0) rfl rfl rfl trivial rfl rfl ?_
  rfl
 have c0:¬ e0≠0:=fun h=>h (bneF c0)
 rw[if_neg c0]
 refine zai Tk Tryz.func53 (by exact⟨by omega,by show (i:Int)<(m.cons.length:Int);omega⟩) ?_
 refine zap Tk Tryz.func53 (gt) ?_
 refine g_wk (zbh 6 36 9 1 rfl rfl rfl) ?_
 refine g_wk (zbh 7 52 4 1 rfl rfl rfl) ?_
 refine zae ?_
 refine zaj (fun j:Nat=>[(1,ii i),(2,.own 0 2 0 0),(6,.osl 0 36),(7,.osl 0 52),(26,.i (.sl 2 L.length (L.map ntmI))),(27,ii L.length),(28,ii j)]) (fun j=>[(2,.box (mdlC m)),(36,oss ((L.take j).map (·.1))),(52,obs ((L.take j).map zbK))]) (fun _=>O) 73
  (fun j=>j≤L.length) (fun j=>L.length - j) 0 (Nat.zero_le _) ⟨rfl,rfl,rfl,rfl,rfl,rfl,rfl,trivial⟩ rfl ⟨rfl,rfl,rfl,trivial⟩ rfl rfl ?_
 intro j hj ih
 have hj:j≤L.length:=hj
 have hll:((L.take j).map (·.1)).length≤1000000:=by rw[List.length_map,List.length_take];omega
 have hll2:((L.take j).map zbK).length≤1000000:=by rw[List.length_map,List.length_take];omega
 refine zah Tk Tryz.func53 ?_
 refine zaf Tk Tryz.func53 rfl (fun g1=>?_) (fun g1=>?_)
 ·have g1:j<L.length:=by simpa using g1
  have gs:(L.map ntmI)[(j:Int).toNat]? = some (ntmI L[j]):=zam (f:=ntmI) g1
  have t1:=zaB (fun y:NTm=>y.1) g1
  have t2:=zaB zbK g1
  have hj1:ii (IntKind.i64.wrap ((j:Int)+1))=ii ((j+1:Nat):Int):=congrArg ii (zay (n:=1000001) (by omega) (by decide))
  generalize (L.take j).map (·.1)=A at *
  generalize (L.take j).map zbK=B at *
  generalize L[j]=y at *
  obtain⟨yc,yf⟩:=y
  simp only at t1
  unfold zbK at t2
  simp only at t2
  refine zai Tk Tryz.func53 (by exact⟨by omega,by show (j:Int)<(L.length:Int);omega⟩) ?_
  refine zap Tk Tryz.func53 (gs) ?_
  refine zai Tk Tryz.func53 (by exact⟨by show (A.length+1) * 16≤140737488355328;omega,by show A.length+1≤9223372036854775807;omega⟩) ?_
  have fin:∀ b,(decide (yf≠0) && decide (yf ≥ -65536) && decide (yf≤65536))=b→(some (obs (B++[b])):Option Ob)=some (obs ((L.take (j+1)).map zbK)):=by
   intro b hb
   rw[← hb,show (L.take (j+1)).map zbK=_ from t2]
  refine zaI Tk Tryz.func53 rfl (fun k1=>?_) (fun k1=>?_)
  ·have k1:yf≠0:=bneT k1
   refine zaI Tk Tryz.func53 rfl (fun k2=>?_) (fun k2=>?_)
   ·have k2:yf ≥ -65536:=of_decide_eq_true k2
    refine zai Tk Tryz.func53 (by exact⟨by show (B.length+1) * 1≤140737488355328;omega,by show B.length+1≤9223372036854775807;omega⟩) ?_
    refine zae ?_
    refine ih (j+1) _ _ g1 (by omega) ⟨rfl,rfl,rfl,rfl,rfl,rfl,hj1,trivial⟩ rfl ⟨rfl,?_,?_,trivial⟩ rfl rfl
    ·rw[t1];exact congrArg some (za2 A yc)
    ·refine Eq.trans (congrArg some (zeW B _)) (fin _ ?_)
     simp[k1,k2]
   ·have k2:¬ yf ≥ -65536:=of_decide_eq_false k2
    refine zai Tk Tryz.func53 (by exact⟨by show (B.length+1) * 1≤140737488355328;omega,by show B.length+1≤9223372036854775807;omega⟩) ?_
    refine zae ?_
    refine ih (j+1) _ _ g1 (by omega) ⟨rfl,rfl,rfl,rfl,rfl,rfl,hj1,trivial⟩ rfl ⟨rfl,?_,?_,trivial⟩ rfl rfl
    ·rw[t1];exact congrArg some (za2 A yc)
    ·refine Eq.trans (congrArg some (zeW B _)) (fin _ ?_)
     simp[k1,k2]
  ·have k1:yf=0:=bneF k1
   refine gkF Tk Tryz.func53 rfl ?_
   refine zai Tk Tryz.func53 (by exact⟨by show (B.length+1) * 1≤140737488355328;omega,by show B.length+1≤9223372036854775807;omega⟩) ?_
   refine zae ?_
   refine ih (j+1) _ _ g1 (by omega) ⟨rfl,rfl,rfl,rfl,rfl,rfl,hj1,trivial⟩ rfl ⟨rfl,?_,?_,trivial⟩ rfl rfl
   ·rw[t1];exact congrArg some (za2 A yc)
   ·refine Eq.trans (congrArg some (zeW B _)) (fin _ ?_)
    simp[k1]
 ·have g1:L.length≤j:=by simpa using g1
  rw[List.take_of_length_le g1]
  refine zax ?_
  refine zau (zao 36 rfl rfl) ?_
  refine zau (za1 rfl) ?_
  refine zau (zao 52 rfl rfl) ?_
  refine zau (za1 rfl) ?_
  refine zah Tk Tryz.func53 ?_
  refine g_go Tk Tryz.func53 ?_
  refine zak Tk Tryz.func53 (h130 _) rfl rfl rfl rfl rfl ?_
  refine zaf Tk Tryz.func53 rfl (fun c1=>?_) (fun c1=>?_)
  ·have c1:R≠0:=bneT c1
   rw[if_pos c1]
   refine zag Tk (r:=ii R) rfl rfl rfl trivial rfl rfl ?_
   rfl
  have c1:¬ R≠0:=fun h=>h (bneF c1)
  rw[if_neg c1]
  refine zai Tk Tryz.func53 (by exact⟨by omega,by show (i:Int)<(m.cons.length:Int);omega⟩) ?_
  refine zap Tk Tryz.func53 (gt) ?_
  unfold bigB
  refine zaI Tk Tryz.func53 rfl (fun c2=>?_) (fun c2=>?_)
  ·have c2:bd < -65536:=of_decide_eq_true c2
   refine gcT Tk Tryz.func53 rfl ?_
   refine zag Tk (r:=ii 2) rfl rfl rfl trivial rfl rfl ?_
   simp[c2]
  ·have c2:¬ bd < -65536:=of_decide_eq_false c2
   refine zaf Tk Tryz.func53 rfl (fun c3=>?_) (fun c3=>?_)
   ·have c3:bd>65536:=of_decide_eq_true c3
    refine zag Tk (r:=ii 2) rfl rfl rfl trivial rfl rfl ?_
    simp[c3]
   ·have c3:¬ bd>65536:=of_decide_eq_false c3
    refine zag Tk (r:=ii 0) rfl rfl rfl trivial rfl rfl ?_
    simp only[c2,c3,decide_false,Bool.or_self,Bool.false_eq_true,if_false]
end Go.AI
namespace Go.AI
open Go.Proofs
inductive FrzC (nm:Nat) (d:I):List D→List D→Prop
 | nil:FrzC nm d [] []
 | i {x:I} {l m:List D}:FrzC nm d l m→FrzC nm d (.i x::l) (.i x::m)
 | f {k:FuncId} {l m:List D}:FrzC nm d l m→FrzC nm d (.fn (.func k) [] []::l) (.fn (.func k) [] []::m)
 | osl {l m:List D}:FrzC nm d l m→FrzC nm d (.osl 0 nm::l) (.i d::m)
 | agg {a b l m:List D}:FrzC nm d a b→FrzC nm d l m→FrzC nm d (.agg a::l) (.agg b::m)
theorem FrzC.rep {K K':Kn} {ρ:Nat→Nat→Loc} {sh sh':Nat→Nat→Option Sh} {nm es n:Nat} {xs:List (List I)} (hle:K.le K') (hs:sh 0 nm=some (.arr es n)) (hr:Rep K' (.slice (ρ 0 nm).base n (ρ 0 nm).cap) (.sl es n xs)) :
  ∀ {a b:List D},FrzC nm (.sl es n xs) a b→∀ {vs:List Value},RepDL K ρ sh vs a→RepDL K' ρ sh' vs b:=by
 intro a b h
 induction h with
 | nil=>
  intro vs r
  cases r
  exact .nil
 | i _ ih=>
  intro vs r
  cases r with
  | cons r rs=>cases r with
   | i r=>exact .cons (.i (r.mono hle)) (ih rs)
 | f _ ih=>
  intro vs r
  cases r with
  | cons r rs=>cases r with
   | fn h1 h2=>
    cases h1
    cases h2
    exact .cons (.fn .nil .nil) (ih rs)
 | osl _ ih=>
  intro vs r
  cases r with
  | cons r rs=>
   have:=zc1 r hs
   subst this
   exact .cons (.i hr) (ih rs)
 | agg _ _ ih1 ih2=>
  intro vs r
  cases r with
  | cons r rs=>cases r with
   | agg r=>exact .cons (.agg (ih1 r)) (ih2 rs)
theorem zfX {c:Cx} {s:St} {o:Oper} {f:FuncId} {args dargs:List D} {res:D} {t nm ty es n:Nat} {xs:List (List I)} {wr:Bool} {H:Heap} {O:List Heap}
  (hspec:zan c.P f dargs [] res [] []) (hsh:Shut res) (ha:FrzC nm (.sl es n xs) args dargs) (ht:o.dst=some t) (hn:t<s.n) (hS:s.S=H::O) (hl:look H nm=some (.arr ty es n xs wr)) :
  Wp c o s f args { σ:=(t,res)::s.σ,S:=s.S,n:=s.n }:=by
 intro K ρ a w hi ⟨vs,hrun,hrep⟩ next Qe hnext
 have hh:=hi.h
 rw[hS] at hh hrep
 obtain⟨K',hle,hF⟩:=hh.freeze hl
 have hown:=hF.own 0 nm (.arr ty es n xs false) (by simp[zab,zad])
 have hrd:RepDL K' ρ (shape []) vs dargs:=FrzC.rep hle (by simp[shape,zab,hl,Ob.sh]) (zc4 hown) ha hrep
 have hE:HInv { K0:=K',ρ0:=fun d=>ρ (d+1),w0:=w,pr:=fun b=>b<w.heap.size,lt:=fun _ h=>h } K' ρ [] w:=
  ⟨hF.holds,fun _ _ _ e=>by simp[zab] at e,fun _ _ _ _ _ _ e=>by simp[zab] at e,Nat.le_refl _,fun _ _ _=>rfl,fun _ _ e=>by simp[zab] at e,fun _=>rfl,K'.le_refl,fun _ _ _ h=>.inl h,⟨rfl,rfl,rfl⟩⟩
 have fin:∀ v w',(∃ K2 ρ2,HInv (.of K' ρ w) K2 ρ2 ([]::[]) w' ∧ RepD K2 ρ2 (shape ([]::[])) v res)→next (a.put o.dst v) w':=by
  intro v w' ⟨K2,ρ2,h1,h2⟩
  have hold:∀ b,b<w.heap.size→w'.heap[b]? = w.heap[b]?:=fun b hb=>h1.old b hb fun d n ob e=>by simp[zab] at e
  have hg:Grow K ρ s.S w [] K ρ w':=by
   refine⟨K.le_refl,fun _ _ _ h=>.inl h,h1.size,hold,h1.rest,fun _ _ _=>rfl,fun b o x hx=>?_,fun _ _ h=>by simp[look] at h,fun _ _ _ _ h=>by simp[look] at h⟩
   have h3:=hh.holds _ _ _ hx
   have hb:b<w.heap.size:=by
    rcases Nat.lt_or_ge b w.heap.size with h | h
    ·exact h
    ·rw[hh.K_fresh h] at hx;cases hx
   rw[World.cell?,hold b hb]
   exact h3
  have hi0:=hi.h
  obtain⟨hI,hst⟩:=HInv.grow (S:=s.S) hS hi0 (fun _ _ _ e=>e) (fun _ h=>by simp[look] at h) hg
  have e0:addS s.S []=s.S:=by rw[hS];rfl
  rw[e0] at hI hst
  refine hnext v w' K ρ ?_
  rw[ht]
  refine⟨hI,hi.defers,by simp[Act.put];exact hi.size,fun t' d' e'=>?_⟩
  rw[zcu (by rw[hi.size];exact hn)]
  simp only[zad] at e'
  split at e'
  ·rename_i e2
   simp only[Option.some.injEq] at e'
   subst e'
   rw[if_pos e2]
   exact hsh _ _ _ _ _ _ _ h2
  ·rename_i e2
   rw[if_neg e2]
   exact hi.slots _ _ e'
 rcases hspec _ K' ρ w vs hE hrd with ⟨h1,h2⟩ | ⟨v,w',h1,h2⟩
 ·rw[h1] at hrun
  simp only[Oper.wp,hrun,Oper.upon]
  refine h2.mono ?_
  rintro e w' ⟨v,rfl,hR⟩
  exact fin v w' hR
 ·rw[h1] at hrun
  simp only[Oper.wp,hrun,Oper.upon]
  exact fin v w' h2
end Go.AI
namespace Go.AI
open Go.Proofs
set_option maxRecDepth 20000
theorem zwo (O:List Heap) (m:Mdl) (k:Nat) (x:Ins) (h:m.comps[k]? = some x):zan Tryz.prog 31 [mdlD m,.agg [ii 3,ii k]] O (insD x) [] O:=by
 have hk:k<m.comps.length:=(List.getElem?_eq_some_iff.1 h).1
 have gx:(m.comps.map insI)[(k:Int).toNat]? = some (insI x):=by rw[Int.toNat_natCast,List.getElem?_map,h];rfl
 obtain⟨xn,xt,xe⟩:=x
 refine zaa Tk Tryz.func31 rfl Tryz.call31 Tryz.ntmps31 (Nat.le_of_ble_eq_true rfl) fun E=>?_
 refine zah Tk Tryz.func31 ?_
 refine gcT Tk Tryz.func31 rfl ?_
 refine zai Tk Tryz.func31 (by exact⟨by omega,by show (k:Int)<(m.comps.length:Int);omega⟩) ?_
 refine zap Tk Tryz.func31 (gx) ?_
 refine zag Tk (r:=insD ⟨xn,xt,xe⟩) rfl rfl rfl trivial rfl rfl ?_
 rfl
theorem zwn (O:List Heap) (m:Mdl) (a:Int) (k:Nat) (x:Ins) (ha:a≠3) (h:m.reqs[k]? = some x):zan Tryz.prog 31 [mdlD m,.agg [ii a,ii k]] O (insD x) [] O:=by
 have hk:k<m.reqs.length:=(List.getElem?_eq_some_iff.1 h).1
 have gx:(m.reqs.map insI)[(k:Int).toNat]? = some (insI x):=by rw[Int.toNat_natCast,List.getElem?_map,h];rfl
 obtain⟨xn,xt,xe⟩:=x
 refine zaa Tk Tryz.func31 rfl Tryz.call31 Tryz.ntmps31 (Nat.le_of_ble_eq_true rfl) fun E=>?_
 refine zah Tk Tryz.func31 ?_
 refine zaf Tk Tryz.func31 rfl (fun c=>?_) (fun c=>?_)
 ·exact absurd (beqT c) ha
 refine zai Tk Tryz.func31 (by exact⟨by omega,by show (k:Int)<(m.reqs.length:Int);omega⟩) ?_
 refine zap Tk Tryz.func31 (gx) ?_
 refine zag Tk (r:=insD ⟨xn,xt,xe⟩) rfl rfl rfl trivial rfl rfl ?_
 rfl
def zbQ (m:Mdl):List ByteArray:=(m.comps++m.reqs).map (·.name)
def zbR (m:Mdl) (i:Nat):Plc × Int:=plc 3 (za4 Ins.name (insE m) ((zbQ m).take i) (m.comps.drop i) i) (plc 4 (za4 Ins.name (reqE m) ((zbQ m).take (max i m.comps.length)) (m.reqs.drop (i - m.comps.length)) (i - m.comps.length)) ((0,0),0) id) id
theorem zvo (m:Mdl):(zbQ m).take m.comps.length=m.comps.map (·.name):=by
 unfold zbQ
 rw[List.map_append,List.take_append_of_le_length (by rw[List.length_map];exact Nat.le_refl _),List.take_of_length_le (by rw[List.length_map];exact Nat.le_refl _)]
theorem zsN (m:Mdl):zbR m 0=plc 3 (za4 Ins.name (insE m) [] m.comps 0) (plc 4 (za4 Ins.name (reqE m) (m.comps.map (·.name)) m.reqs 0) ((0,0),0) id) id:=by
 unfold zbR
 rw[Nat.zero_max,zvo,Nat.zero_sub]
 rfl
theorem zqk (m:Mdl):(zbQ m).length=m.comps.length+m.reqs.length:=by simp[zbQ]
theorem znS {m:Mdl} {i:Nat} (h:i<m.comps.length):(zbQ m)[i]? = some m.comps[i].name:=by
 unfold zbQ
 rw[List.getElem?_map,List.getElem?_append_left h,List.getElem?_eq_getElem h]
 rfl
theorem znR {m:Mdl} {i:Nat} (h:m.comps.length≤i) (h2:i - m.comps.length<m.reqs.length):(zbQ m)[i]? = some m.reqs[i - m.comps.length].name:=by
 unfold zbQ
 rw[List.getElem?_map,List.getElem?_append_right h,List.getElem?_eq_getElem h2]
 rfl
theorem zdB {α:Type} {l:List α} {i:Nat} {x:α} (h:l[i]? = some x):l.take (i+1)=l.take i++[x]:=by
 obtain⟨h1,h2⟩:=List.getElem?_eq_some_iff.1 h
 rw[← h2]
 exact List.take_succ_eq_append_getElem h1
theorem zsM {m:Mdl} {i:Nat} (h:i<m.comps.length):zbR m i=if nmE ((zbQ m).take i) m.comps[i].name≠0 then ((3,(i:Int)),nmE ((zbQ m).take i) m.comps[i].name) else if insE m m.comps[i]≠0 then ((3,(i:Int)),insE m m.comps[i]) else zbR m (i+1):=by
 unfold zbR
 rw[List.drop_eq_getElem_cons h]
 simp only[za4,← zdB (znS h)]
 have e1:max i m.comps.length=max (i+1) m.comps.length:=by omega
 have e2:i - m.comps.length=i+1 - m.comps.length:=by omega
 rw[e1,e2]
 by_cases h1:nmE ((zbQ m).take i) m.comps[i].name≠0
 ·rw[if_pos h1,if_pos h1];rfl
 rw[if_neg h1,if_neg h1]
 by_cases h2:insE m m.comps[i]≠0
 ·rw[if_pos h2,if_pos h2];rfl
 ·rw[if_neg h2,if_neg h2]
theorem zsK {m:Mdl} {i:Nat} (h:m.comps.length≤i) (h2:i - m.comps.length<m.reqs.length):zbR m i=if nmE ((zbQ m).take i) m.reqs[i - m.comps.length].name≠0 then ((4,((i - m.comps.length:Nat):Int)),nmE ((zbQ m).take i) m.reqs[i - m.comps.length].name) else if reqE m m.reqs[i - m.comps.length]≠0 then ((4,((i - m.comps.length:Nat):Int)),reqE m m.reqs[i - m.comps.length]) else zbR m (i+1):=by
 unfold zbR
 rw[List.drop_eq_nil_of_le h,List.drop_eq_nil_of_le (show m.comps.length≤i+1 by omega),List.drop_eq_getElem_cons h2,Nat.max_eq_left h,Nat.max_eq_left (show m.comps.length≤i+1 by omega),show i+1 - m.comps.length=i - m.comps.length+1 by omega]
 simp only[za4,← zdB (znR h h2)]
 by_cases h1:nmE ((zbQ m).take i) m.reqs[i - m.comps.length].name≠0
 ·rw[if_pos h1,if_pos h1];rfl
 rw[if_neg h1,if_neg h1]
 by_cases h2:reqE m m.reqs[i - m.comps.length]≠0
 ·rw[if_pos h2,if_pos h2];rfl
 ·rw[if_neg h2,if_neg h2]
theorem zsL {m:Mdl} {i:Nat} (h:m.comps.length+m.reqs.length≤i):zbR m i=((0,0),0):=by
 unfold zbR
 rw[List.drop_eq_nil_of_le (by omega),List.drop_eq_nil_of_le (by omega)]
 rfl
theorem zkc (O:List Heap) (m:Mdl) (x:Ins) (b:List ByteArray) (rq:Bool) (hm:mdlOk m) (hx:insOk x) (hb:b.length≤1000000) :
  zan Tryz.prog 129 [mdlD m,insD x,.i (.sl 1 (b.length+1) ((b.map fun s=>[strI s])++[[strI x.name]])),bb rq] O (ii (if nmE b x.name≠0 then nmE b x.name else if rq=true then reqE m x else insE m x)) [] O:=by
 have e:ssD (b++[x.name]) = .i (.sl 1 (b.length+1) ((b.map fun s=>[strI s])++[[strI x.name]])):=by simp
 rw[← e]
 exact zlx O m x b rq hm hx hb
theorem zlw (O:List Heap) (m:Mdl) (hm:mdlOk m):zan Tryz.prog 51 [mdlD m] O (plcD (chkI m)) [] O:=by
 have hcl:=hm.co
 have hrl:=hm.rq
 have hck:=hm.cok
 have hrk:=hm.rqk
 have h129:=fun x b rq hx hb=>zkc [] m x b rq hm hx hb
 have hgc:=fun O k x h=>zwo O m k x h
 have hgr:=fun O k x h=>zwn O m 4 k x (by decide) h
 have hfc:=fun i h=>zsM (m:=m) (i:=i) h
 have hfr:=fun i h h2=>zsK (m:=m) (i:=i) h h2
 have hfe:=fun i h=>zsL (m:=m) (i:=i) h
 unfold chkI
 rw[← zsN]
 refine zaM [200063] Tk Tryz.func51 rfl Tryz.call51 Tryz.ntmps51 (Nat.le_of_ble_eq_true rfl) fun E=>?_
 refine zah Tk Tryz.func51 ?_
 refine zaf Tk Tryz.func51 rfl (fun c1=>?_) (fun c1=>?_)
 ·have c1:m.comps.length=0:=by simpa using c1
  rw[if_pos c1]
  refine zag Tk (r:=plcD ((3,0),12)) rfl rfl rfl trivial rfl rfl ?_
  rfl
 have c1:¬ m.comps.length=0:=by simpa using c1
 rw[if_neg c1]
 refine zaf Tk Tryz.func51 rfl (fun c2=>?_) (fun c2=>?_)
 ·have c2:m.comps.length>8:=by have:(m.comps.length:Int)>8:=of_decide_eq_true c2;omega
  rw[if_pos c2]
  refine zag Tk (r:=plcD ((3,8),3)) rfl rfl rfl trivial rfl rfl ?_
  rfl
 have c2:¬ m.comps.length>8:=by have:¬ (m.comps.length:Int)>8:=of_decide_eq_false c2;omega
 rw[if_neg c2]
 have w1:IntKind.i64.wrap ((m.comps.length:Int)+(m.reqs.length:Int))=(m.comps.length:Int)+(m.reqs.length:Int):=w64 (by omega) (by omega)
 have w2:IntKind.i64.wrap (12 - (m.comps.length:Int))=12 - (m.comps.length:Int):=w64 (by omega) (by omega)
 refine zaf Tk Tryz.func51 rfl (fun c3=>?_) (fun c3=>?_)
 ·have c3:m.comps.length+m.reqs.length>12:=by have:IntKind.i64.wrap ((m.comps.length:Int)+(m.reqs.length:Int))>12:=of_decide_eq_true c3;rw[w1] at this;omega
  rw[if_pos c3]
  refine zag Tk (r:=plcD ((4,IntKind.i64.wrap (12 - (m.comps.length:Int))),3)) rfl rfl rfl trivial rfl rfl ?_
  rw[w2]
 have c3:¬ m.comps.length+m.reqs.length>12:=by have:¬ IntKind.i64.wrap ((m.comps.length:Int)+(m.reqs.length:Int))>12:=of_decide_eq_false c3;rw[w1] at this;omega
 rw[if_neg c3]
 generalize hR:zbR m 0=R
 refine g_wk (zbh 5 56 9 1 rfl rfl rfl) ?_
 refine zae ?_
 refine zaj (fun i:Nat=>[(1,.own 0 1 0 0),(2,.own 0 2 0 0),(4,ii m.comps.length),(5,.osl 0 56),(6,ii i)]) (fun i=>[(1,.box (mdlC m)),(2,plcN),(56,oss ((zbQ m).take i))]) (fun _=>O) 69
  (fun i=>i≤m.comps.length+m.reqs.length∧zbR m i=R) (fun i=>m.comps.length+m.reqs.length - i) 0 ⟨Nat.zero_le _,hR⟩ ⟨rfl,rfl,rfl,rfl,rfl,trivial⟩ rfl ⟨rfl,rfl,rfl,trivial⟩ rfl rfl ?_
 clear hR
 rintro i ⟨hi,hno⟩ ih
 have hL:((zbQ m).take i).length=i:=by rw[List.length_take,zqk];omega
 refine zah Tk Tryz.func51 ?_
 refine zaf Tk Tryz.func51 rfl (fun g1=>?_) (fun g1=>?_)
 rotate_left
 ·have g1:¬ (i:Int)<IntKind.i64.wrap ((m.comps.length:Int)+(m.reqs.length:Int)):=of_decide_eq_false g1
  rw[w1] at g1
  rw[hfe i (by omega)] at hno
  subst hno
  refine zag Tk (r:=plcD ((0,0),0)) rfl rfl rfl trivial rfl rfl ?_
  rfl
 have g1:(i:Int)<IntKind.i64.wrap ((m.comps.length:Int)+(m.reqs.length:Int)):=of_decide_eq_true g1
 rw[w1] at g1
 have hj1:ii (IntKind.i64.wrap ((i:Int)+1))=ii ((i+1:Nat):Int):=congrArg ii (zay (n:=1000001) (by omega) (by decide))
 refine zaf Tk Tryz.func51 rfl (fun g2=>?_) (fun g2=>?_)
 ·have g2:m.comps.length≤i:=by simpa using g2
  have g3:i - m.comps.length<m.reqs.length:=by omega
  have w3:IntKind.i64.wrap ((i:Int) - (m.comps.length:Int))=((i - m.comps.length:Nat):Int):=by rw[w64 (by omega) (by omega)];omega
  rw[hfr i g2 g3] at hno
  have ht:=zdB (znR g2 g3)
  have hx:=hrk _ (List.getElem_mem g3)
  have hg:=fun O=>hgr O _ _ (List.getElem?_eq_getElem g3)
  rw[← w3] at hg
  generalize m.reqs[i - m.comps.length]=x at *
  have h1:=h129 x ((zbQ m).take i) true hx (by omega)
  generalize (zbQ m).take i=b at *
  obtain⟨xn,xt,xe⟩:=x
  simp only[if_true] at h1 ht hno
  have hres:(if nmE b xn≠0 then ((4,((i - m.comps.length:Nat):Int)),nmE b xn) else if reqE m ⟨xn,xt,xe⟩≠0 then ((4,((i - m.comps.length:Nat):Int)),reqE m ⟨xn,xt,xe⟩) else zbR m (i+1))=if (if nmE b xn≠0 then nmE b xn else reqE m ⟨xn,xt,xe⟩)≠0 then ((4,((i - m.comps.length:Nat):Int)),if nmE b xn≠0 then nmE b xn else reqE m ⟨xn,xt,xe⟩) else zbR m (i+1):=by
   by_cases k1:nmE b xn≠0
   ·simp only[if_pos k1]
   ·simp only[if_neg k1]
  rw[hres] at hno
  clear hres
  generalize (if nmE b xn≠0 then nmE b xn else reqE m ⟨xn,xt,xe⟩)=e at *
  refine zak Tk Tryz.func51 (hg _) rfl rfl rfl rfl rfl ?_
  refine zai Tk Tryz.func51 (by exact⟨by show (b.length+1) * 16≤140737488355328;omega,by show b.length+1≤9223372036854775807;omega⟩) ?_
  have h1:zan Tryz.prog 129 [mdlD m,insD ⟨xn,xt,xe⟩,.i (.sl 1 (b.length+1) ((b.map fun s=>[strI s])++[[strI xn]])),bb (decide ((i:Int) ≥ (m.comps.length:Int)))] [] (ii e) [] []:=by
   rw[decide_eq_true (by omega)];exact h1
  refine zbm Tk Tryz.func51 rfl rfl rfl rfl (zfX h1 (zeh _) (.agg (.i (.i (.i (.i (.i (.i (.i .nil))))))) (.agg (.i (.i (.i .nil))) (.osl (.i .nil)))) rfl (show 63<69 by decide) rfl rfl) ?_
  refine zaf Tk Tryz.func51 rfl (fun c4=>?_) (fun c4=>?_)
  ·have c4:e≠0:=bneT c4
   rw[if_pos c4] at hno
   subst hno
   refine zag Tk (r:=plcD ((4,IntKind.i64.wrap ((i:Int) - (m.comps.length:Int))),e)) rfl rfl rfl trivial rfl rfl ?_
   rw[w3]
  have c4:¬ e≠0:=fun h=>h (bneF c4)
  rw[if_neg c4] at hno
  refine zae ?_
  refine ih (i+1) _ _ ⟨by omega,hno⟩ (by omega) ⟨rfl,rfl,rfl,rfl,hj1,trivial⟩ rfl ⟨rfl,rfl,?_,trivial⟩ rfl rfl
  rw[ht]
  exact congrArg some (za2 b xn)
 ·have g2:i<m.comps.length:=by simpa using g2
  rw[hfc i g2] at hno
  have ht:=zdB (znS g2)
  have hx:=hck _ (List.getElem_mem g2)
  have hg:=fun O=>hgc O _ _ (List.getElem?_eq_getElem g2)
  generalize m.comps[i]=x at *
  have h1:=h129 x ((zbQ m).take i) false hx (by omega)
  generalize (zbQ m).take i=b at *
  obtain⟨xn,xt,xe⟩:=x
  simp only[Bool.false_eq_true,if_false] at h1 ht hno
  have hres:(if nmE b xn≠0 then ((3,(i:Int)),nmE b xn) else if insE m ⟨xn,xt,xe⟩≠0 then ((3,(i:Int)),insE m ⟨xn,xt,xe⟩) else zbR m (i+1))=if (if nmE b xn≠0 then nmE b xn else insE m ⟨xn,xt,xe⟩)≠0 then ((3,(i:Int)),if nmE b xn≠0 then nmE b xn else insE m ⟨xn,xt,xe⟩) else zbR m (i+1):=by
   by_cases k1:nmE b xn≠0
   ·simp only[if_pos k1]
   ·simp only[if_neg k1]
  rw[hres] at hno
  clear hres
  generalize (if nmE b xn≠0 then nmE b xn else insE m ⟨xn,xt,xe⟩)=e at *
  refine zak Tk Tryz.func51 (hg _) rfl rfl rfl rfl rfl ?_
  refine zai Tk Tryz.func51 (by exact⟨by show (b.length+1) * 16≤140737488355328;omega,by show b.length+1≤9223372036854775807;omega⟩) ?_
  have h1:zan Tryz.prog 129 [mdlD m,insD ⟨xn,xt,xe⟩,.i (.sl 1 (b.length+1) ((b.map fun s=>[strI s])++[[strI xn]])),bb (decide ((i:Int) ≥ (m.comps.length:Int)))] [] (ii e) [] []:=by
   rw[decide_eq_false (by omega)];exact h1
  refine zbm Tk Tryz.func51 rfl rfl rfl rfl (zfX h1 (zeh _) (.agg (.i (.i (.i (.i (.i (.i (.i .nil))))))) (.agg (.i (.i (.i .nil))) (.osl (.i .nil)))) rfl (show 63<69 by decide) rfl rfl) ?_
  refine zaf Tk Tryz.func51 rfl (fun c4=>?_) (fun c4=>?_)
  ·have c4:e≠0:=bneT c4
   rw[if_pos c4] at hno
   subst hno
   refine zag Tk (r:=plcD ((3,i),e)) rfl rfl rfl trivial rfl rfl ?_
   rfl
  have c4:¬ e≠0:=fun h=>h (bneF c4)
  rw[if_neg c4] at hno
  refine zae ?_
  refine ih (i+1) _ _ ⟨by omega,hno⟩ (by omega) ⟨rfl,rfl,rfl,rfl,hj1,trivial⟩ rfl ⟨rfl,rfl,?_,trivial⟩ rfl rfl
  rw[ht]
  exact congrArg some (za2 b xn)
theorem zjb {α:Type} {nm:α→ByteArray} {err:α→Int} {l:List α} {i:Nat} (h:i<l.length):za4 nm err ((l.map nm).take i) (l.drop i) i=if (if nmE ((l.map nm).take i) (nm l[i])≠0 then nmE ((l.map nm).take i) (nm l[i]) else err l[i])≠0 then some (i,if nmE ((l.map nm).take i) (nm l[i])≠0 then nmE ((l.map nm).take i) (nm l[i]) else err l[i]) else za4 nm err ((l.map nm).take (i+1)) (l.drop (i+1)) (i+1):=by
 rw[List.drop_eq_getElem_cons h]
 have ht:(l.map nm).take (i+1)=(l.map nm).take i++[nm l[i]]:=zdB (by rw[List.getElem?_map,List.getElem?_eq_getElem h];rfl)
 simp only[za4,ht]
 by_cases k1:nmE ((l.map nm).take i) (nm l[i])≠0
 ·simp only[if_pos k1]
 ·simp only[if_neg k1]
theorem zyd (O:List Heap) (m:Mdl) (hm:mdlOk m):zan Tryz.prog 15 [mdlD m] O (plcD (mdlE m)) [] O:=by
 have h0:=fun O=>zdn O m.name hm.nm
 have hev:=hm.ev
 have hen:=hm.evn
 have htl:=hm.tp
 have hxl:=hm.ex
 have hcl:=hm.cn
 have h50:=fun O i hi=>zpF O m i hi hm
 have h51:=fun O=>zlw O m hm
 have h52:=fun O i hi h=>zlE O m i hi hm h
 have h53:=fun O i hi=>zkM O m i hi hm
 have hti:(chkI m).2=0→∀ c∈m.comps,∃ t,zb1 m c=some t:=fun h c hc=>by
  obtain⟨t,h1,_⟩:=zgh (zji h c hc)
  exact⟨t,h1⟩
 rw[zln]
 generalize chkI m=cI at *
 unfold chkT chkC
 generalize hRT:za4 Tpl.name tplE [] m.tpls 0=RT
 generalize hRX:za4 NEx.name (excE m) [] m.excs 0=RX
 generalize hRC:za4 NCn.name (conE m) [] m.cons 0=RC
 generalize hRE:evsP [] m.evs 0=RE
 generalize zaS m.name=nb at *
 have hA:∀ O i,i<m.evs.length→zan Tryz.prog 46 [.i (.sl 5 (IntKind.i64.wrap ((i:Int)+1)).toNat ((m.evs.map evtI).take (IntKind.i64.wrap ((i:Int)+1)).toNat))] O (ii (zjn (m.evs.take (i+1)))) [] O:=fun O i hi=>by
  rw[zay (i:=i) (n:=1000001) (by omega) (by decide),Int.toNat_natCast,← zdC evtI 5 hi]
  exact ztL O (m.evs.take (i+1)) (by rw[List.length_take];omega) fun x hx=>hen x (List.mem_of_mem_take hx)
 clear hm hen
 obtain⟨⟨i1,i2⟩,i3⟩:=cI
 simp only at hti ⊢
 refine zaa Tk Tryz.func15 rfl Tryz.call15 Tryz.ntmps15 (Nat.le_of_ble_eq_true rfl) fun E=>?_
 refine zah Tk Tryz.func15 ?_
 refine zak Tk Tryz.func15 (h0 _) rfl rfl rfl rfl rfl ?_
 refine zaf Tk Tryz.func15 rfl (fun c1=>?_) (fun c1=>?_)
 ·have c1:nb=false:=by simpa using c1
  rw[if_pos c1]
  refine zag Tk (r:=plcD ((0,0),7)) rfl rfl rfl trivial rfl rfl ?_
  rfl
 have c1:¬ nb=false:=by simpa using c1
 rw[if_neg c1]
 clear h0
 refine zae ?_
 refine zaj (fun i:Nat=>[(1,.own 0 1 0 0),(2,.own 0 2 0 0),(4,ii i)]) (fun i=>[(1,.box (mdlC m)),(2,plcN)]) (fun _=>O) 107
  (fun i=>i≤m.evs.length∧evsP (m.evs.take i) (m.evs.drop i) i=RE) (fun i=>m.evs.length - i) 0 ⟨Nat.zero_le _,hRE⟩ ⟨rfl,rfl,rfl,trivial⟩ rfl ⟨rfl,rfl,trivial⟩ rfl rfl ?_
 clear hRE
 rintro i ⟨hi,hno⟩ ih
 refine zah Tk Tryz.func15 ?_
 refine zaf Tk Tryz.func15 rfl (fun g1=>?_) (fun g1=>?_)
 ·have g1:i<m.evs.length:=by simpa using g1
  have hw:IntKind.i64.wrap ((i:Int)+1)=((i+1:Nat):Int):=zay (n:=1000001) (by omega) (by decide)
  have ht:m.evs.take (i+1)=m.evs.take i++[m.evs[i]]:=List.take_succ_eq_append_getElem g1
  have hA':=fun O=>hA O i g1
  rw[List.drop_eq_getElem_cons g1] at hno
  simp only[evsP,← ht] at hno
  generalize zjn (m.evs.take (i+1))=e1 at *
  refine zai Tk Tryz.func15 (by exact⟨by rw[hw];omega,by rw[hw];show ((i+1:Nat):Int)≤(m.evs.length:Int);omega⟩) ?_
  refine zak Tk Tryz.func15 (hA' _) rfl rfl rfl rfl rfl ?_
  refine zaf Tk Tryz.func15 rfl (fun c2=>?_) (fun c2=>?_)
  ·have c2:e1≠0:=bneT c2
   rw[if_pos c2] at hno
   subst hno
   refine zag Tk (r:=plcD ((1,i),e1)) rfl rfl rfl trivial rfl rfl ?_
   rfl
  have c2:¬ e1≠0:=fun h=>h (bneF c2)
  rw[if_neg c2] at hno
  refine zae ?_
  exact ih (i+1) _ _ ⟨g1,hno⟩ (by omega) ⟨rfl,rfl,congrArg ii hw,trivial⟩ rfl ⟨rfl,rfl,trivial⟩ rfl rfl
 have g1:m.evs.length≤i:=by simpa using g1
 rw[List.drop_eq_nil_of_le g1] at hno
 have hno:none=RE:=hno
 subst hno
 rw[show ∀ V:Plc × Int,plc 1 none V id=V from fun _=>rfl]
 clear ih hA g1 hi
 refine zaf Tk Tryz.func15 rfl (fun c3=>?_) (fun c3=>?_)
 ·have c3:m.tpls.length>16:=by have:(m.tpls.length:Int)>16:=of_decide_eq_true c3;omega
  rw[if_pos c3]
  refine zag Tk (r:=plcD ((2,16),3)) rfl rfl rfl trivial rfl rfl ?_
  rfl
 have c3:¬ m.tpls.length>16:=by have:¬ (m.tpls.length:Int)>16:=of_decide_eq_false c3;omega
 rw[if_neg c3]
 refine zae ?_
 refine zaj (fun i:Nat=>[(1,.own 0 1 0 0),(2,.own 0 2 0 0),(6,ii i)]) (fun i=>[(1,.box (mdlC m)),(2,plcN)]) (fun _=>O) 107
  (fun i=>i≤m.tpls.length∧za4 Tpl.name tplE ((m.tpls.map (·.name)).take i) (m.tpls.drop i) i=RT) (fun i=>m.tpls.length - i) 0 ⟨Nat.zero_le _,hRT⟩ ⟨rfl,rfl,rfl,trivial⟩ rfl ⟨rfl,rfl,trivial⟩ rfl rfl ?_
 clear hRT
 rintro i ⟨hi,hno⟩ ih
 refine zah Tk Tryz.func15 ?_
 refine zaf Tk Tryz.func15 rfl (fun g1=>?_) (fun g1=>?_)
 ·have g1:i<m.tpls.length:=by simpa using g1
  have hj1:ii (IntKind.i64.wrap ((i:Int)+1))=ii ((i+1:Nat):Int):=congrArg ii (zay (n:=1000001) (by omega) (by decide))
  have h50':=fun O=>h50 O i g1
  rw[zjb g1] at hno
  generalize (if nmE ((m.tpls.map (·.name)).take i) m.tpls[i].name≠0 then nmE ((m.tpls.map (·.name)).take i) m.tpls[i].name else tplE m.tpls[i])=e at *
  refine zak Tk Tryz.func15 (h50' _) rfl rfl rfl rfl rfl ?_
  refine zaf Tk Tryz.func15 rfl (fun c4=>?_) (fun c4=>?_)
  ·have c4:e≠0:=bneT c4
   rw[if_pos c4] at hno
   subst hno
   have c4':((plc 2 (some (i,e)) ((0,0),0) id:Plc × Int)).2≠0:=c4
   rw[if_pos c4']
   refine zag Tk (r:=plcD ((2,i),e)) rfl rfl rfl trivial rfl rfl ?_
   rfl
  have c4:¬ e≠0:=fun h=>h (bneF c4)
  rw[if_neg c4] at hno
  refine zae ?_
  exact ih (i+1) _ _ ⟨g1,hno⟩ (by omega) ⟨rfl,rfl,hj1,trivial⟩ rfl ⟨rfl,rfl,trivial⟩ rfl rfl
 have g1:m.tpls.length≤i:=by simpa using g1
 rw[List.drop_eq_nil_of_le g1] at hno
 have hno:none=RT:=hno
 subst hno
 rw[if_neg (show ¬ ((plc 2 none ((0,0),0) id:Plc × Int)).2≠0 from fun h=>h rfl)]
 clear ih h50 g1 hi
 refine zak Tk Tryz.func15 (h51 _) rfl rfl rfl rfl rfl ?_
 refine zaf Tk Tryz.func15 rfl (fun c5=>?_) (fun c5=>?_)
 ·have c5:i3≠0:=bneT c5
  rw[if_pos c5]
  refine zag Tk (r:=plcD ((i1,i2),i3)) rfl rfl rfl trivial rfl rfl ?_
  rfl
 have c5:i3=0:=bneF c5
 rw[if_neg (fun h=>h c5)]
 have hti:=hti c5
 clear h51
 refine zaf Tk Tryz.func15 rfl (fun c6=>?_) (fun c6=>?_)
 ·have c6:m.excs.length>32:=by have:(m.excs.length:Int)>32:=of_decide_eq_true c6;omega
  rw[if_pos c6]
  refine zag Tk (r:=plcD ((5,32),3)) rfl rfl rfl trivial rfl rfl ?_
  rfl
 have c6:¬ m.excs.length>32:=by have:¬ (m.excs.length:Int)>32:=of_decide_eq_false c6;omega
 rw[if_neg c6]
 refine zae ?_
 refine zaj (fun i:Nat=>[(1,.own 0 1 0 0),(2,.own 0 2 0 0),(10,ii i)]) (fun i=>[(1,.box (mdlC m)),(2,plcN)]) (fun _=>O) 107
  (fun i=>i≤m.excs.length∧za4 NEx.name (excE m) ((m.excs.map (·.name)).take i) (m.excs.drop i) i=RX) (fun i=>m.excs.length - i) 0 ⟨Nat.zero_le _,hRX⟩ ⟨rfl,rfl,rfl,trivial⟩ rfl ⟨rfl,rfl,trivial⟩ rfl rfl ?_
 clear hRX
 rintro i ⟨hi,hno⟩ ih
 refine zah Tk Tryz.func15 ?_
 refine zaf Tk Tryz.func15 rfl (fun g1=>?_) (fun g1=>?_)
 ·have g1:i<m.excs.length:=by simpa using g1
  have hj1:ii (IntKind.i64.wrap ((i:Int)+1))=ii ((i+1:Nat):Int):=congrArg ii (zay (n:=1000001) (by omega) (by decide))
  have h52':=fun O=>h52 O i g1 hti
  rw[zjb g1] at hno
  generalize (if nmE ((m.excs.map (·.name)).take i) m.excs[i].name≠0 then nmE ((m.excs.map (·.name)).take i) m.excs[i].name else excE m m.excs[i])=e at *
  refine zak Tk Tryz.func15 (h52' _) rfl rfl rfl rfl rfl ?_
  refine zaf Tk Tryz.func15 rfl (fun c4=>?_) (fun c4=>?_)
  ·have c4:e≠0:=bneT c4
   rw[if_pos c4] at hno
   subst hno
   refine zag Tk (r:=plcD ((5,i),e)) rfl rfl rfl trivial rfl rfl ?_
   rfl
  have c4:¬ e≠0:=fun h=>h (bneF c4)
  rw[if_neg c4] at hno
  refine zae ?_
  exact ih (i+1) _ _ ⟨g1,hno⟩ (by omega) ⟨rfl,rfl,hj1,trivial⟩ rfl ⟨rfl,rfl,trivial⟩ rfl rfl
 have g1:m.excs.length≤i:=by simpa using g1
 rw[List.drop_eq_nil_of_le g1] at hno
 have hno:none=RX:=hno
 subst hno
 rw[show ∀ V:Plc × Int,plc 5 none V id=V from fun _=>rfl]
 clear ih h52 g1 hi
 refine zaf Tk Tryz.func15 rfl (fun c7=>?_) (fun c7=>?_)
 ·have c7:m.cons.length>32:=by have:(m.cons.length:Int)>32:=of_decide_eq_true c7;omega
  rw[if_pos c7]
  refine zag Tk (r:=plcD ((6,32),3)) rfl rfl rfl trivial rfl rfl ?_
  rfl
 have c7:¬ m.cons.length>32:=by have:¬ (m.cons.length:Int)>32:=of_decide_eq_false c7;omega
 rw[if_neg c7]
 refine zae ?_
 refine zaj (fun i:Nat=>[(1,.own 0 1 0 0),(2,.own 0 2 0 0),(12,ii i)]) (fun i=>[(1,.box (mdlC m)),(2,plcN)]) (fun _=>O) 107
  (fun i=>i≤m.cons.length∧za4 NCn.name (conE m) ((m.cons.map (·.name)).take i) (m.cons.drop i) i=RC) (fun i=>m.cons.length - i) 0 ⟨Nat.zero_le _,hRC⟩ ⟨rfl,rfl,rfl,trivial⟩ rfl ⟨rfl,rfl,trivial⟩ rfl rfl ?_
 clear hRC
 rintro i ⟨hi,hno⟩ ih
 refine zah Tk Tryz.func15 ?_
 refine zaf Tk Tryz.func15 rfl (fun g1=>?_) (fun g1=>?_)
 ·have g1:i<m.cons.length:=by simpa using g1
  have hj1:ii (IntKind.i64.wrap ((i:Int)+1))=ii ((i+1:Nat):Int):=congrArg ii (zay (n:=1000001) (by omega) (by decide))
  have h53':=fun O=>h53 O i g1
  rw[zjb g1] at hno
  generalize (if nmE ((m.cons.map (·.name)).take i) m.cons[i].name≠0 then nmE ((m.cons.map (·.name)).take i) m.cons[i].name else conE m m.cons[i])=e at *
  refine zak Tk Tryz.func15 (h53' _) rfl rfl rfl rfl rfl ?_
  refine zaf Tk Tryz.func15 rfl (fun c4=>?_) (fun c4=>?_)
  ·have c4:e≠0:=bneT c4
   rw[if_pos c4] at hno
   subst hno
   refine zag Tk (r:=plcD ((6,i),e)) rfl rfl rfl trivial rfl rfl ?_
   rfl
  have c4:¬ e≠0:=fun h=>h (bneF c4)
  rw[if_neg c4] at hno
  refine zae ?_
  exact ih (i+1) _ _ ⟨g1,hno⟩ (by omega) ⟨rfl,rfl,hj1,trivial⟩ rfl ⟨rfl,rfl,trivial⟩ rfl rfl
 have g1:m.cons.length≤i:=by simpa using g1
 rw[List.drop_eq_nil_of_le g1] at hno
 have hno:none=RC:=hno
 subst hno
 refine zag Tk (r:=plcD ((0,0),0)) rfl rfl rfl trivial rfl rfl ?_
 rfl
theorem zwq {α β:Type} {f:α→List β} {k:Nat}:∀ {l:List α},(∀ x∈l,(f x).length≤k)→(l.flatMap f).length≤l.length * k
 | [],_=>by simp
 | x::r,h=>by
  have h1:=h x (by simp)
  have h2:=zwq (l:=r) fun y hy=>h y (by simp[hy])
  rw[List.flatMap_cons,List.length_append,List.length_cons,Nat.succ_mul]
  omega
instance staDec:DecidableEq Sta:=fun a b=>decidable_of_iff (a.loc=b.loc∧a.vals=b.vals) ⟨fun ⟨h1,h2⟩=>by cases a;cases b;cases h1;cases h2;rfl,fun h=>by subst h;exact⟨rfl,rfl⟩⟩
end Go.AI
set_option maxRecDepth 20000
namespace Go.AI
open Go.Proofs
end Go.AI
namespace Go.AI
open Go.Proofs
set_option maxRecDepth 20000
theorem zzx {m:Mdl} {p:Plc} {x:Ins} (h:zbE m p = .ok x) (O:List Heap):zan Tryz.prog 31 [mdlD m,.agg [ii p.1,ii p.2]] O (insD x) [] O:=by
 obtain⟨a,b⟩:=p
 unfold zbE at h
 simp only at h ⊢
 by_cases h1:a=3
 ·rw[if_pos h1] at h
  by_cases h2:b<0
  ·rw[if_pos h2] at h;cases h
  rw[if_neg h2] at h
  cases h3:m.comps[b.toNat]? with
  | none=>rw[h3] at h;cases h
  | some y=>
   rw[h3] at h
   cases h
   have:=zwo O m b.toNat x h3
   rw[Int.toNat_of_nonneg (by omega)] at this
   rw[h1];exact this
 rw[if_neg h1] at h
 by_cases h4:a=4
 ·rw[if_pos h4] at h
  by_cases h2:b<0
  ·rw[if_pos h2] at h;cases h
  rw[if_neg h2] at h
  cases h3:m.reqs[b.toNat]? with
  | none=>rw[h3] at h;cases h
  | some y=>
   rw[h3] at h
   cases h
   have:=zwn O m a b.toNat x h1 h3
   rw[Int.toNat_of_nonneg (by omega)] at this
   exact this
 ·rw[if_neg h4] at h;cases h
end Go.AI
