/- The layer of abstract runs, part 30. -/
import Derived.Test.YtnojpbbaohoadaaGreatDoorElkZC
import Derived.KernelRfl
set_option linter.unusedSimpArgs false
set_option linter.unusedVariables false
set_option linter.all false
set_option maxHeartbeats 4000000
namespace Go.AI
open Go.Proofs
section
variable {σ:Type} {eq:σ→σ→Bool} {step:σ→Int→σ×Bool×Int} {mkd:σ→Bool}
theorem zpj {lim:Bool} {i:Nat} {s:σ} {ev:Int} {U:Unf σ} {e:Int} (h:zfN eq lim step i s ev U=.error e):e≠0:=by
 unfold zfN at h
 by_cases h1:(step s ev).2.2≠0
 ·rw[if_pos h1] at h;cases h;exact h1
 rw[if_neg h1] at h
 by_cases h2:(step s ev).2.1=false
 ·rw[if_pos h2] at h;cases h
 rw[if_neg h2] at h
 by_cases h3:U.sts.findIdx (eq (step s ev).1)<U.sts.length
 ·rw[if_pos h3] at h;cases h
 rw[if_neg h3] at h
 by_cases h4:lim=true∧U.sts.length=4096
 ·rw[if_pos h4] at h;cases h;decide
 rw[if_neg h4] at h;cases h
theorem zgv {lim:Bool} {i:Nat} {s:σ} {e:Int}:∀{l:List Int} {U:Unf σ},zbG eq lim step i s l U=.error e→e≠0
 |[],_,h=>by cases h
 |ev::r,U,h=>by
  simp only[zbG] at h
  cases hv:zfN eq lim step i s ev U with
  |error e'=>rw[hv] at h;cases h;exact zpj hv
  |ok U'=>rw[hv] at h;exact zgv h
theorem zjz {lim:Bool} {alpha:List Int} {e:Int}:∀{f i:Nat} {U:Unf σ},zf4 eq lim step mkd alpha f i U=.error e→e≠0
 |0,_,_,h=>by cases h
 |f+1,i,U,h=>by
  simp only[zf4] at h
  cases hg:U.sts[i]? with
  |none=>rw[hg] at h;cases h
  |some s=>
   rw[hg] at h;simp only at h
   cases hv:zbG eq lim step i s alpha (zgy mkd i s U) with
   |error e'=>rw[hv] at h;cases h;exact zgv hv
   |ok U'=>rw[hv] at h;exact zjz h
theorem zpi {i:Nat} {s:σ} {ev:Int} {U V:Unf σ} (h:zfN eq true step i s ev U=.ok V) (hU:U.sts.length≤4096):V.sts.length≤4096:=by
 unfold zfN at h
 by_cases h1:(step s ev).2.2≠0
 ·rw[if_pos h1] at h;cases h
 rw[if_neg h1] at h
 by_cases h2:(step s ev).2.1=false
 ·rw[if_pos h2] at h;cases h;exact hU
 rw[if_neg h2] at h
 by_cases h3:U.sts.findIdx (eq (step s ev).1)<U.sts.length
 ·rw[if_pos h3] at h;cases h;exact hU
 rw[if_neg h3] at h
 by_cases h4:true=true∧U.sts.length=4096
 ·rw[if_pos h4] at h;cases h
 rw[if_neg h4] at h
 cases h
 have:U.sts.length≠4096:=fun e=>h4 ⟨rfl,e⟩;simp only[List.length_append,List.length_singleton];omega
theorem zgu {i:Nat} {s:σ} {V:Unf σ}:∀{l:List Int} {U:Unf σ},zbG eq true step i s l U=.ok V→U.sts.length≤4096→V.sts.length≤4096
 |[],_,h,hU=>by cases h;exact hU
 |ev::r,U,h,hU=>by
  simp only[zbG] at h
  cases hv:zfN eq true step i s ev U with
  |error e'=>rw[hv] at h;cases h
  |ok U'=>rw[hv] at h;exact zgu h (zpi hv hU)
theorem zjy {alpha:List Int} {V:Unf σ}:∀{f i:Nat} {U:Unf σ},zf4 eq true step mkd alpha f i U=.ok V→U.sts.length≤4096→V.sts.length≤4096
 |0,_,_,h,hU=>by cases h;exact hU
 |f+1,i,U,h,hU=>by
  simp only[zf4] at h
  cases hg:U.sts[i]? with
  |none=>rw[hg] at h;cases h;exact hU
  |some s=>
   rw[hg] at h;simp only at h
   cases hv:zbG eq true step i s alpha (zgy mkd i s U) with
   |error e'=>rw[hv] at h;cases h
   |ok U'=>rw[hv] at h;exact zjy h (zgu hv (by rw[(zjx mkd i s U).1];exact hU))
end
theorem zgx {m:Ext} {e:Int} (h:zcJ m=.error e):e≠0:=by
 unfold zcJ at h
 by_cases h1:chk m≠0
 ·rw[if_pos h1] at h;cases h;exact h1
 ·rw[if_neg h1] at h;exact zjz h
theorem zkY {m:Ext} {U:Unf Sta} (h:zcJ m=.ok U):U.sts.length≤4096:=by
 unfold zcJ at h
 by_cases h1:chk m≠0
 ·rw[if_pos h1] at h;cases h
 ·rw[if_neg h1] at h;exact zjy h (by simp[unf0])
theorem zfz {α:Type} [DecidableEq α]:∀{l m:List α},l.Nodup→(∀x∈l,x∈m)→l.length≤m.length
 |[],_,_,_=>Nat.zero_le _
 |x::r,m,hn,hs=>by
  obtain⟨h1,h2⟩:=List.nodup_cons.1 hn;have hx:=hs x (by simp);have h3:=zfz (m:=m.erase x) h2 fun y hy=>(List.mem_erase_of_ne (fun e=>h1 (by rw[←e];exact hy))).2 (hs y (by simp[hy]));rw[List.length_erase_of_mem hx] at h3;have:=List.length_pos_of_mem hx;rw[List.length_cons];omega
theorem zi0 {l:List ByteArray} {s:ByteArray}:hasB l s=true↔s∈l:=by
 unfold hasB;rw[List.any_eq_true];constructor
 ·rintro ⟨x,hx,he⟩;rw[zfS] at he;subst he;exact hx
 ·exact fun h=>⟨s,h,zfS.2 rfl⟩
theorem zlv {l:List ByteArray} {s:ByteArray} (h:¬hasB l s=true):s ∉ l:=fun h2=>h (zi0.2 h2)
theorem zgW {s:ByteArray} (h:zaW s=true):s.size≤32:=by
 unfold zaW at h;simp only[Bool.and_eq_true,decide_eq_true_eq] at h;exact h.2
theorem zv3 {b:List ByteArray} {s:ByteArray} (h:nmE b s=0):zaW s=true∧s ∉ b:=by
 unfold nmE at h
 by_cases h1:zaW s=false
 ·rw[if_pos h1] at h;cases h
 rw[if_neg h1] at h
 by_cases h2:hasB b s=true
 ·rw[if_pos h2] at h;cases h
 exact⟨by simpa using h1,zlv h2⟩
theorem znY {α:Type} {nm:α→ByteArray} {err:α→Int}:∀{l:List α} {b:List ByteArray} {i:Nat},za6 nm err b l i=none→(∀x∈l,zaW (nm x)=true∧nm x ∉ b)∧(l.map nm).Nodup
 |[],_,_,_=>⟨by simp,by simp⟩
 |y::r,b,i,h=>by
  simp only[za6] at h
  by_cases h1:nmE b (nm y)≠0
  ·rw[if_pos h1] at h;cases h
  rw[if_neg h1] at h
  by_cases h2:err y≠0
  ·rw[if_pos h2] at h;cases h
  rw[if_neg h2] at h;obtain⟨h3,h4⟩:=znY h;have h1:=zv3 (Classical.byContradiction h1);refine⟨fun x hx=>?_,?_⟩
  ·rcases List.mem_cons.1 hx with rfl|hx
   ·exact h1
   ·exact⟨(h3 x hx).1,fun hb=>(h3 x hx).2 (by simp[hb])⟩
  ·rw[List.map_cons,List.nodup_cons];refine⟨fun hm=>?_,h4⟩;obtain⟨x,hx,e⟩:=List.mem_map.1 hm;exact (h3 x hx).2 (by rw[e];simp)
theorem zse {m:Mdl}:∀{l:List NLc} {b:List ByteArray},lcsE m b l=0→(∀y∈l,y.1 ∉ b∧∃c t,m.comps.find? (fun c=>sB c.name y.1)=some c∧zb4 m c=some t∧y.2∈t.locs)∧(l.map (·.1)).Nodup
 |[],_,_=>⟨by simp,by simp⟩
 |y::r,b,h=>by
  simp only[lcsE] at h
  cases h1:m.comps.find? (fun c=>sB c.name y.1) with
  |none=>rw[h1] at h;cases h
  |some c=>
   rw[h1] at h;simp only at h
   by_cases h2:hasB b y.1=true
   ·rw[if_pos h2] at h;cases h
   rw[if_neg h2] at h
   cases h3:zb4 m c with
   |none=>rw[h3] at h;cases h
   |some t=>
    rw[h3] at h;simp only at h
    by_cases h5:hasB t.locs y.2=false
    ·rw[if_pos h5] at h;cases h
    rw[if_neg h5] at h;obtain⟨h6,h7⟩:=zse h;refine⟨fun x hx=>?_,?_⟩
    ·rcases List.mem_cons.1 hx with rfl|hx
     ·exact⟨zlv h2,c,t,h1,h3,zi0.1 (by simpa using h5)⟩
     ·exact⟨fun hb=>(h6 x hx).1 (by simp[hb]),(h6 x hx).2⟩
    ·rw[List.map_cons,List.nodup_cons];refine⟨fun hm=>?_,h7⟩;obtain⟨x,hx,e⟩:=List.mem_map.1 hm;exact (h6 x hx).1 (by rw[e];simp)
theorem zre {m:Mdl}:∀{l:List NTm} {b:List ByteArray},tmsE m b l=0→(∀y∈l,y.1 ∉ b∧y.1∈m.comps.map (·.name))∧(l.map (·.1)).Nodup
 |[],_,_=>⟨by simp,by simp⟩
 |y::r,b,h=>by
  simp only[tmsE] at h
  by_cases h1:hasB (m.comps.map (·.name)) y.1=false
  ·rw[if_pos h1] at h;cases h
  rw[if_neg h1] at h
  by_cases h2:hasB b y.1=true
  ·rw[if_pos h2] at h;cases h
  rw[if_neg h2] at h
  by_cases h3:y.2=0∨bigB y.2=true
  ·rw[if_pos h3] at h;cases h
  rw[if_neg h3] at h;obtain⟨h6,h7⟩:=zre h;refine⟨fun x hx=>?_,?_⟩
  ·rcases List.mem_cons.1 hx with rfl|hx
   ·exact⟨zlv h2,zi0.1 (by simpa using h1)⟩
   ·exact⟨fun hb=>(h6 x hx).1 (by simp[hb]),(h6 x hx).2⟩
  ·rw[List.map_cons,List.nodup_cons];refine⟨fun hm=>?_,h7⟩;obtain⟨x,hx,e⟩:=List.mem_map.1 hm;exact (h6 x hx).1 (by rw[e];simp)
theorem zij {m:Mdl} (h:(chkC m).2=0):m.excs.length≤32∧za6 NEx.name (excE m) [] m.excs 0=none∧m.cons.length≤32∧za6 NCn.name (conE m) [] m.cons 0=none:=by
 unfold chkC at h
 by_cases h2:m.excs.length>32
 ·rw[if_pos h2] at h;simp at h
 rw[if_neg h2] at h;obtain⟨h4,h5⟩:=zfT (fun _ _ h=>zbV h) h;rw[h5] at h
 by_cases h3:m.cons.length>32
 ·rw[if_pos h3] at h;simp at h
 rw[if_neg h3] at h;exact⟨by omega,h4,by omega,(zfT (fun _ _ h=>zbV h) h).1⟩
theorem zji {m:Mdl} (h:(chkI m).2=0):m.comps.length≤8∧0<m.comps.length∧m.comps.length+m.reqs.length≤12:=by
 unfold chkI at h
 by_cases h2:m.comps.length=0
 ·rw[if_pos h2] at h;simp at h
 rw[if_neg h2] at h
 by_cases h3:m.comps.length>8
 ·rw[if_pos h3] at h;simp at h
 rw[if_neg h3] at h
 by_cases h4:m.comps.length+m.reqs.length>12
 ·rw[if_pos h4] at h;simp at h
 omega
theorem zsL {m:Mdl} {s:ByteArray} {c:Ins} (h:m.comps.find? (fun c=>sB c.name s)=some c):s∈m.comps.map (·.name):=by
 have h1:=List.find?_some h;rw[zfS] at h1;rw[←h1];exact List.mem_map.2 ⟨c,List.mem_of_find?_eq_some h,rfl⟩
theorem zxG {m:Mdl} (hm:mdlOk m) (h:(mdlE m).2=0) {og:List (List Sta)} (hog:og.length=m.comps.length) (hs:∀s∈og,s.length≤100000):m.excs.length≤32∧∀x∈m.excs,x.locals.length≤12∧(∀y∈x.locals,lcOk m og y)∧x.name.size≤1000:=by
 obtain⟨_,_,_,h4,h5,_⟩:=zd9 h;obtain⟨c1,c2,_⟩:=zij h5;obtain⟨d1,_⟩:=zji h4;refine⟨c1,fun x hx=>?_⟩;have hn:=zgW ((znY c2).1 x hx).1;have he:=zej c2 x hx;unfold excE at he
 by_cases h6:x.locals.length=0
 ·rw[if_pos h6] at he;cases he
 rw[if_neg h6] at he;obtain⟨e1,e2⟩:=zse he;refine⟨?_,fun y hy=>?_,by omega⟩
 ·have:=zfz (m:=m.comps.map (·.name)) e2 fun s hs=>by
   obtain⟨y,hy,rfl⟩:=List.mem_map.1 hs;obtain⟨_,c,t,h7,_⟩:=e1 y hy;exact zsL h7
  rw[List.length_map,List.length_map] at this;omega
 ·obtain⟨_,c,t,h7,h8,_⟩:=e1 y hy;rcases zdD Ins.name m.comps y.1 with ⟨f1,_⟩|⟨k,c',f1,f2,f3⟩
  ·rw[f1] at h7;cases h7
  rw[f2] at h7
  cases h7
  have h8':=h8;unfold zb4 at h8';rcases zdD Tpl.name m.tpls c.tpl with ⟨g1,_⟩|⟨k2,t',g1,g2,g3⟩
  ·rw[g1] at h8';cases h8'
  rw[g2] at h8'
  cases h8'
  have hk:k<og.length:=by rw[hog];exact (List.getElem?_eq_some_iff.1 f1).1
  exact⟨k,k2,c,t,og[k],f3,f1,g3,g1,h8,(hm.tpk t (List.mem_of_getElem? g1)).ll,List.getElem?_eq_getElem hk,hs _ (List.getElem_mem hk)⟩
theorem zxN {m:Mdl} (h:(mdlE m).2=0):m.cons.length≤32∧∀x∈m.cons,x.terms.length≤12:=by
 obtain⟨_,_,_,h4,h5,_⟩:=zd9 h;obtain⟨_,_,c3,c4⟩:=zij h5;obtain⟨d1,_⟩:=zji h4;refine⟨c3,fun x hx=>?_⟩;have he:=zej c4 x hx;unfold conE at he
 by_cases h6:x.terms.length=0
 ·omega
 rw[if_neg h6] at he
 by_cases h7:tmsE m [] x.terms≠0
 ·rw[if_pos h7] at he;exact absurd he h7
 obtain⟨e1,e2⟩:=zre (Classical.byContradiction h7);have:=zfz (m:=m.comps.map (·.name)) e2 fun s hs=>by
  obtain⟨y,hy,rfl⟩:=List.mem_map.1 hs;exact (e1 y hy).2
 rw[List.length_map,List.length_map] at this;omega
theorem zro {x:Mv} {l:List Mv}:x∈zdK l↔x∈l:=by
 have hi:∀(y:Mv) (l:List Mv),x∈zen y l↔x=y∨x∈l:=by
  intro y l
  induction l with
  |nil=>simp[zen]
  |cons z r ih=>
   unfold zen
   split
   ·simp
   ·simp only[List.mem_cons,ih];constructor
    ·rintro (h|h|h)
     ·exact .inr (.inl h)
     ·exact .inl h
     ·exact .inr (.inr h)
    ·rintro (h|h|h)
     ·exact .inr (.inl h)
     ·exact .inl h
     ·exact .inr (.inr h)
 have:∀(r acc:List Mv),x∈r.foldl (fun acc x=>zen x acc) acc↔x∈acc∨x∈r:=by
  intro r
  induction r with
  |nil=>simp
  |cons y r ih=>
   intro acc;rw[List.foldl_cons,ih,hi,List.mem_cons];constructor
   ·rintro ((h|h)|h)
    ·exact .inr (.inl h)
    ·exact .inl h
    ·exact .inr (.inr h)
   ·rintro (h|h|h)
    ·exact .inl (.inr h)
    ·exact .inl (.inl h)
    ·exact .inr h
 unfold zdK;rw[this];simp
theorem zr8 {m:Mdl} (hm:mdlOk m) {x:Ins} {t:Tpl} (hx:x.evs.length≤1000000) (h:mchOk m x t):extOk (mchE m x t):=by
 have ho:=(hm.tpk t h.mem).mo;refine⟨?_,ho.ma,ho.va,ho.na,?_,?_⟩
 ·show (srtZ _).length≤zar;rw[(zgA _).length_eq,List.length_map];simp only[zar];omega
 ·show (zdK _).length≤zar;rw[ze2,List.length_map];exact ho.mo
 ·intro y hy;have hy:y∈zdK _:=hy;rw[zro] at hy;obtain⟨z,hz,rfl⟩:=List.mem_map.1 hy;exact ho.mv z hz
end Go.AI
namespace Go.AI
open Go.Proofs
set_option maxRecDepth 20000
abbrev olTm (l:List Loc2):Ob:=.arr 160 2 l.length (l.map zcc) true
def zs8 (x y:Loc2):Int:=cmpI x.1 y.1
abbrev ltTm (x y:Loc2):Prop:=x.1<y.1
theorem zvH {x y:Loc2}:zs8 x y<0↔ltTm x y:=by
 unfold zs8 cmpI ltTm
 by_cases h1:x.1<y.1
 ·rw[if_pos h1];exact⟨fun _=>h1,fun _=>by decide⟩
 rw[if_neg h1]
 by_cases h2:x.1>y.1
 ·rw[if_pos h2];exact⟨fun h=>absurd h (by decide),fun h=>absurd h h1⟩
 ·rw[if_neg h2];exact⟨fun h=>absurd h (by decide),fun h=>absurd h h1⟩
abbrev zf5 (l:List Loc2):List Loc2:=l.foldl (fun acc x=>zfE x acc) []
abbrev zyb (l:List Loc2):Prop:=l.Pairwise fun x y=>¬ltTm y x
theorem zeM {x:Loc2}:∀{P S:List Loc2},(∀p∈P,¬ltTm x p)→(∀s∈S,ltTm x s)→zfE x (P++S)=P++x::S
 |[],[],_,_=>rfl
 |[],s::r,_,h=>by
  have:=h s (by simp);simp only[List.nil_append,zfE];rw[if_pos this]
 |p::P,S,h,h2=>by
  have:=h p (by simp);simp only[List.cons_append,zfE];rw[if_neg this,zeM (fun q hq=>h q (by simp[hq])) h2]
theorem zjH {x:Loc2} {P S:List Loc2} (h:zyb (P++S)) (hp:∀p∈P,¬ltTm x p) (hs:∀s∈S,ltTm x s):zyb (P++x::S):=by
 obtain⟨h1,h2,h3⟩:=List.pairwise_append.1 h;refine List.pairwise_append.2 ⟨h1,List.pairwise_cons.2 ⟨fun s hs'=>?_,h2⟩,fun a ha b hb=>?_⟩
 ·have:=hs s hs';unfold ltTm at *;omega
 ·rcases List.mem_cons.1 hb with rfl|hb
  ·exact hp a ha
  ·exact h3 a ha b hb
theorem zvY:∀(P:List Loc2) (p x:Loc2) (T:List Loc2),(((P++p::x::T).map zcc).set (P.length+1) (zcc p)).set P.length (zcc x)=(P++x::p::T).map zcc
 |[],p,x,T=>rfl
 |q::P,p,x,T=>by
  have:=zvY P p x T;simp only[List.cons_append,List.map_cons,List.length_cons,List.set_cons_succ,this]
theorem zyl (P:List Loc2):P=[]∨∃Q p,P=Q++[p]:=by
 by_cases h:P=[]
 ·exact .inl h
 ·exact .inr ⟨P.dropLast,P.getLast h,(List.dropLast_concat_getLast h).symm⟩
theorem zps (A:List Loc2) (x:Loc2):zf5 (A++[x])=zfE x (zf5 A):=by simp[zf5,List.foldl_append]
theorem zyI (O:List Heap) (x y:Loc2):zao Tryz.prog 58 [.agg [ii x.1,ii x.2],.agg [ii y.1,ii y.2]] O (ii (zs8 x y)) [] O:=by
 have h1:=fun O=>zn2 O x.1 y.1;unfold zs8;generalize cmpI x.1 y.1=a at *;refine zaa Tk Tryz.func58 rfl Tryz.call58 Tryz.ntmps58 (Nat.le_of_ble_eq_true rfl) fun E=>?_;refine zai Tk Tryz.func58 ?_;refine zaj Tk Tryz.func58 (h1 _) rfl rfl rfl rfl rfl ?_;refine zag Tk (r:=ii a) rfl rfl rfl trivial rfl rfl ?_;rfl
abbrev fn58:D:=.fn (.func 58) [] []
theorem zyU {A:List Loc2} {x:Loc2} {T:List Loc2} {k:Nat} (hk:k=A.length):((A++x::T).map zcc)[((k:Nat):Int).toNat]? = some (zcc x):=by
 subst hk;simp
set_option maxHeartbeats 8000000 in
theorem zyR (O:List Heap) (d nm:Nat) (l:List Loc2) (hl:l.length≤1000) (ho:zab O d nm=some (olTm l)):zao Tryz.prog 182 [.osl d nm,ii 0,ii l.length,fn58] O (.tup []) [] (setAt O d nm (olTm (zf5 l))):=by
 have hc:=fun O x y=>zyI O x y
 cases l with
 |nil=>
  refine zaa Tk Tryz.func182 rfl Tryz.call182 Tryz.ntmps182 (Nat.le_of_ble_eq_true rfl) fun E=>?_;refine zai Tk Tryz.func182 ?_;refine zah ?_;refine zai Tk Tryz.func182 ?_;refine gcF Tk Tryz.func182 rfl ?_;refine za4 (wk_S (S':=_::setAt O d nm (olTm [])) (zaG (zbl ho))) ?_;refine zag Tk (r:=.tup []) rfl rfl rfl trivial rfl rfl ?_;rfl
 |cons z r=>
 generalize hL:z::r=l at *;have hpos:1≤l.length:=by rw[←hL];simp
 refine zaa Tk Tryz.func182 rfl Tryz.call182 Tryz.ntmps182 (Nat.le_of_ble_eq_true rfl) fun E=>?_;refine zai Tk Tryz.func182 ?_;refine g_wk (wk_S (S':=_::setAt O d nm (olTm ([z]++r))) (zaG (zbl (by rw[ho,←hL];rfl)))) ?_;refine zah ?_;refine zak (fun x:List Loc2×List Loc2=>[(0,.osl (d+1) nm),(1,ii 0),(2,ii l.length),(3,fn58),(8,ii x.1.length)]) (fun _=>[]) (fun x=>setAt O d nm (olTm (x.1++x.2))) 53
  (fun x=>zyb x.1∧(∃T,T++x.2=l∧zf5 T=x.1)∧x.1.length+x.2.length=l.length) (fun x=>x.2.length) ([z],r) ⟨List.pairwise_singleton _ _,⟨[z],hL,rfl⟩,by rw[←hL];simp;omega⟩ ⟨rfl,rfl,rfl,rfl,rfl,trivial⟩ rfl trivial rfl rfl ?_
 rintro ⟨A,R⟩ ⟨hA,hp,hlen⟩ ih;simp only at hA hp hlen;refine zai Tk Tryz.func182 ?_;refine zae Tk Tryz.func182 rfl (fun g1=>?_) (fun g1=>?_)
 ·have g1:A.length<l.length:=by simpa using g1
  obtain⟨x,R',rfl⟩:∃x R',R=x::R':=by
   cases R with
   |nil=>simp at hlen;omega
   |cons x R'=>exact⟨x,R',rfl⟩
  obtain⟨T,hT,hTA⟩:=hp;have hTn:(T++[x])++R'=l:=by rw[←hT];simp
  have hTs:zf5 (T++[x])=zfE x A:=by rw[zps,hTA]
  rw[List.length_cons] at hlen;refine zah ?_;refine zak (fun y:List Loc2×List Loc2=>[(0,.osl (d+1) nm),(1,ii 0),(2,ii l.length),(3,fn58),(8,ii A.length),(9,ii y.1.length)]) (fun _=>[]) (fun y=>setAt O d nm (olTm (y.1++x::(y.2++R')))) 53
   (fun y=>(∀s∈y.2,ltTm x s)∧y.1++y.2=A) (fun y=>y.1.length) (A,[]) ⟨by simp,by simp⟩ ⟨rfl,rfl,rfl,rfl,rfl,rfl,trivial⟩ rfl trivial rfl rfl ?_
  rintro ⟨P,S⟩ ⟨hS,hA2⟩ ih2;simp only at hS hA2;rcases zyl P with rfl|⟨Q,p,rfl⟩
  ·rw[List.nil_append] at hA2;subst hA2;have hi1:ii (IntKind.i64.wrap ((S.length:Int)+1))=ii ((x::S:List Loc2).length:Int):=congrArg ii (zaC (n:=1000001) (by omega) (by decide));refine zai Tk Tryz.func182 ?_;refine zav Tk Tryz.func182 zaz rfl ?_;refine zbS Tk (fun h=>absurd h (by simp)) (fun _=>?_);refine zaB Tk Tryz.func182 (by kernel_rfl) ?_;refine zae Tk Tryz.func182 rfl (fun h=>absurd h (by simp)) (fun _=>?_);refine zah ?_;have e1:zfE x S=x::S:=zeM (P:=[]) (by simp) hS;refine ih (x::S,R') _ _ ⟨zjH (P:=[]) hA (by simp) hS,⟨T++[x],hTn,hTs.trans e1⟩,by simp only[List.length_cons];omega⟩ (by simp) ⟨rfl,rfl,rfl,rfl,hi1,trivial⟩ rfl trivial rfl rfl
  ·have e1:(Q++[p])++x::(S++R')=Q++p::x::(S++R'):=by simp
   have e2:((Q++[p]).length:Int)=((Q.length+1:Nat):Int):=by simp
   have hQA:Q.length+1+S.length=A.length:=by rw[←hA2];simp;omega
   have w1:IntKind.i64.wrap (((Q.length+1:Nat):Int)-1)=(Q.length:Int):=by rw[w64 (by omega) (by omega)];omega
   have gx:((Q++p::x::(S++R')).map zcc)[(((Q.length+1:Nat):Int)).toNat]? = some (zcc x):=by
    have:=zyU (A:=Q++[p]) (x:=x) (T:=S++R') (k:=Q.length+1) (by simp);rwa [e1] at this
   have gp:((Q++p::x::(S++R')).map zcc)[(IntKind.i64.wrap (((Q.length+1:Nat):Int)-1)).toNat]? = some (zcc p):=by rw[w1];exact zyU rfl
   have hlt:=zvH (x:=x) (y:=p);have hcc:=fun O=>hc O x p;rw[e2,e1];have hll:(Q++p::x::(S++R')).length=l.length:=by simp;omega
   generalize zs8 x p=cw at *;refine zai Tk Tryz.func182 ?_;refine zav Tk Tryz.func182 zaz rfl ?_;refine zbS Tk (fun _=>?_) (fun h=>absurd h (by simp));refine zcf Tk (zay (H:=([]:Heap)) (zaf ho)) ?_;refine zas Tk (by exact⟨by omega,by show ((Q.length+1:Nat):Int)<((Q++p::x::(S++R')).length:Int);rw[hll];omega⟩) ?_;refine zcf Tk (zay (H:=([]:Heap)) (zaf ho)) ?_;refine zaE Tk (gx) ?_;refine zcf Tk (zay (H:=([]:Heap)) (zaf ho)) ?_;refine zas Tk (by exact⟨by show (0:Int)≤IntKind.i64.wrap (((Q.length+1:Nat):Int)-1);rw[w1];omega,by show IntKind.i64.wrap (((Q.length+1:Nat):Int)-1)<((Q++p::x::(S++R')).length:Int);rw[w1,hll];omega⟩) ?_;refine zcf Tk (zay (H:=([]:Heap)) (zaf ho)) ?_;refine zaE Tk (gp) ?_;refine zaJ Tk (fun _=>hcc _) rfl rfl rfl ?_;refine zaB Tk Tryz.func182 (by kernel_rfl) ?_;refine zae Tk Tryz.func182 rfl (fun c1=>?_) (fun c1=>?_)
   ·have c1:cw<0:=of_decide_eq_true c1;have hrk:=hlt.1 c1;have e3:Ob.arr 160 2 (Q++p::x::(S++R')).length ((((Q++p::x::(S++R')).map zcc).set (((Q.length+1:Nat):Int)).toNat (zcc p)).set (IntKind.i64.wrap (((Q.length+1:Nat):Int)-1)).toNat (zcc x)) true=olTm (Q++x::(p::S++R')):=by
     rw[w1];show Ob.arr 160 2 _ ((((Q++p::x::(S++R')).map zcc).set (Q.length+1) (zcc p)).set Q.length (zcc x)) true=_;rw[zvY];simp[olTm]
    refine zi2 Tk 15 rfl ?_;refine zcf Tk (zay (H:=([]:Heap)) (zaf ho)) ?_;refine zas Tk (by exact⟨by show (0:Int)≤IntKind.i64.wrap (((Q.length+1:Nat):Int)-1);rw[w1];omega,by show IntKind.i64.wrap (((Q.length+1:Nat):Int)-1)<((Q++p::x::(S++R')).length:Int);rw[w1,hll];omega⟩) ?_;refine zcf Tk (zay (H:=([]:Heap)) (zaf ho)) ?_;refine zaE Tk (gp) ?_;refine zcf Tk (zay (H:=([]:Heap)) (zaf ho)) ?_;refine zas Tk (by exact⟨by omega,by show ((Q.length+1:Nat):Int)<((Q++p::x::(S++R')).length:Int);rw[hll];omega⟩) ?_;refine zcf Tk (zay (H:=([]:Heap)) (zaf ho)) ?_;refine zaE Tk (gx) ?_;refine zcf Tk (zay (H:=([]:Heap)) (zaf ho)) ?_;refine zas Tk (by exact⟨by omega,by show ((Q.length+1:Nat):Int)<((Q++p::x::(S++R')).length:Int);rw[hll];omega⟩) ?_
    refine zxL Tk Tryz.func182 zaz (N:=15) [16,17] [2,3,4] (by kernel_rfl) rfl rfl rfl rfl rfl rfl rfl rfl rfl rfl (zaf ho) (by kernel_rfl) (by kernel_rfl) ?_ (by kernel_rfl) ?_
    ·intro i hi;simp only[List.mem_cons,List.not_mem_nil,or_false] at hi;rcases hi with rfl|rfl|rfl
     ·exact⟨_,_,_,rfl,rfl,rfl,rfl,rfl,rfl,rfl⟩
     ·exact⟨_,_,_,rfl,rfl,rfl,rfl,rfl,rfl,rfl⟩
     ·exact⟨_,_,_,rfl,rfl,rfl,rfl,rfl,rfl,rfl⟩
    refine zbE Tk Tryz.func182 (zay (H:=([]:Heap)) (zaf (zaf ho))) ?_;refine zad Tk Tryz.func182 (by exact⟨by show (0:Int)≤IntKind.i64.wrap (((Q.length+1:Nat):Int)-1);rw[w1];omega,by show IntKind.i64.wrap (((Q.length+1:Nat):Int)-1)<((Q++p::x::(S++R')).length:Int);rw[w1,hll];omega⟩) ?_;refine zbE Tk Tryz.func182 (zay (H:=([]:Heap)) (zaf (zaf ho))) ?_;refine g_wk (wk_S (S':=_::setAt O d nm (olTm (Q++x::(p::S++R')))) (zaG fun d' n'=>by rw[←e3];exact (zbM d' n').trans (zbM d' n'))) ?_;refine zah ?_;refine ih2 (Q,p::S) _ _ ⟨fun s hs=>?_,by simpa using hA2⟩ (by simp) ⟨rfl,rfl,rfl,rfl,rfl,congrArg ii w1,trivial⟩ rfl trivial rfl rfl;rcases List.mem_cons.1 hs with rfl|hs
    ·exact hrk
    ·exact hS s hs
   ·have c1:¬cw<0:=of_decide_eq_false c1;have hrk:¬ltTm x p:=fun h=>c1 (hlt.2 h);have hall:∀q∈Q++[p],¬ltTm x q:=by
     rw[←hA2] at hA;have h1:=(List.pairwise_append.1 hA).1;intro q hq;rcases List.mem_append.1 hq with hq|hq
     ·have:=(List.pairwise_append.1 h1).2.2 q hq p (by simp);unfold ltTm at *;omega
     ·rw[List.mem_singleton] at hq;subst hq;exact hrk
    have e4:zfE x A=(Q++[p])++x::S:=by rw[←hA2];exact zeM hall hS
    have hi1:ii (IntKind.i64.wrap ((A.length:Int)+1))=ii (((Q++[p])++x::S:List Loc2).length:Int):=by
     rw[zaC (n:=1000001) (by omega) (by decide),←hA2];simp;omega
    refine zah ?_;refine ih ((Q++[p])++x::S,R') _ _ ⟨zjH (by rw[hA2];exact hA) hall hS,⟨T++[x],hTn,hTs.trans e4⟩,by simp;omega⟩ (by simp) ⟨rfl,rfl,rfl,rfl,hi1,trivial⟩ (congrArg (fun L=>_::setAt O d nm (olTm L)) (by simp:Q++p::x::(S++R')=((Q++[p])++x::S)++R')) trivial rfl rfl
 ·have g1:l.length≤A.length:=by simpa using g1
  obtain rfl:R=[]:=List.eq_nil_of_length_eq_zero (by omega);obtain⟨T,hT,hTA⟩:=hp;rw[List.append_nil] at hT ⊢;subst hT;rw[←hTA];refine zag Tk (r:=.tup []) rfl rfl rfl trivial rfl rfl ?_;rfl
theorem zkf (x:Loc2):∀l,(zfE x l).length=l.length+1
 |[]=>rfl
 |y::r=>by
  unfold zfE
  split
  ·simp
  ·simp[zkf x r]
theorem zgB (l:List Loc2):(zf5 l).length=l.length:=by
 have:∀(r acc:List Loc2),(r.foldl (fun acc x=>zfE x acc) acc).length=acc.length+r.length:=by
  intro r
  induction r with
  |nil=>simp
  |cons x r ih=>intro acc;rw[List.foldl_cons,ih,zkf,List.length_cons];omega
 have:=this l [];simpa [zf5] using this
theorem zyy (O:List Heap) (d nm:Nat) (l:List Loc2) (q:Int) (hl:l.length≤12) (ho:zab O d nm=some (olTm l)):zao Tryz.prog 140 [.osl d nm,ii 0,ii l.length,ii q,fn58] O (.tup []) [] (setAt O d nm (olTm (zf5 l))):=by
 have h:=fun O d ho=>zyR O d nm l (by omega) ho;have hsl:=zgB l;have w:IntKind.i64.wrap ((l.length:Int)-0)=(l.length:Int):=by rw[w64 (by omega) (by omega)];omega
 refine zaa Tk Tryz.func140 rfl Tryz.call140 Tryz.ntmps140 (Nat.le_of_ble_eq_true rfl) fun E=>?_;refine zai Tk Tryz.func140 ?_;refine zah ?_;refine zai Tk Tryz.func140 ?_;refine zae Tk Tryz.func140 rfl (fun _=>?_) (fun h=>absurd h (by rw[w];simp;omega));refine zaj Tk Tryz.func140 (h _ (d+1) (zay (H:=([]:Heap)) ho)) rfl rfl rfl (zaU (zay (H:=([]:Heap)) ho) (by simp[Ob.sh,hsl])) rfl ?_;refine zag Tk (r:=.tup []) rfl rfl rfl trivial rfl rfl ?_;rfl
theorem zyj (O:List Heap) (d nm:Nat) (l:List Loc2) (hl:l.length≤12) (ho:zab O d nm=some (olTm l)):zao Tryz.prog 57 [.osl d nm,fn58] O (.tup []) [] (setAt O d nm (olTm (zf5 l))):=by
 obtain⟨q,hb⟩:=zil l.length (by omega);have h:=fun O d q ho=>zyy O d nm l q hl ho;have hsl:=zgB l;refine zaa Tk Tryz.func57 rfl Tryz.call57 Tryz.ntmps57 (Nat.le_of_ble_eq_true rfl) fun E=>?_;refine zai Tk Tryz.func57 ?_;refine zbE Tk Tryz.func57 (zay ho) ?_;refine zaj Tk Tryz.func57 (hb _) rfl rfl rfl rfl rfl ?_;refine zaj Tk Tryz.func57 (h _ (d+1) _ (zay (H:=([]:Heap)) ho)) rfl rfl rfl (zaU (zay (H:=([]:Heap)) ho) (by simp[Ob.sh,hsl])) rfl ?_;refine zag Tk (r:=.tup []) rfl rfl rfl trivial rfl rfl ?_;rfl
theorem zxS (O:List Heap) (l:List Evt) (hl:l.length≤1000000):zao Tryz.prog 54 [.i (zbb l)] O (.i (zbb l)) [] O:=by
 refine zaa Tk Tryz.func54 rfl Tryz.call54 Tryz.ntmps54 (Nat.le_of_ble_eq_true rfl) fun E=>?_;refine zai Tk Tryz.func54 ?_;refine znP Tk Tryz.func54 rfl rfl fun b hb=>?_;refine zae Tk Tryz.func54 rfl (fun h1=>?_) (fun h1=>?_)
 ·have hl0:l=[]:=List.eq_nil_of_length_eq_zero (hb h1);subst hl0;refine zaD Tk (r:=.i (.v (.slice none 0 0))) rfl rfl rfl trivial rfl rfl ?_;exact zcv zbd
 ·refine zad Tk Tryz.func54 (by exact⟨by show (0+l.length)*32≤140737488355328;omega,by show 0+l.length≤9223372036854775807;omega⟩) ?_;refine za4 (zbo (l:=[(2,.osl 0 7)]) (Hv:=[(7,.arr 101 5 (0+l.length) ([]++l.map evtI) true)]) ⟨rfl,trivial⟩ rfl ⟨rfl,trivial⟩ rfl rfl) ?_;rw[Nat.zero_add,List.nil_append];refine za4 (zam 7 rfl rfl) ?_;refine zag Tk (r:=.i (zbb l)) rfl rfl rfl trivial rfl rfl ?_;rfl
abbrev zuY (l:List Itm):Ob:=.arr 76 5 l.length (l.map itmI) true
abbrev zhG (l:List Itm):I:=.sl 5 l.length (l.map itmI)
abbrev zyz (l:List (List Sta)):Ob:=.arr 62 1 l.length (l.map fun s=>[I.sl 2 s.length (s.map staI)]) true
abbrev zxa (l:List XCn):Ob:=.arr 158 3 l.length (l.map xcnI) true
abbrev zin:List D:=[.i (.v (.slice none 0 0)),.i (.v (.slice none 0 0)),.i (.v (.slice none 0 0)),.i (.v (.slice none 0 0)),.i (.v (.slice none 0 0))]
abbrev zx5 (r:Cel×Plc×Int):D:=.tup [celD r.1,.agg [ii r.2.1.1,ii r.2.1.2],ii r.2.2]
theorem zvF {a b c:Int}:CoD (.tup [.agg zin,.agg [ii a,ii b],ii c]) (zx5 (zCel,(a,b),c)):=by
 repeat' (first|refine zbR ?_|refine zbu ?_|refine zcv ?_|refine CoDL.cons ?_ ?_|exact CoDL.nil|exact zbd|refine zcB ?_|refine CoLL.cons ?_ ?_|exact CoLL.nil|refine CoL.cons ?_ ?_|exact CoL.nil|exact CoI.refl _|exact CoL.refl _|exact CoLL.refl _|exact CoDL.refl _|exact CoD.refl _)
def exAp (A:List Itm) (G:List (List Sta)):Except (Nat×Int) (List Itm×List (List Sta))→Except (Nat×Int) (List Itm×List (List Sta))
 |.error e=>.error e
 |.ok (a,o)=>.ok (A++a,G++o)
theorem znW (R:Except (Nat×Int) (List Itm×List (List Sta))):exAp [] [] R=R:=by
 cases R with
 |error e=>rfl
 |ok p=>rfl
theorem znX (A:List Itm) (G:List (List Sta)) (x:Itm) (s:List Sta) (R:Except (Nat×Int) (List Itm×List (List Sta))):exAp A G (match R with
  |.error e=>.error e
  |.ok (a,o)=>.ok (x::a,s::o))=exAp (A++[x]) (G++[s]) R:=by
 cases R with
 |error e=>rfl
 |ok p=>simp[exAp]
def celK (m:Mdl) (A B:List Itm) (og:List (List Sta)):Cel×Plc×Int:=match zf7 m og m.excs 0 [] [] with
 |.error (i,e)=>(zCel,(5,(i:Int)),e)
 |.ok out=>(⟨m.evs,A,B,out,m.cons.map (zje m)⟩,(0,0),0)
theorem zkx {m:Mdl} {og:List (List Sta)}:∀{l:List NEx} {i:Nat} {seen:List ByteArray} {out:List XEx} {j:Nat} {e:Int},zf7 m og l i seen out=.error (j,e)→e≠0
 |[],_,_,_,_,_,h=>by cases h
 |x::r,i,seen,out,j,e,h=>by
  simp only[zf7] at h
  by_cases h1:(expX m og x (32-(out.length:Int))).2≠0
  ·rw[if_pos h1] at h;cases h;exact h1
  rw[if_neg h1] at h
  by_cases h2:(expX m og x (32-(out.length:Int))).1.any (fun y=>decide (y.name.size>32))=true
  ·rw[if_pos h2] at h;cases h;decide
  rw[if_neg h2] at h
  cases h3:dupX seen (expX m og x (32-(out.length:Int))).1 with
  |error u=>rw[h3] at h;cases h;decide
  |ok s=>rw[h3] at h;exact zkx h
theorem zvP (m:Mdl) (A B:List Itm) (og:List (List Sta)):celK m A B og=if (excX m og).2.2≠0 then (zCel,(excX m og).2) else (⟨m.evs,A,B,(excX m og).1,m.cons.map (zje m)⟩,(0,0),0):=by
 unfold celK excX
 cases h:zf7 m og m.excs 0 [] [] with
 |error p=>
  obtain⟨j,e⟩:=p;have he:=zkx h;simp only;rw[if_pos he]
 |ok out=>rfl
set_option maxHeartbeats 8000000 in
theorem zws {g:Nat} (hg:zda g) {ty:TypeId} {fr:Nat×Nat} (O:List Heap) (m:Mdl) (hm:mdlOk m) (hmv:∀t∈m.tpls,t.mach.moves.length≤19) :
  za3 g (ptab ty fr) Tryz.prog 16 [mdlD m] O (zx5 (celR m)) [] O:=by
 have h14:=fun O=>znc O m hm;have hMU:(mdlE m).2=0→∀x,x∈m.comps∨x∈m.reqs→(∀O,zao Tryz.prog 55 [mdlD m,insD x] O (extD (mchR m x)) [] O)∧∀O,za3 g (ptab ty fr) Tryz.prog 32 [extD (mchR m x)] O (unfD (mchR m x).alpha (zcJ (mchR m x))) [] O:=fun hv x hx=>by
  obtain⟨t,ht,he,_⟩:=zgt hmv hv hx;have hxl:=zls hm hx;rw[he];exact⟨fun O=>zj5 O m x t hm hxl ht,fun O=>zvT hg O _ (zr8 hm hxl ht)⟩
 have hEx:(mdlE m).2=0→∀og:List (List Sta),og.length=m.comps.length→(∀s∈og,s.length≤100000)→∀O,za3 g (ptab ty fr) Tryz.prog 56 [mdlD m,.i (zle og)] O (excD (excX m og)) [] O:=fun hv og h1 h2 O=>by
  obtain⟨e1,e2⟩:=zxG hm hv h1 h2;exact zky hg O m og hm.toszOk e1 e2
 have hCn:=fun hv=>zxN (m:=m) hv;have hIl:=fun hv=>zji (m:=m) (zd9 hv).2.2.2.1;have hevl:=hm.ev;have hf1:=fun O s=>zew O m 3 s hm.toszOk;rw[show namK m 3=m.comps.map (·.name) from rfl] at hf1;have hr0:∀i,zg8 m [] i=.ok ([],[]):=fun _=>rfl;have hrs:∀x r i,zg8 m (x::r) i=match zcJ (mchR m x) with
  |.error e=>.error (i,e)
  |.ok U=>match zg8 m r (i+1) with
   |.error e=>.error e
   |.ok (a,o)=>.ok (⟨x.name,⟨(mchR m x).alpha,U.sts.length,U.mkl,U.eds⟩⟩::a,U.sts::o):=fun _ _ _=>rfl
 generalize hR:celR m=R;have hR:(if (mdlE m).2≠0 then (zCel,mdlE m) else match zg8 m m.comps 0 with
  |.error (i,e)=>(zCel,(3,(i:Int)),e)
  |.ok (a,og)=>match zg8 m m.reqs 0 with
   |.error (i,e)=>(zCel,(4,(i:Int)),e)
   |.ok (b,_)=>celK m a b og)=R:=hR
 generalize hE0:mdlE m=E0 at *;obtain⟨⟨q1,q2⟩,q3⟩:=E0;simp only at hR hMU hEx hCn hIl;generalize hRA:zg8 m m.comps 0=RA at hR;generalize hRB:zg8 m m.reqs 0=RB at hR;generalize hiR:zg8 m=iR at *;clear hiR hE0;refine zaN [36] Tk Tryz.func16 rfl Tryz.call16 Tryz.ntmps16 (Nat.le_of_ble_eq_true rfl) fun E hE=>?_;refine zai Tk Tryz.func16 ?_;refine zaj Tk Tryz.func16 (h14 _) rfl rfl rfl rfl rfl ?_;refine zae Tk Tryz.func16 rfl (fun c1=>?_) (fun c1=>?_)
 ·have c1:q3≠0:=bneT c1;rw[if_pos c1] at hR;subst hR;refine zav Tk Tryz.func16 zaz rfl ?_;refine zdc Tk rfl rfl rfl ?_;refine zdc Tk rfl rfl rfl ?_;refine zaB Tk Tryz.func16 (by kernel_rfl) ?_;refine zaD Tk (r:=.tup [.agg zin,.agg [ii q1,ii q2],ii q3]) rfl rfl rfl trivial rfl rfl ?_;exact zvF
 have c1:q3=0:=bneF c1;rw[if_neg (fun h=>h c1)] at hR;have hMU:=hMU c1;have hEx:=hEx c1;obtain⟨hcn1,hcn2⟩:=hCn c1;obtain⟨hcl,hcl0,hql⟩:=hIl c1;have h54:=fun O=>zxS O m.evs hevl;clear hCn hIl;refine zaj Tk Tryz.func16 (h54 _) rfl rfl rfl rfl rfl ?_;refine g_wk (zaL 2 68 76 5 (pre:=[.i (zbb m.evs)]) (post:=[.i (.v (.slice none 0 0)),.i (.v (.slice none 0 0)),.i (.v (.slice none 0 0))]) rfl rfl rfl) ?_;refine g_wk (zbn 7 72 62 1 rfl rfl rfl) ?_;refine zah ?_;refine zak (fun x:Nat×List Itm×List (List Sta)=>[(1,.own 0 1 0 0),(2,.own 0 2 0 0),(3,.own 0 3 0 0),(7,.osl 0 72),(40,.i (zaP m.comps)),(41,ii m.comps.length),(42,ii x.1)])
  (fun x=>[(1,.box (mdlC m)),(2,.box [.i (zbb m.evs),.osl 0 68,.i (.v (.slice none 0 0)),.i (.v (.slice none 0 0)),.i (.v (.slice none 0 0))]),(3,plcN),(68,zuY x.2.1),(72,zyz x.2.2)]) (fun _=>O) 168
  (fun x=>x.1≤m.comps.length∧x.2.1.length=x.1∧x.2.2.length=x.1∧(∀s∈x.2.2,s.length≤100000)∧exAp x.2.1 x.2.2 (iR (m.comps.drop x.1) x.1)=RA) (fun x=>m.comps.length-x.1) (0,[],[]) ⟨Nat.zero_le _,rfl,rfl,by simp,by rw[znW];exact hRA⟩ ⟨rfl,rfl,rfl,rfl,rfl,rfl,rfl,trivial⟩ rfl ⟨rfl,rfl,rfl,rfl,rfl,trivial⟩ rfl rfl ?_
 clear hRA;rintro ⟨i,A,G⟩ ⟨hi,hA,hG,hGs,hno⟩ ih;simp only at hi hA hG hGs hno;refine zai Tk Tryz.func16 ?_;refine zae Tk Tryz.func16 rfl (fun g1=>?_) (fun g1=>?_)
 ·have g1:i<m.comps.length:=by simpa using g1
  have gs:(m.comps.map insI)[(i:Int).toNat]? = some (insI m.comps[i]):=zan (f:=insI) g1;obtain⟨hM,hU⟩:=hMU m.comps[i] (.inl (List.getElem_mem g1));have hj1:ii (IntKind.i64.wrap ((i:Int)+1))=ii ((i+1:Nat):Int):=congrArg ii (zaC (n:=1000001) (by omega) (by decide));rw[List.drop_eq_getElem_cons g1,hrs] at hno;generalize m.comps[i]=x at *;generalize mchR m x=X at *;obtain⟨xn,xt,xe⟩:=x;simp only at hno
  cases hu:zcJ X with
  |error e=>
   have he:=zgx hu;have hU2:∀O,za3 g (ptab ty fr) Tryz.prog 32 [extD X] O (.tup [autD ⟨[],0,[],[]⟩,zjG [],ii e]) [] O:=fun O=>by have:=hU O;rw[hu] at this;exact this
   rw[hu] at hno;have hno:Except.error (i,e)=RA:=hno;subst hno;simp only at hR;subst hR;refine zad Tk Tryz.func16 (by exact⟨by omega,by show (i:Int)<(m.comps.length:Int);omega⟩) ?_;refine zap Tk Tryz.func16 (gs) ?_;refine zaj Tk Tryz.func16 (hM _) rfl rfl rfl rfl rfl ?_;refine zbB Tk Tryz.func16 hE (hU2 _) rfl rfl rfl rfl rfl rfl ?_;refine zae Tk Tryz.func16 rfl (fun _=>?_) (fun h=>absurd h (by simpa using he));refine zaD Tk (r:=.tup [.agg zin,.agg [ii 3,ii i],ii e]) rfl rfl rfl trivial rfl rfl ?_;exact zvF
  |ok U=>
   have hsl:=zkY hu;have hU2:∀O,za3 g (ptab ty fr) Tryz.prog 32 [extD X] O (.tup [autD ⟨X.alpha,U.sts.length,U.mkl,U.eds⟩,zjG U.sts,ii 0]) [] O:=fun O=>by have:=hU O;rw[hu] at this;exact this
   rw[hu] at hno;simp only at hno;rw[znX] at hno;clear hU;refine zad Tk Tryz.func16 (by exact⟨by omega,by show (i:Int)<(m.comps.length:Int);omega⟩) ?_;refine zap Tk Tryz.func16 (gs) ?_;refine zaj Tk Tryz.func16 (hM _) rfl rfl rfl rfl rfl ?_;refine zbB Tk Tryz.func16 hE (hU2 _) rfl rfl rfl rfl rfl rfl ?_;refine gcF Tk Tryz.func16 rfl ?_;refine zad Tk Tryz.func16 (by exact⟨by show (A.length+1)*96≤140737488355328;omega,by show A.length+1≤9223372036854775807;omega⟩) ?_;refine zad Tk Tryz.func16 (by exact⟨by show (G.length+1)*24≤140737488355328;omega,by show G.length+1≤9223372036854775807;omega⟩) ?_;refine zah ?_;refine ih (i+1,A++[⟨xn,⟨X.alpha,U.sts.length,U.mkl,U.eds⟩⟩],G++[U.sts]) _ _ ⟨g1,by simp[hA],by simp[hG],fun s hs=>?_,hno⟩ (by simp only;omega) ⟨rfl,rfl,rfl,rfl,rfl,rfl,hj1,trivial⟩ rfl ⟨rfl,rfl,rfl,?_,?_,trivial⟩ rfl rfl
   ·rcases List.mem_append.1 hs with hs|hs
    ·exact hGs s hs
    ·rw[List.mem_singleton] at hs;subst hs;omega
   ·show some (Ob.arr 76 5 (A.length+1) (A.map itmI++[itmI ⟨xn,⟨X.alpha,U.sts.length,U.mkl,U.eds⟩⟩]) true)=_;simp[zuY]
   ·show some (Ob.arr 62 1 (G.length+1) ((G.map fun s=>[I.sl 2 s.length (s.map staI)])++[[I.sl 2 U.sts.length (U.sts.map staI)]]) true)=_;simp[zyz]
 have g1:m.comps.length≤i:=by simpa using g1
 rw[List.drop_eq_nil_of_le g1,hr0] at hno;have hno:Except.ok (A++[],G++[])=RA:=hno;rw[List.append_nil,List.append_nil] at hno;subst hno;simp only at hR;have hEx:=hEx G (by omega) hGs;clear ih;refine g_wk (zam 68 rfl rfl) ?_;refine g_wk (zam 72 rfl rfl) ?_;refine g_wk (zaQ rfl) ?_;refine g_wk (zaL 2 104 76 5 (pre:=[.i (zbb m.evs),.i (zhG A)]) (post:=[.i (.v (.slice none 0 0)),.i (.v (.slice none 0 0))]) rfl rfl rfl) ?_;refine zah ?_;refine zak (fun x:Nat×List Itm×List (List Sta)=>[(1,.own 0 1 0 0),(2,.own 0 2 0 0),(3,.own 0 3 0 0),(7,.i (zle G)),(76,.i (zaP m.reqs)),(77,ii m.reqs.length),(78,ii x.1)])
  (fun x=>[(1,.box (mdlC m)),(2,.box [.i (zbb m.evs),.i (zhG A),.osl 0 104,.i (.v (.slice none 0 0)),.i (.v (.slice none 0 0))]),(3,plcN),(104,zuY x.2.1)]) (fun _=>O) 168
  (fun x=>x.1≤m.reqs.length∧x.2.1.length=x.1∧exAp x.2.1 x.2.2 (iR (m.reqs.drop x.1) x.1)=RB) (fun x=>m.reqs.length-x.1) (0,[],[]) ⟨Nat.zero_le _,rfl,by rw[znW];exact hRB⟩ ⟨rfl,rfl,rfl,rfl,rfl,rfl,rfl,trivial⟩ rfl ⟨rfl,rfl,rfl,rfl,trivial⟩ rfl rfl ?_
 clear hRB;rintro ⟨i,B,G2⟩ ⟨hi,hB,hno⟩ ih;simp only at hi hB hno;refine zai Tk Tryz.func16 ?_;refine zae Tk Tryz.func16 rfl (fun g2=>?_) (fun g2=>?_)
 ·have g2:i<m.reqs.length:=by simpa using g2
  have gs:(m.reqs.map insI)[(i:Int).toNat]? = some (insI m.reqs[i]):=zan (f:=insI) g2;obtain⟨hM,hU⟩:=hMU m.reqs[i] (.inr (List.getElem_mem g2));have hj1:ii (IntKind.i64.wrap ((i:Int)+1))=ii ((i+1:Nat):Int):=congrArg ii (zaC (n:=1000001) (by omega) (by decide));rw[List.drop_eq_getElem_cons g2,hrs] at hno;generalize m.reqs[i]=x at *;generalize mchR m x=X at *;obtain⟨xn,xt,xe⟩:=x;simp only at hno
  cases hu:zcJ X with
  |error e=>
   have he:=zgx hu;have hU2:∀O,za3 g (ptab ty fr) Tryz.prog 32 [extD X] O (.tup [autD ⟨[],0,[],[]⟩,zjG [],ii e]) [] O:=fun O=>by have:=hU O;rw[hu] at this;exact this
   rw[hu] at hno;have hno:Except.error (i,e)=RB:=hno;subst hno;simp only at hR;subst hR;refine zad Tk Tryz.func16 (by exact⟨by omega,by show (i:Int)<(m.reqs.length:Int);omega⟩) ?_;refine zap Tk Tryz.func16 (gs) ?_;refine zaj Tk Tryz.func16 (hM _) rfl rfl rfl rfl rfl ?_;refine zbB Tk Tryz.func16 hE (hU2 _) rfl rfl rfl rfl rfl rfl ?_;refine zae Tk Tryz.func16 rfl (fun _=>?_) (fun h=>absurd h (by simpa using he));refine zaD Tk (r:=.tup [.agg zin,.agg [ii 4,ii i],ii e]) rfl rfl rfl trivial rfl rfl ?_;exact zvF
  |ok U=>
   have hU2:∀O,za3 g (ptab ty fr) Tryz.prog 32 [extD X] O (.tup [autD ⟨X.alpha,U.sts.length,U.mkl,U.eds⟩,zjG U.sts,ii 0]) [] O:=fun O=>by have:=hU O;rw[hu] at this;exact this
   rw[hu] at hno;simp only at hno;rw[znX] at hno;clear hU;refine zad Tk Tryz.func16 (by exact⟨by omega,by show (i:Int)<(m.reqs.length:Int);omega⟩) ?_;refine zap Tk Tryz.func16 (gs) ?_;refine zaj Tk Tryz.func16 (hM _) rfl rfl rfl rfl rfl ?_;refine zbB Tk Tryz.func16 hE (hU2 _) rfl rfl rfl rfl rfl rfl ?_;refine gcF Tk Tryz.func16 rfl ?_;refine zad Tk Tryz.func16 (by exact⟨by show (B.length+1)*96≤140737488355328;omega,by show B.length+1≤9223372036854775807;omega⟩) ?_;refine zah ?_;refine ih (i+1,B++[⟨xn,⟨X.alpha,U.sts.length,U.mkl,U.eds⟩⟩],G2++[U.sts]) _ _ ⟨g2,by simp[hB],hno⟩ (by simp only;omega) ⟨rfl,rfl,rfl,rfl,rfl,rfl,hj1,trivial⟩ rfl ⟨rfl,rfl,rfl,?_,trivial⟩ rfl rfl;show some (Ob.arr 76 5 (B.length+1) (B.map itmI++[itmI ⟨xn,⟨X.alpha,U.sts.length,U.mkl,U.eds⟩⟩]) true)=_;simp[zuY]
 have g2:m.reqs.length≤i:=by simpa using g2
 rw[List.drop_eq_nil_of_le g2,hr0] at hno;have hno:Except.ok (B++[],G2++[])=RB:=hno;rw[List.append_nil,List.append_nil] at hno;subst hno;simp only at hR;rw[zvP] at hR;clear ih hMU;generalize excX m G=rx at *;obtain⟨xs,⟨p1,p2⟩,e⟩:=rx;simp only at hR hEx;refine zbB Tk Tryz.func16 hE (hEx _) rfl rfl rfl rfl rfl rfl ?_;refine zae Tk Tryz.func16 rfl (fun c2=>?_) (fun c2=>?_)
 ·have c2:e≠0:=bneT c2;rw[if_pos c2] at hR;subst hR;refine zav Tk Tryz.func16 zaz rfl ?_;refine zdc Tk rfl rfl rfl ?_;refine zdc Tk rfl rfl rfl ?_;refine zaB Tk Tryz.func16 (by kernel_rfl) ?_;refine zaD Tk (r:=.tup [.agg zin,.agg [ii p1,ii p2],ii e]) rfl rfl rfl trivial rfl rfl ?_;exact zvF
 have c2:e=0:=bneF c2;rw[if_neg (fun h=>h c2)] at hR;subst c2;refine g_wk (zam 104 rfl rfl) ?_;refine g_wk (zaQ rfl) ?_;refine g_wk (zaL 2 163 158 3 (pre:=[.i (zbb m.evs),.i (zhG A),.i (zhG B),.i (zio xs)]) (post:=[]) rfl rfl rfl) ?_;refine zah ?_;refine zak (fun i:Nat=>[(1,.own 0 1 0 0),(2,.own 0 2 0 0),(3,.own 0 3 0 0),(121,.i (zdt m.cons)),(122,ii m.cons.length),(123,ii i)])
  (fun i=>[(1,.box (mdlC m)),(2,.box [.i (zbb m.evs),.i (zhG A),.i (zhG B),.i (zio xs),.osl 0 163]),(3,.box [ii p1,ii p2]),(163,zxa ((m.cons.take i).map (zje m)))]) (fun _=>O) 168
  (fun i=>i≤m.cons.length) (fun i=>m.cons.length-i) 0 (Nat.zero_le _) ⟨rfl,rfl,rfl,rfl,rfl,rfl,trivial⟩ rfl ⟨rfl,rfl,rfl,rfl,trivial⟩ rfl rfl ?_
 intro i hi ih;have hi:i≤m.cons.length:=hi;refine zai Tk Tryz.func16 ?_;refine zae Tk Tryz.func16 rfl (fun g3=>?_) (fun g3=>?_)
 ·have g3:i<m.cons.length:=by simpa using g3
  have gs:(m.cons.map ncnI)[(i:Int).toNat]? = some (ncnI m.cons[i]):=zan (f:=ncnI) g3;have ht:=zaI (zje m) g3;have hcl3:((m.cons.take i).map (zje m)).length≤32:=by rw[List.length_map,List.length_take];omega
  have htl:=hcn2 m.cons[i] (List.getElem_mem g3);have hj1:ii (IntKind.i64.wrap ((i:Int)+1))=ii ((i+1:Nat):Int):=congrArg ii (zaC (n:=1000001) (by omega) (by decide));generalize (m.cons.take i).map (zje m)=L at *;generalize m.cons[i]=x at *;obtain⟨xn,ts,bd⟩:=x;simp only at htl;have hcr:zje m ⟨xn,ts,bd⟩=⟨xn,zf5 (ts.map fun t=>(fndI (m.comps.map (·.name)) t.1,t.2)),bd⟩:=rfl;rw[hcr] at ht;clear hcr;refine zad Tk Tryz.func16 (by exact⟨by omega,by show (i:Int)<(m.cons.length:Int);omega⟩) ?_;refine zap Tk Tryz.func16 (gs) ?_;refine g_wk (zaL 20 153 160 2 (pre:=[sD xn]) (post:=[ii bd]) rfl rfl rfl) ?_;refine zah ?_;refine zak (fun j:Nat=>[(1,.own 0 1 0 0),(2,.own 0 2 0 0),(3,.own 0 3 0 0),(20,.own 0 20 0 0),(121,.i (zdt m.cons)),(122,ii m.cons.length),(123,ii i),(133,.i (zxf ts)),(134,ii ts.length),(135,ii j)])
   (fun j=>[(1,.box (mdlC m)),(2,.box [.i (zbb m.evs),.i (zhG A),.i (zhG B),.i (zio xs),.osl 0 163]),(3,.box [ii p1,ii p2]),(163,zxa L),(20,.box [sD xn,.osl 0 153,ii bd]),(153,olTm ((ts.take j).map fun t=>(fndI (m.comps.map (·.name)) t.1,t.2)))]) (fun _=>O) 168
   (fun j=>j≤ts.length) (fun j=>ts.length-j) 0 (Nat.zero_le _) ⟨rfl,rfl,rfl,rfl,rfl,rfl,rfl,rfl,rfl,rfl,trivial⟩ rfl ⟨rfl,rfl,rfl,rfl,rfl,rfl,trivial⟩ rfl rfl ?_
  intro j hj ih2;have hj:j≤ts.length:=hj;refine zai Tk Tryz.func16 ?_;refine zae Tk Tryz.func16 rfl (fun g4=>?_) (fun g4=>?_)
  ·have g4:j<ts.length:=by simpa using g4
   have gt:(ts.map ntmI)[(j:Int).toNat]? = some (ntmI ts[j]):=zan (f:=ntmI) g4;have ht2:=zaI (fun t:NTm=>(fndI (m.comps.map (·.name)) t.1,t.2)) g4;have hl2:((ts.take j).map fun t=>(fndI (m.comps.map (·.name)) t.1,t.2)).length≤12:=by rw[List.length_map,List.length_take];omega
   have hf2:=fun O=>hf1 O ts[j].1;have hq:fndI (m.comps.map (·.name)) ts[j].1=fnd0 (nmIx (m.comps.map (·.name)) ts[j].1):=rfl;have hk1:ii (IntKind.i64.wrap ((j:Int)+1))=ii ((j+1:Nat):Int):=congrArg ii (zaC (n:=1000001) (by omega) (by decide));rw[hq] at ht2;clear hq;generalize ((ts.take j).map fun t=>(fndI (m.comps.map (·.name)) t.1,t.2))=T at *;generalize nmIx (m.comps.map (·.name)) ts[j].1=q at *;generalize ts[j]=y at *;obtain⟨yn,yf⟩:=y;simp only at hf2 ht2;refine zad Tk Tryz.func16 (by exact⟨by omega,by show (j:Int)<(ts.length:Int);omega⟩) ?_;refine zap Tk Tryz.func16 (gt) ?_;refine zaj Tk Tryz.func16 (hf2 _) rfl rfl rfl rfl rfl ?_;refine zad Tk Tryz.func16 (by exact⟨by show (T.length+1)*16≤140737488355328;omega,by show T.length+1≤9223372036854775807;omega⟩) ?_;refine zah ?_
   refine ih2 (j+1) _ _ g4 (by omega) ⟨rfl,rfl,rfl,rfl,rfl,rfl,rfl,rfl,rfl,hk1,trivial⟩ rfl ⟨rfl,rfl,rfl,rfl,rfl,?_,trivial⟩ rfl rfl;rw[ht2];show some (Ob.arr 160 2 (T.length+1) (T.map zcc++[zcc (fnd0 q,yf)]) true)=_;simp[olTm]
  ·have g4:ts.length≤j:=by simpa using g4
   rw[List.take_of_length_le g4];have hl2:(ts.map fun t=>(fndI (m.comps.map (·.name)) t.1,t.2)).length≤12:=by rw[List.length_map];exact htl
   generalize (ts.map fun t=>(fndI (m.comps.map (·.name)) t.1,t.2))=T at *;have h57:=fun O d ho=>zyj O d 153 T hl2 ho;refine zaj Tk Tryz.func16 (h57 _ 0 rfl) rfl rfl rfl (za7 (ob:=olTm T) rfl (by simp[Ob.sh,zgB])) rfl ?_;refine zat ?_;refine zaq (zam 153 rfl rfl) ?_;refine zaq (zaQ rfl) ?_;refine zai Tk Tryz.func16 ?_;refine g_go Tk Tryz.func16 ?_;refine zad Tk Tryz.func16 (by exact⟨by show (L.length+1)*48≤140737488355328;omega,by show L.length+1≤9223372036854775807;omega⟩) ?_;refine zah ?_;refine ih (i+1) _ _ g3 (by omega) ⟨rfl,rfl,rfl,rfl,rfl,hj1,trivial⟩ rfl ⟨rfl,rfl,rfl,?_,trivial⟩ rfl rfl;rw[ht];show some (Ob.arr 158 3 (L.length+1) (L.map xcnI++[xcnI ⟨xn,zf5 T,bd⟩]) true)=_;simp[zxa]
 ·have g3:m.cons.length≤i:=by simpa using g3
  rw[List.take_of_length_le g3];subst hR;refine za4 (zam 163 rfl rfl) ?_;refine za4 (zaQ rfl) ?_;refine zag Tk (r:=zx5 (⟨m.evs,A,B,xs,m.cons.map (zje m)⟩,(0,0),0)) rfl rfl rfl trivial rfl rfl ?_;rfl
theorem zxm {m:Mdl} {p:Plc} (hm:mdlOk m) (hmv:∀t∈m.tpls,t.mach.moves.length≤19) (h:(mchA m p).2=0):∃x t,(mdlE m).2=0∧zdf m p=.ok x∧(mchA m p).1=mchR m x∧mchOk m x t∧mchR m x=mchE m x t∧extOk (mchR m x)∧(t.locs.length:Int)=t.mach.locs∧nmsE [] t.locs=0:=by
 unfold mchA at h ⊢
 by_cases h1:(mdlE m).2≠0
 ·rw[if_pos h1] at h;exact absurd h h1
 rw[if_neg h1] at h ⊢;have h1:(mdlE m).2=0:=Classical.byContradiction h1
 cases hp:zdf m p with
 |error e=>rw[hp] at h;exact absurd h (zfy hp)
 |ok x=>
  obtain⟨t,a1,a2,a3,a4,_⟩:=zgt hmv h1 (zfx hp);exact⟨x,t,h1,rfl,rfl,a1,a2,by rw[a2];exact zr8 hm (zls hm (zfx hp)) a1,a3,a4⟩
theorem zj0:∀{l b:List ByteArray},nmsE b l=0→∀s∈l,s.size≤32
 |[],_,_,s,hs=>by simp at hs
 |x::r,b,h,s,hs=>by
  simp only[nmsE] at h
  by_cases h1:nmE b x≠0
  ·rw[if_pos h1] at h;exact absurd h h1
  rw[if_neg h1] at h;rcases List.mem_cons.1 hs with rfl|hs
  ·exact zgW (zv3 (Classical.byContradiction h1)).1
  ·exact zj0 h s hs
theorem zhv {all:List Vr}:∀{l:List Vr} {i:Nat},zbh all l i=0→∀v∈l,v.name.size≤32
 |[],_,_,v,hv=>by simp at hv
 |x::r,i,h,v,hv=>by
  simp only[zbh] at h
  split at h
  ·rename_i e he;subst h;unfold checkVr at he
   split at he;· cases he
   split at he;· cases he
   split at he;· cases he
   split at he;· cases he
   split at he<;>cases he
  ·rename_i he;rcases List.mem_cons.1 hv with rfl|hv
   ·unfold checkVr at he
    split at he;· cases he
    rename_i h1;exact zgW (by simpa using h1)
   ·exact zhv h v hv
theorem zww {l:List Vr} (h:zbz l=0):∀v∈l,v.name.size≤32:=by
 unfold zbz at h
 split at h
 ·cases h
 ·exact zhv h
abbrev stgD (s:ByteArray) (e:Int):D:=.tup [.i (.v (.string s)),ii e]
theorem zug {g:Nat} (hg:zda g) {ty:TypeId} {fr:Nat×Nat} (O:List Heap) (m:Mdl) (p:Plc) (s:Sta) (hm:mdlOk m) (hmv:∀t∈m.tpls,t.mach.moves.length≤19) :
  za3 g (ptab ty fr) Tryz.prog 20 [mdlD m,.agg [ii p.1,ii p.2],staD s] O (stgD (labR m p s).1 (labR m p s).2) [] O:=by
 have h18:=fun O=>zkV O m p hm hmv;have hk:=fun h=>zxm (p:=p) hm hmv h;have h61:=fun O=>zh6 O m p hm.toszOk;have hf:=fun O nm=>zew O m 2 nm hm.toszOk;rw[show namK m 2=m.tpls.map (·.name) from rfl] at hf;generalize hR:labR m p s=R;have hR:(if (mchA m p).2≠0 then ((⟨#[]⟩:ByteArray),(mchA m p).2) else match zdf m p with
  |.error e=>(⟨#[]⟩,e)
  |.ok x=>if ckS (mchR m x) s≠0 then (⟨#[]⟩,ckS (mchR m x) s) else match zb4 m x with
   |none=>(⟨#[]⟩,0)
   |some t=>(labT (mchR m x).vars s.vals (t.locs.getD s.loc.toNat ⟨#[]⟩),0))=R:=by
  rw[←hR];unfold labR mchA
  by_cases h1:(mdlE m).2≠0
  ·rw[if_pos h1,if_pos h1,if_pos h1]
  ·rw[if_neg h1,if_neg h1]
   cases hp:zdf m p with
   |error e=>simp only;rw[if_pos (zfy hp)]
   |ok x=>simp only;rw[if_neg (by decide)];rfl
 generalize hAA:mchA m p=A at *;obtain⟨X,e⟩:=A;obtain⟨a,b⟩:=p;obtain⟨sl,sv⟩:=s;simp only at h18 hk hR h61;refine zaN [] Tk Tryz.func20 rfl Tryz.call20 Tryz.ntmps20 (Nat.le_of_ble_eq_true rfl) fun E hE=>?_;refine zai Tk Tryz.func20 ?_;refine zaj Tk Tryz.func20 (h18 _) rfl rfl rfl rfl rfl ?_;refine zae Tk Tryz.func20 rfl (fun c1=>?_) (fun c1=>?_)
 ·have c1:e≠0:=bneT c1;rw[if_pos c1] at hR;subst hR;refine zag Tk (r:=stgD ⟨#[]⟩ e) rfl rfl rfl trivial rfl rfl ?_;rfl
 have c1:e=0:=bneF c1;rw[if_neg (fun h=>h c1)] at hR;obtain⟨x,t,_,hp,hX,hmo,hme,hok,hlo,hnm⟩:=hk c1;rw[hp] at hR;simp only at hR;have hck:=@zkL (mchR m x) ⟨sl,sv⟩;have h34:=fun O=>zfZ O (mchR m x) ⟨sl,sv⟩ hok;rw[←hX] at hR hck h34;rw[show zhH m (a,b)=(x,0) from by unfold zhH;rw[hp]] at h61;have htp:=hmo.tp;rw[htp] at hR;simp only at hR;have hXv:X.vars=t.mach.vars:=by rw[hX,hme];rfl
 have hXl:X.locs=t.mach.locs:=by rw[hX,hme];rfl
 have hvr:=hmo.right.vars;have hv16:t.mach.vars.length≤16:=by
  have:=hmo.right.vars;unfold zbz at this
  by_cases hc:t.mach.vars.length>16
  ·rw[if_pos hc] at this;cases this
  ·omega
 unfold zb4 at htp;rcases zdD Tpl.name m.tpls x.tpl with ⟨h1,_⟩|⟨k,t',h1,h2,h3⟩
 ·rw[h1] at htp;cases htp
 rw[h2] at htp
 cases htp
 have hf2:=fun O=>hf O x.tpl;rw[h3,zfi] at hf2;have hkl:k<m.tpls.length:=(List.getElem?_eq_some_iff.1 h1).1;have gt:(m.tpls.map tplI)[(k:Int).toNat]? = some (tplI t):=by rw[Int.toNat_natCast,List.getElem?_map,h1];rfl
 rw[←hXl] at hlo;rw[←hXv] at hvr hv16;clear h2 h3 hf hmo hme hok hXv hXl hp h18 hk hAA;generalize hC:ckS X ⟨sl,sv⟩=C at *;refine zaj Tk Tryz.func20 (h34 _) rfl rfl rfl rfl rfl ?_;refine zae Tk Tryz.func20 rfl (fun c2=>?_) (fun c2=>?_)
 ·have c2:C≠0:=bneT c2;rw[if_pos c2] at hR;subst hR;refine zag Tk (r:=stgD ⟨#[]⟩ C) rfl rfl rfl trivial rfl rfl ?_;rfl
 have c2:C=0:=bneF c2;rw[if_neg (fun h=>h c2)] at hR;obtain⟨_,k2,k3,k4,k5⟩:=hck c2;simp only at k2 k3 k4 k5;have hsl:sl.toNat<t.locs.length:=by omega
 have gl:(t.locs.map fun s=>[strI s])[sl.toNat]? = some [strI (t.locs.getD sl.toNat ⟨#[]⟩)]:=by
  rw[List.getElem?_map,List.getD_eq_getElem?_getD,List.getElem?_eq_getElem hsl];rfl
 have hs0:(t.locs.getD sl.toNat ⟨#[]⟩).size≤32:=by
  rw[List.getD_eq_getElem?_getD,List.getElem?_eq_getElem hsl];exact zj0 hnm _ (List.getElem_mem hsl)
 generalize t.locs.getD sl.toNat ⟨#[]⟩=s0 at *;have hvn:=zww hvr;have hvb:∀v∈sv,-65536≤v∧v≤65536:=by
  intro v hv;obtain⟨i,hi,rfl⟩:=List.getElem_of_mem hv;have:=(within_iff.1 k3).2 i (by omega) hi;have hb:=zkX hvr X.vars[i] (List.getElem_mem (by omega));omega
 obtain⟨xn,xt,xe⟩:=x;simp only at hf2;refine zaj Tk Tryz.func20 (h61 _) rfl rfl rfl rfl rfl ?_;refine zaj Tk Tryz.func20 (hf2 _) rfl rfl rfl rfl rfl ?_;refine zav Tk Tryz.func20 zaz rfl ?_;refine zas Tk (by exact⟨by omega,by show (k:Int)<(m.tpls.length:Int);omega⟩) ?_;refine zaE Tk (gt) ?_;refine zas Tk (by exact⟨k4,by show sl<(t.locs.length:Int);omega⟩) ?_;refine zaE Tk (gl) ?_;refine zaB Tk Tryz.func20 (by kernel_rfl) ?_;generalize hT:labT X.vars sv s0=T at hR;subst hR;refine zah ?_;refine zak (fun x:Nat×ByteArray=>[(5,.own 0 5 0 0),(15,sD x.2),(57,vrs X.vars),(58,ii X.vars.length),(59,ii x.1)])
  (fun _=>[(5,.box [ii sl,ints sv])]) (fun _=>O) 79
  (fun x=>x.1≤X.vars.length∧x.2.size≤100+100*x.1∧labT (X.vars.drop x.1) (sv.drop x.1) x.2=T) (fun x=>X.vars.length-x.1) (0,s0) ⟨Nat.zero_le _,by simp only;omega,hT⟩ ⟨rfl,rfl,rfl,rfl,rfl,trivial⟩ rfl ⟨rfl,trivial⟩ rfl rfl ?_
 clear hT;rintro ⟨i,acc⟩ ⟨hi,has,hno⟩ ih;simp only at hi has hno;refine zai Tk Tryz.func20 ?_;refine zae Tk Tryz.func20 rfl (fun g1=>?_) (fun g1=>?_)
 ·have g1:i<X.vars.length:=by simpa using g1
  have g1':i<sv.length:=by omega
  have gv:(X.vars.map vrI)[(i:Int).toNat]? = some (vrI X.vars[i]):=zan (f:=vrI) g1;have gn:(sv.map fun x=>[vi x])[(i:Int).toNat]? = some [vi sv[i]]:=zan (f:=fun x=>[vi x]) g1';have hvi:=hvn X.vars[i] (List.getElem_mem g1);have hni:=hvb sv[i] (List.getElem_mem g1');rw[List.drop_eq_getElem_cons g1,List.drop_eq_getElem_cons g1'] at hno;simp only[labT] at hno;have hit:=fun O=>zkd hg (ty:=ty) (fr:=fr) O sv[i] (by omega) (by omega);have hsz:=zcI (n:=sv[i]) (by omega) (by omega);have hj1:ii (IntKind.i64.wrap ((i:Int)+1))=ii ((i+1:Nat):Int):=congrArg ii (zaC (n:=1000001) (by omega) (by decide));generalize X.vars[i]=v at *;generalize zcW sv[i]=tx at *;generalize sv[i]=n at *;obtain⟨vn,vlo,vhi,vin⟩:=v;simp only at hno hvi;have hs1:((⟨#[32]⟩:ByteArray)++vn).size=1+vn.size:=ByteArray.size_append
  have hs2:((⟨#[32]⟩:ByteArray)++vn++⟨#[61]⟩).size=1+vn.size+1:=by rw[ByteArray.size_append,hs1];rfl
  have hs3:((⟨#[32]⟩:ByteArray)++vn++⟨#[61]⟩++tx).size=1+vn.size+1+tx.size:=by rw[ByteArray.size_append,hs2]
  refine zad Tk Tryz.func20 (by exact⟨by omega,by show (i:Int)<(X.vars.length:Int);omega⟩) ?_;refine zap Tk Tryz.func20 (gv) ?_;refine zav Tk Tryz.func20 zaz rfl ?_;refine zas Tk (by show 1+vn.size≤9223372036854775807;omega) ?_;refine zas Tk (by show ((⟨#[32]⟩:ByteArray)++vn).size+1≤9223372036854775807;rw[hs1];omega) ?_;refine zas Tk (by exact⟨by omega,by show (i:Int)<(sv.length:Int);omega⟩) ?_;refine zaE Tk (gn) ?_;refine zcg Tk hE (hit _) rfl rfl rfl rfl ?_;refine zas Tk (by show ((⟨#[32]⟩:ByteArray)++vn++⟨#[61]⟩).size+tx.size≤9223372036854775807;rw[hs2];omega) ?_;refine zas Tk (by show acc.size+((⟨#[32]⟩:ByteArray)++vn++⟨#[61]⟩++tx).size≤9223372036854775807;rw[hs3];omega) ?_;refine zaB Tk Tryz.func20 (by kernel_rfl) ?_;refine zah ?_
  exact ih (i+1,acc++(⟨#[32]⟩++vn++⟨#[61]⟩++tx)) _ _ ⟨g1,by simp only;rw[ByteArray.size_append,hs3];omega,hno⟩ (by simp only;omega) ⟨rfl,rfl,rfl,rfl,hj1,trivial⟩ rfl ⟨rfl,trivial⟩ rfl rfl
 ·have g1:X.vars.length≤i:=by simpa using g1
  rw[List.drop_eq_nil_of_le g1] at hno;have hno:acc=T:=by rw[←hno];simp[labT]
  subst hno;refine zag Tk (r:=stgD acc 0) rfl rfl rfl trivial rfl rfl ?_;rfl
end Go.AI
namespace Go.AI
def valB:Value→Value→Bool
 |.string a,.string b=>a.data.toList==b.data.toList
 |.int k a,.int k' b=>decide (k=k')&&a==b
 |.bool a,.bool b=>a==b
 |.slice none 0 0,.slice none 0 0=>true
 |_,_=>false
theorem zwy:∀{x y:Value},valB x y=true→x=y:=by
 intro x y h;unfold valB at h
 split at h
 ·rw[beq_iff_eq] at h;exact congrArg Value.string (ByteArray.ext (Array.ext' h))
 ·simp only[Bool.and_eq_true,decide_eq_true_eq,beq_iff_eq] at h;rw[h.1,h.2]
 ·rw[beq_iff_eq] at h;rw[h]
 ·rfl
 ·cases h
mutual
def coIB:I→I→Bool
 |.v x,.v y=>valB x y
 |.v (.slice none 0 0),.sl _ 0 []=>true
 |.sl es n xs,.sl es' n' ys=>es==es'&&(n==n'&&zqg xs ys)
 |_,_=>false
def coLB:List I→List I→Bool
 |[],[]=>true
 |x::xs,y::ys=>coIB x y&&coLB xs ys
 |_,_=>false
def zqg:List (List I)→List (List I)→Bool
 |[],[]=>true
 |x::xs,y::ys=>coLB x y&&zqg xs ys
 |_,_=>false
end
mutual
theorem zlU:∀{x y:I},coIB x y=true→CoI x y
 |.v x,.v y,h=>by
  simp only[coIB] at h;rw[zwy h];exact CoI.refl _
 |.v x,.sl es n ys,h=>by
  unfold coIB at h
  split at h
  ·rename_i e1 e2;cases e2
  ·rename_i e1 e2;cases e1;cases e2;exact zbd
  ·rename_i e1 e2;cases e1
  ·cases h
 |.sl es n xs,.sl es' n' ys,h=>by
  simp only[coIB,Bool.and_eq_true,beq_iff_eq] at h;obtain⟨rfl,rfl,h⟩:=h;exact zcB (zn1 h)
 |.v x,.ptr _ _ _ _,h=>by simp[coIB] at h
 |.sl _ _ _,.v _,h=>by simp[coIB] at h
 |.sl _ _ _,.ptr _ _ _ _,h=>by simp[coIB] at h
 |.ptr _ _ _ _,_,h=>by simp[coIB] at h
theorem zs6:∀{x y:List I},coLB x y=true→CoL x y
 |[],[],_=>.nil
 |x::xs,y::ys,h=>by
  simp only[coLB,Bool.and_eq_true] at h;exact .cons (zlU h.1) (zs6 h.2)
 |[],_::_,h=>by simp[coLB] at h
 |_::_,[],h=>by simp[coLB] at h
theorem zn1:∀{x y:List (List I)},zqg x y=true→CoLL x y
 |[],[],_=>.nil
 |x::xs,y::ys,h=>by
  simp only[zqg,Bool.and_eq_true] at h;exact .cons (zs6 h.1) (zn1 h.2)
 |[],_::_,h=>by simp[zqg] at h
 |_::_,[],h=>by simp[zqg] at h
end
def coDB:List D→List D→Bool
 |[],[]=>true
 |.i x::xs,.i y::ys=>coIB x y&&coDB xs ys
 |.osl a b::xs,.osl c d::ys=>a==c&&(b==d&&coDB xs ys)
 |_,_=>false
theorem zhs:∀{x y:List D},coDB x y=true→CoDL x y
 |[],[],_=>.nil
 |.i x::xs,.i y::ys,h=>by
  simp only[coDB,Bool.and_eq_true] at h;exact .cons (zcv (zlU h.1)) (zhs h.2)
 |.osl a b::xs,.osl c d::ys,h=>by
  simp only[coDB,Bool.and_eq_true,beq_iff_eq] at h;obtain⟨rfl,rfl,h⟩:=h;exact .cons (CoD.refl _) (zhs h)
 |x::xs,y::ys,h=>by
  unfold coDB at h
  split at h
  ·rename_i e1 e2;cases e1
  ·rename_i e1 e2
   cases e1;cases e2
   simp only[Bool.and_eq_true] at h;exact .cons (zcv (zlU h.1)) (zhs h.2)
  ·rename_i e1 e2
   cases e1;cases e2
   simp only[Bool.and_eq_true,beq_iff_eq] at h;obtain⟨rfl,rfl,h⟩:=h;exact .cons (CoD.refl _) (zhs h)
  ·cases h
 |[],_::_,h=>by simp[coDB] at h
 |_::_,[],h=>by simp[coDB] at h
theorem zvG {x y:List D} (h:coDB x y=true):CoD (.agg x) (.agg y):=zbu (zhs h)
end Go.AI
namespace Go.AI
open Go.Proofs
set_option maxRecDepth 20000
mutual
def nilJ:I→I
 |.sl es n xs=>match xs with
  |[]=>.v (.slice none 0 0)
  |x::r=>.sl es n (nilL x::zyB r)
 |d=>d
def nilL:List I→List I
 |[]=>[]
 |x::r=>nilJ x::nilL r
def zyB:List (List I)→List (List I)
 |[]=>[]
 |x::r=>nilL x::zyB r
end
def nilD:D→D
 |.i x=>.i (nilJ x)
 |d=>d
theorem zuB:CoD (.agg ((mdlC shopM).map nilD)) (mdlD shopM):=zvG (by kernel_rfl)
set_option maxHeartbeats 8000000 in
theorem zyp (O:List Heap):zao Tryz.prog 26 [] O (mdlD shopM) [] O:=by
 refine zaa Tk Tryz.func26 rfl Tryz.call26 Tryz.ntmps26 (Nat.le_of_ble_eq_true rfl) fun E=>?_;refine zai Tk Tryz.func26 ?_;refine zaD Tk (r:=.agg ((mdlC shopM).map nilD)) rfl rfl rfl trivial (by kernel_rfl) rfl ?_;exact zuB
theorem zs0 (O:List Heap) (es:List Edg) (he:es.length≤zar):zao Tryz.prog 115 [edgs es,edgs es] O (bb true) [] O:=by
 refine zaa Tk Tryz.func115 rfl Tryz.call115 Tryz.ntmps115 (Nat.le_of_ble_eq_true rfl) fun E=>?_;refine zai Tk Tryz.func115 ?_;refine zae Tk Tryz.func115 rfl (fun g1=>?_) (fun g1=>?_)
 ·exact absurd rfl (bneT g1)
 refine zah ?_;refine zak (fun i:Nat=>[(0,edgs es),(1,edgs es),(12,ii es.length),(13,ii i)]) (fun _=>[]) (fun _=>O) 26
  (fun i=>i≤es.length) (fun i=>es.length-i) 0 (Nat.zero_le _) ⟨rfl,rfl,rfl,rfl,trivial⟩ rfl trivial rfl rfl ?_
 rintro i hi ih;refine zai Tk Tryz.func115 ?_;refine zae Tk Tryz.func115 rfl (fun g3=>?_) (fun g3=>?_)
 ·have h3:i<es.length:=by simpa using g3
  have ge:(es.map edgI)[(i:Int).toNat]? = some (edgI es[i]):=zan h3;generalize es[i]=e at *;refine zav Tk Tryz.func115 zaz rfl ?_;refine zas Tk (by exact⟨by omega,by show (i:Int)<(es.length:Int);omega⟩) ?_;refine zaE Tk (ge) ?_;refine zas Tk (by exact⟨by omega,by show (i:Int)<(es.length:Int);omega⟩) ?_;refine zaE Tk (ge) ?_;refine zaB Tk Tryz.func115 (by kernel_rfl) ?_;refine zae Tk Tryz.func115 rfl (fun g4=>?_) (fun g4=>?_)
  ·simp at g4
  ·refine zah ?_;exact ih (i+1) _ _ h3 (by omega) ⟨rfl,rfl,rfl,congrArg ii (zaC h3 he),trivial⟩ rfl trivial rfl rfl
 ·refine zag Tk (r:=bb true) rfl rfl rfl trivial rfl rfl ?_;rfl
theorem zs1 (O:List Heap) (a:Aut) (ha:a.alpha.length≤zar) (hm:a.marked.length≤zar) (he:a.edges.length≤zar):zao Tryz.prog 42 [autD a,autD a] O (bb true) [] O:=by
 obtain⟨al,n,mk,es⟩:=a;simp only at ha hm he;have h1:∀O,zao Tryz.prog 67 [ints al,ints al] O (bb true) [] O:=fun O=>by
  have h:=zs2 O al al ha;rwa [decide_eq_true rfl] at h
 have h2:∀O,zao Tryz.prog 67 [ints mk,ints mk] O (bb true) [] O:=fun O=>by
  have h:=zs2 O mk mk hm;rwa [decide_eq_true rfl] at h
 have h3:=fun O=>zs0 O es he;refine zaa Tk Tryz.func42 rfl Tryz.call42 Tryz.ntmps42 (Nat.le_of_ble_eq_true rfl) fun E=>?_;refine zai Tk Tryz.func42 ?_;refine zaK Tk Tryz.func42 rfl (fun c1=>?_) (fun c1=>?_);rotate_left
 ·exact absurd rfl (beqF c1)
 refine zaj Tk Tryz.func42 (h1 _) rfl rfl rfl rfl rfl ?_;refine gkT Tk Tryz.func42 rfl ?_;refine zaj Tk Tryz.func42 (h2 _) rfl rfl rfl rfl rfl ?_;refine gkT Tk Tryz.func42 rfl ?_;refine zaj Tk Tryz.func42 (h3 _) rfl rfl rfl rfl rfl ?_;refine zag Tk (r:=bb true) rfl rfl rfl trivial rfl rfl ?_;rfl
theorem zyd:exOk yesX:=by simp[yesX,exOk,zkA,zar]
theorem zu4:extOk zsb:=by
 refine⟨by decide,by decide,by decide,by simp[zsb],by decide,?_⟩;intro x hx;simp only[zsb,List.mem_cons,List.not_mem_nil,or_false] at hx;rcases hx with rfl|rfl<;>exact⟨zyd,by decide,by simp⟩
theorem zvR:extOk zvS:=by
 refine⟨by decide,by decide,by decide,?_,by decide,?_⟩
 ·intro v hv;simp only[zvS,List.mem_cons,List.not_mem_nil,or_false] at hv;subst hv;decide
 ·intro x hx;simp only[zvS,List.mem_cons,List.not_mem_nil,or_false] at hx;subst hx;refine⟨by simp[exOk,zkA,zar],by decide,?_⟩;intro u hu;simp only[List.mem_cons,List.not_mem_nil,or_false] at hu;subst hu;simp[exOk,zkA,zar]
theorem zwD:tplOk tplX:=⟨by decide,by decide,by
  intro s hs;simp only[tplX,List.mem_cons,List.not_mem_nil,or_false] at hs;rcases hs with rfl|rfl<;>decide,by decide,by
  intro s hs;simp only[tplX,List.mem_cons,List.not_mem_nil,or_false] at hs;rcases hs with rfl|rfl<;>decide,zu4⟩
theorem zgG:∀t∈shopM.tpls,tplOk t∧t.mach.moves.length≤19:=by
 intro t ht;simp only[shopM,List.mem_cons,List.not_mem_nil,or_false] at ht;rcases ht with rfl|rfl
 ·exact⟨zwD,by decide⟩
 ·refine⟨⟨by decide,by decide,?_,by decide,?_,zvR⟩,by decide⟩
  ·intro s hs;simp only[List.mem_cons,List.not_mem_nil,or_false] at hs;subst hs;decide
  ·intro s hs;simp only[List.mem_cons,List.not_mem_nil,or_false] at hs;subst hs;decide
theorem zwS:szOk shopM:=⟨by decide,by decide,by decide,by decide,by decide,by decide⟩
theorem zuA:∀x∈shopM.evs,x.name.size≤zar:=by
 intro x hx;simp only[shopM,List.mem_cons,List.not_mem_nil,or_false] at hx;rcases hx with rfl|rfl<;>decide
theorem zpz:∀x∈shopM.comps,insOk x:=by
 intro x hx;simp only[shopM,List.mem_cons,List.not_mem_nil,or_false] at hx;rcases hx with rfl|rfl<;>exact⟨by decide,by decide⟩
theorem zrA:∀x∈shopM.excs,x.name.size≤zar∧x.locals.length≤1000000:=by
 intro x hx;simp only[shopM,List.mem_cons,List.not_mem_nil,or_false] at hx;subst hx;exact⟨by decide,by decide⟩
theorem zrz:mdlOk shopM:={ toszOk:=zwS,nm:=by decide,evn:=zuA,tpk:=fun t ht=>(zgG t ht).1,cok:=zpz,rqk:=fun x hx=>(by cases hx),exk:=zrA,cnk:=fun x hx=>(by cases hx)}
theorem zxy {g:Nat} (hg:zda g) {ty:TypeId} {fr:Nat×Nat} (O:List Heap):za3 g (ptab ty fr) Tryz.prog 11 [] O (bb true) [] O:=by
 have hs:=fun O=>zyp O;have hC:=fun O=>zws hg (ty:=ty) (fr:=fr) O shopM zrz fun t ht=>(zgG t ht).2;rw[zrB] at hC;have hL:=fun O=>zug hg (ty:=ty) (fr:=fr) O shopM (3,1) ⟨0,[2]⟩ zrz fun t ht=>(zgG t ht).2;rw[zpy] at hL;have hEq:=fun O=>zs1 O ⟨[0,1],2,[0],[(0,1,1),(1,0,0)]⟩ (by decide) (by decide) (by decide);refine zaN [] Tk Tryz.func11 rfl Tryz.call11 Tryz.ntmps11 (Nat.le_of_ble_eq_true rfl) fun E hE=>?_;refine zai Tk Tryz.func11 ?_;refine zaj Tk Tryz.func11 (hs _) rfl rfl rfl rfl rfl ?_;refine zbB Tk Tryz.func11 hE (hC _) rfl rfl rfl rfl rfl rfl ?_
 repeat (first|refine gcT Tk Tryz.func11 rfl ?_|refine gkT Tk Tryz.func11 rfl ?_|refine skT Tk ?_|refine gcF Tk Tryz.func11 rfl ?_|refine gkF Tk Tryz.func11 rfl ?_|refine skF Tk ?_)
 refine zad Tk Tryz.func11 (by decide) ?_;refine zap Tk Tryz.func11 (rfl) ?_;refine zaj Tk Tryz.func11 (hs _) rfl rfl rfl rfl rfl ?_;refine zbB Tk Tryz.func11 hE (hL _) rfl rfl rfl rfl rfl rfl ?_;refine zad Tk Tryz.func11 (by decide) ?_;refine zap Tk Tryz.func11 (rfl) ?_;refine zaj Tk Tryz.func11 (hEq _) rfl rfl rfl rfl rfl ?_;refine gkT Tk Tryz.func11 rfl ?_;refine zad Tk Tryz.func11 (by decide) ?_;refine zap Tk Tryz.func11 (rfl) ?_;refine gkT Tk Tryz.func11 rfl ?_;refine zaK Tk Tryz.func11 rfl (fun _=>?_) (fun h=>absurd h (by rw[zbg];decide));refine gkT Tk Tryz.func11 rfl ?_;refine zad Tk Tryz.func11 (by decide) ?_;refine zap Tk Tryz.func11 (rfl) ?_;refine gkT Tk Tryz.func11 rfl ?_;refine zad Tk Tryz.func11 (by decide) ?_;refine zap Tk Tryz.func11 (rfl) ?_;refine gkT Tk Tryz.func11 rfl ?_;refine zaK Tk Tryz.func11 rfl (fun _=>?_) (fun h=>absurd h (by rw[zbg];decide))
 refine zag Tk (r:=bb true) rfl rfl rfl trivial rfl rfl ?_;rfl
abbrev zxb (l:List Tpl):Ob:=.arr 87 9 l.length (l.map tplI) true
abbrev ziK (l:List NEx):Ob:=.arr 91 2 l.length (l.map nexI) true
theorem zpU (c:UInt8) (i:Nat) (h:i≤1000):(zbA c i).size≤22:=by
 unfold zbA;rw[ByteArray.size_append];have:=zcI (n:=(i:Int)) (by omega) (by omega);show 1+_≤_;omega
end Go.AI
