/- The layer of abstract runs, part 27. -/
import Derived.Test.YtnojpbbaohoadaaGreatDoorGnuZ
set_option linter.unusedSimpArgs false
set_option linter.unusedVariables false
set_option linter.all false
set_option maxHeartbeats 4000000
namespace Go.AI
open Go.Proofs
set_option maxRecDepth 20000
theorem zhd {b:Bool} (h:b=false):¬b=true:=by rw[h];decide
theorem zdO {α:Type} (f:α→List I) (es:Nat) {l:List α} {i:Nat} (h:i≤l.length):I.sl es (l.take i).length ((l.take i).map f)=I.sl es i ((l.map f).take i):=by rw[List.length_take,Nat.min_eq_left h,List.map_take]
theorem zyw (O:List Heap) (b:List ByteArray) (s:ByteArray) (hl:b.length≤1000000) (hs:s.size≤zap):zan Tryz.prog 119 [ssD (b++[s])] O (ii (nmE b s)) [] O:=by
 have w1:IntKind.i64.wrap (((b++[s]).length:Int)-1)=(b.length:Int):=by rw[List.length_append,List.length_singleton,w64 (by omega) (by omega)];omega
 have hlen:(b++[s]).length=b.length+1:=by simp
 have gs:((b++[s]).map fun s=>[strI s])[(IntKind.i64.wrap (((b++[s]).length:Int)-1)).toNat]? = some [strI s]:=by rw[w1];simp
 have eT:I.sl 1 (IntKind.i64.wrap (((b++[s]).length:Int)-1)).toNat (((b++[s]).map fun s=>[strI s]).take (IntKind.i64.wrap (((b++[s]).length:Int)-1)).toNat)=zj3 b:=by rw[w1];simp[zj3]
 have hn:=fun O=>zdy O s hs;have hc:∀O,zan Tryz.prog 124 [.i (.sl 1 (IntKind.i64.wrap (((b++[s]).length:Int)-1)).toNat (((b++[s]).map fun s=>[strI s]).take (IntKind.i64.wrap (((b++[s]).length:Int)-1)).toNat)),sD s] O (bb (hasB b s)) [] O:=fun O=>by
  rw[eT];exact zcm O b s (by simp only[zap];omega)
 unfold nmE;generalize zaT s=nb at *;generalize hasB b s=hb at *;refine zaa Tk Tryz.func119 rfl Tryz.call119 Tryz.ntmps119 (Nat.le_of_ble_eq_true rfl) fun E=>?_;refine zai Tk Tryz.func119 ?_;refine zah Tk Tryz.func119 (by rw[w1,hlen];omega) ?_;refine zaq Tk Tryz.func119 (gs) ?_;refine zak Tk Tryz.func119 (hn _) rfl rfl rfl rfl rfl ?_;refine zaf Tk Tryz.func119 rfl (fun c1=>?_) (fun c1=>?_)
 ·have c1:nb=false:=by simpa using c1
  rw[if_pos c1];refine zaj Tk (r:=ii 7) rfl rfl rfl trivial rfl rfl ?_;rfl
 have c1:¬nb=false:=by simpa using c1
 rw[if_neg c1];refine zah Tk Tryz.func119 (by rw[w1,hlen];omega) ?_;refine zak Tk Tryz.func119 (hc _) rfl rfl rfl rfl rfl ?_;refine zaf Tk Tryz.func119 rfl (fun c2=>?_) (fun c2=>?_)
 ·have c2:hb=true:=c2;rw[if_pos c2];refine zaj Tk (r:=ii 8) rfl rfl rfl trivial rfl rfl ?_;rfl
 have c2:hb=false:=c2;rw[if_neg (zhd c2)];refine zaj Tk (r:=ii 0) rfl rfl rfl trivial rfl rfl ?_;rfl
theorem zog (O:List Heap) (l:List ByteArray) (hl:l.length≤1000000) (hs:∀s∈l,s.size≤zap):zan Tryz.prog 162 [ssD l] O (ii (nmsE [] l)) [] O:=by
 generalize hR:nmsE [] l=R;refine zaa Tk Tryz.func162 rfl Tryz.call162 Tryz.ntmps162 (Nat.le_of_ble_eq_true rfl) fun E=>?_;refine zai Tk Tryz.func162 ?_;refine zad ?_;refine zag (fun i:Nat=>[(0,ssD l),(5,ssD l),(6,ii l.length),(7,ii i)]) (fun _=>[]) (fun _=>O) 23
  (fun i=>i≤l.length∧nmsE (l.take i) (l.drop i)=R) (fun i=>l.length-i) 0 ⟨Nat.zero_le _,hR⟩ ⟨rfl,rfl,rfl,rfl,trivial⟩ rfl trivial rfl rfl ?_
 rintro i ⟨hi,hno⟩ ih;clear hR;refine zai Tk Tryz.func162 ?_;refine zaf Tk Tryz.func162 rfl (fun g1=>?_) (fun g1=>?_)
 ·have h1:i<l.length:=by simpa using g1
  have gs:(l.map fun s=>[strI s])[(i:Int).toNat]? = some [strI l[i]]:=zal (f:=fun s=>[strI s]) h1;have ht:l.take (i+1)=l.take i++[l[i]]:=List.take_succ_eq_append_getElem h1;rw[List.drop_eq_getElem_cons h1] at hno;simp only[nmsE,←ht] at hno;have hn:=fun O=>zdy O l[i] (hs _ (List.getElem_mem h1));have hc:∀O,zan Tryz.prog 124 [.i (.sl 1 i ((l.map fun s=>[strI s]).take i)),sD l[i]] O (bb (hasB (l.take i) l[i])) [] O:=fun O=>by
   rw[←zdO (fun s=>[strI s]) 1 hi];exact zcm O (l.take i) l[i] (by rw[List.length_take];simp only[zap];omega)
  unfold nmE at hno;generalize zaT l[i]=nb at *;generalize hasB (l.take i) l[i]=hb at *;generalize l[i]=x at *;refine zah Tk Tryz.func162 (by exact⟨by omega,by show (i:Int)<(l.length:Int);omega⟩) ?_;refine zaq Tk Tryz.func162 (gs) ?_;refine zak Tk Tryz.func162 (hn _) rfl rfl rfl rfl rfl ?_;refine zaf Tk Tryz.func162 rfl (fun c1=>?_) (fun c1=>?_)
  ·have c1:nb=false:=by simpa using c1
   rw[if_pos c1] at hno;rw[if_pos (by decide)] at hno;subst hno;refine zaj Tk (r:=ii 7) rfl rfl rfl trivial rfl rfl ?_;rfl
  have c1:¬nb=false:=by simpa using c1
  rw[if_neg c1] at hno;refine zah Tk Tryz.func162 (by exact⟨by omega,by show (i:Int)≤(l.length:Int);omega⟩) ?_;refine zak Tk Tryz.func162 (hc _) rfl rfl rfl rfl rfl ?_;refine zaf Tk Tryz.func162 rfl (fun c2=>?_) (fun c2=>?_)
  ·have c2:hb=true:=c2;rw[if_pos c2,if_pos (by decide)] at hno;subst hno;refine zaj Tk (r:=ii 8) rfl rfl rfl trivial rfl rfl ?_;rfl
  have c2:hb=false:=c2;rw[if_neg (zhd c2),if_neg (by decide)] at hno;refine zad ?_;exact ih (i+1) _ _ ⟨h1,hno⟩ (by omega) ⟨rfl,rfl,rfl,congrArg ii (zav (n:=1000001) (by omega) (by decide)),trivial⟩ rfl trivial rfl rfl
 ·have h1:l.length≤i:=by simpa using g1
  rw[List.drop_eq_nil_of_le h1] at hno;have hno:(0:Int)=R:=hno;subst hno;refine zaj Tk (r:=ii 0) rfl rfl rfl trivial rfl rfl ?_;rfl
structure tplOk (x:Tpl):Prop where
 nm:x.name.size≤zap
 ll:x.locs.length≤1000000
 ls:∀s∈x.locs,s.size≤zap
 el:x.evs.length≤1000000
 es:∀s∈x.evs,s.size≤zap
 mo:extOk x.mach
theorem zi5 {l:List Int} {n:Nat} (hl:l.length=n):l=(List.range n).map (fun k=>((k:Nat):Int))↔∀j (h:j<l.length),l[j]=(j:Int):=by
 constructor
 ·intro e j h;have:l[j]? = ((List.range n).map (fun k=>((k:Nat):Int)))[j]?:=by rw[←e]
  rw[List.getElem?_eq_getElem h,List.getElem?_map,List.getElem?_range (by omega)] at this;simpa using this
 ·intro h
  apply List.ext_getElem
  ·simp[hl]
  ·intro j h1 h2;rw[h j h1];simp
theorem zgs (O:List Heap) (x:Tpl) (hx:tplOk x):zan Tryz.prog 120 [tplD x] O (ii (tplE x)) [] O:=by
 have h1:=fun O=>zog O x.locs hx.ll hx.ls;have h2:=fun O=>zog O x.evs hx.el hx.es;have h3:=fun O=>zjN O x.mach hx.mo;have hal:=hx.mo.al;have hel:=hx.el;unfold tplE;generalize nmsE [] x.locs=e1 at *;generalize nmsE [] x.evs=e2 at *;generalize chk x.mach=e3 at *;obtain⟨nm,locs,evs,⟨al,lo,ini,mk,vr,mo⟩⟩:=x;simp only at h1 h2 h3 hal hel ⊢;refine zaa Tk Tryz.func120 rfl Tryz.call120 Tryz.ntmps120 (Nat.le_of_ble_eq_true rfl) fun E=>?_;refine zai Tk Tryz.func120 ?_;refine zaf Tk Tryz.func120 rfl (fun c1=>?_) (fun c1=>?_)
 ·have c1:(locs.length:Int)≠lo:=bneT c1;rw[if_pos c1];refine zaj Tk (r:=ii 4) rfl rfl rfl trivial rfl rfl ?_;rfl
 have c1:¬(locs.length:Int)≠lo:=fun h=>h (bneF c1);rw[if_neg c1];refine zak Tk Tryz.func120 (h1 _) rfl rfl rfl rfl rfl ?_;refine zaf Tk Tryz.func120 rfl (fun c2=>?_) (fun c2=>?_)
 ·have c2:e1≠0:=bneT c2;rw[if_pos c2];refine zaj Tk (r:=ii e1) rfl rfl rfl trivial rfl rfl ?_;rfl
 have c2:¬e1≠0:=fun h=>h (bneF c2);rw[if_neg c2];refine zak Tk Tryz.func120 (h2 _) rfl rfl rfl rfl rfl ?_;refine zaf Tk Tryz.func120 rfl (fun c3=>?_) (fun c3=>?_)
 ·have c3:e2≠0:=bneT c3;rw[if_pos c3];refine zaj Tk (r:=ii e2) rfl rfl rfl trivial rfl rfl ?_;rfl
 have c3:¬e2≠0:=fun h=>h (bneF c3);rw[if_neg c3];refine zaf Tk Tryz.func120 rfl (fun c4=>?_) (fun c4=>?_)
 ·have c4:(al.length:Int)≠(evs.length:Int):=bneT c4;rw[if_pos (by omega)];refine zaj Tk (r:=ii 6) rfl rfl rfl trivial rfl rfl ?_;rfl
 have c4:al.length=evs.length:=by have:(al.length:Int)=(evs.length:Int):=bneF c4;omega
 rw[if_neg (by omega)];refine zad ?_;refine zag (fun i:Nat=>[(1,.own 0 1 0 0),(36,ints al),(37,ii al.length),(38,ii i)]) (fun _=>[(1,.box (tplC ⟨nm,locs,evs,⟨al,lo,ini,mk,vr,mo⟩⟩))]) (fun _=>O) 50
  (fun i=>i≤al.length∧∀j (h:j<al.length),j<i→al[j]=(j:Int)) (fun i=>al.length-i) 0 ⟨Nat.zero_le _,fun j _ h=>absurd h (Nat.not_lt_zero _)⟩ ⟨rfl,rfl,rfl,rfl,trivial⟩ rfl ⟨rfl,trivial⟩ rfl rfl ?_
 rintro i ⟨hi,hno⟩ ih;refine zai Tk Tryz.func120 ?_;refine zaf Tk Tryz.func120 rfl (fun g1=>?_) (fun g1=>?_)
 ·have g1:i<al.length:=by simpa using g1
  have gx:(al.map fun x=>[vi x])[(i:Int).toNat]? = some [vi al[i]]:=zal (f:=fun x=>[vi x]) g1;refine zah Tk Tryz.func120 (by exact⟨by omega,by show (i:Int)<(al.length:Int);omega⟩) ?_;refine zaq Tk Tryz.func120 (gx) ?_;refine zaf Tk Tryz.func120 rfl (fun c5=>?_) (fun c5=>?_)
  ·have c5:al[i]≠(i:Int):=bneT c5;rw[if_pos fun e=>c5 ((zi5 c4).1 e i g1)];refine zaj Tk (r:=ii 6) rfl rfl rfl trivial rfl rfl ?_;rfl
  have c5:al[i]=(i:Int):=bneF c5;refine zad ?_;refine ih (i+1) _ _ ⟨g1,fun j hj h=>?_⟩ (by omega) ⟨rfl,rfl,rfl,congrArg ii (zav (n:=zap) (by omega) (by decide)),trivial⟩ rfl ⟨rfl,trivial⟩ rfl rfl
  by_cases e:j=i
  ·subst e;exact c5
  ·exact hno j hj (by omega)
 ·have g1:al.length≤i:=by simpa using g1
  rw[if_neg (fun h=>h ((zi5 c4).2 fun j hj=>hno j hj (by omega)))];refine zak Tk Tryz.func120 (h3 _) rfl rfl rfl rfl rfl ?_;refine zaj Tk (r:=ii e3) rfl rfl rfl trivial rfl rfl ?_;rfl
def namK (m:Mdl) (k:Int):List ByteArray:=
 if k=1 then m.evs.map (·.name) else if k=2 then m.tpls.map (·.name) else if k=3 then m.comps.map (·.name) else if k=4 then m.reqs.map (·.name) else if k=5 then m.excs.map (·.name) else if k=6 then m.cons.map (·.name) else []
abbrev fnd0 (R:Int):Int:=if R<0 then 0 else R
abbrev fndD (R:Int):D:=.tup [ii (fnd0 R),bb (decide (0≤R))]
structure szOk (m:Mdl):Prop where
 ev:m.evs.length≤1000000
 tp:m.tpls.length≤1000000
 co:m.comps.length≤1000000
 rq:m.reqs.length≤1000000
 ex:m.excs.length≤1000000
 cn:m.cons.length≤1000000
theorem zeB (O:List Heap) (m:Mdl) (k:Int) (s:ByteArray) (hm:szOk m):zan Tryz.prog 38 [mdlD m,ii k,sD s] O (fndD (nmIx (namK m k) s)) [] O:=by
 have i1:=fun O d nm ho=>zwg O m.evs 105 d nm (fun x=>sB x.name s) (by have:=hm.ev;simp only[zap];omega) fun x _=>zxY _ x s (d+1) nm (zaz ho);have i2:=fun O d nm ho=>zwf O m.tpls 107 d nm (fun x=>sB x.name s) (by have:=hm.tp;simp only[zap];omega) fun x _=>zxX _ x s (d+1) nm (zaz ho);have i3:=fun O d nm ho=>zov O m.comps 109 d nm (fun x=>sB x.name s) (by have:=hm.co;simp only[zap];omega) fun x _=>zxW _ x s (d+1) nm (zaz ho);have i4:=fun O d nm ho=>zov O m.reqs 110 d nm (fun x=>sB x.name s) (by have:=hm.rq;simp only[zap];omega) fun x _=>zxV _ x s (d+1) nm (zaz ho);have i5:=fun O d nm ho=>zwe O m.excs 112 d nm (fun x=>sB x.name s) (by have:=hm.ex;simp only[zap];omega) fun x _=>zxU _ x s (d+1) nm (zaz ho);have i6:=fun O d nm ho=>zwd O m.cons 114 d nm (fun x=>sB x.name s) (by have:=hm.cn;simp only[zap];omega) fun x _=>zxT _ x s (d+1) nm (zaz ho)
 have e1:nmIx (m.evs.map (·.name)) s=zau (fun x=>sB x.name s) m.evs 0:=zb4 (fun x=>sB x s) Evt.name _ _;have e2:nmIx (m.tpls.map (·.name)) s=zau (fun x=>sB x.name s) m.tpls 0:=zb4 (fun x=>sB x s) Tpl.name _ _;have e3:nmIx (m.comps.map (·.name)) s=zau (fun x=>sB x.name s) m.comps 0:=zb4 (fun x=>sB x s) Ins.name _ _;have e4:nmIx (m.reqs.map (·.name)) s=zau (fun x=>sB x.name s) m.reqs 0:=zb4 (fun x=>sB x s) Ins.name _ _;have e5:nmIx (m.excs.map (·.name)) s=zau (fun x=>sB x.name s) m.excs 0:=zb4 (fun x=>sB x s) NEx.name _ _;have e6:nmIx (m.cons.map (·.name)) s=zau (fun x=>sB x.name s) m.cons 0:=zb4 (fun x=>sB x s) NCn.name _ _;rw[←e1] at i1;rw[←e2] at i2;rw[←e3] at i3;rw[←e4] at i4;rw[←e5] at i5;rw[←e6] at i6;clear e1 e2 e3 e4 e5 e6;unfold namK;obtain⟨nm,evs,tpls,comps,reqs,excs,cons⟩:=m;simp only at i1 i2 i3 i4 i5 i6 ⊢
 refine zaa Tk Tryz.func38 rfl Tryz.call38 Tryz.ntmps38 (Nat.le_of_ble_eq_true rfl) fun E=>?_;refine zai Tk Tryz.func38 ?_;refine zaf Tk Tryz.func38 rfl (fun c1=>?_) (fun c1=>?_)
 ·have c1:k=1:=beqT c1;rw[if_pos c1];generalize nmIx (evs.map (·.name)) s=R at *;refine zak Tk Tryz.func38 (i1 _ 0 5 rfl) rfl rfl rfl rfl rfl ?_;refine zaj Tk (r:=fndD R) rfl rfl rfl trivial rfl rfl ?_;rfl
 have c1:¬k=1:=beqF c1;rw[if_neg c1];refine zaf Tk Tryz.func38 rfl (fun c2=>?_) (fun c2=>?_)
 ·have c2:k=2:=beqT c2;rw[if_pos c2];generalize nmIx (tpls.map (·.name)) s=R at *;refine zak Tk Tryz.func38 (i2 _ 0 5 rfl) rfl rfl rfl rfl rfl ?_;refine zaj Tk (r:=fndD R) rfl rfl rfl trivial rfl rfl ?_;rfl
 have c2:¬k=2:=beqF c2;rw[if_neg c2];refine zaf Tk Tryz.func38 rfl (fun c3=>?_) (fun c3=>?_)
 ·have c3:k=3:=beqT c3;rw[if_pos c3];generalize nmIx (comps.map (·.name)) s=R at *;refine zak Tk Tryz.func38 (i3 _ 0 5 rfl) rfl rfl rfl rfl rfl ?_;refine zaj Tk (r:=fndD R) rfl rfl rfl trivial rfl rfl ?_;rfl
 have c3:¬k=3:=beqF c3;rw[if_neg c3];refine zaf Tk Tryz.func38 rfl (fun c4=>?_) (fun c4=>?_)
 ·have c4:k=4:=beqT c4;rw[if_pos c4];generalize nmIx (reqs.map (·.name)) s=R at *;refine zak Tk Tryz.func38 (i4 _ 0 5 rfl) rfl rfl rfl rfl rfl ?_;refine zaj Tk (r:=fndD R) rfl rfl rfl trivial rfl rfl ?_;rfl
 have c4:¬k=4:=beqF c4;rw[if_neg c4];refine zaf Tk Tryz.func38 rfl (fun c5=>?_) (fun c5=>?_)
 ·have c5:k=5:=beqT c5;rw[if_pos c5];generalize nmIx (excs.map (·.name)) s=R at *;refine zak Tk Tryz.func38 (i5 _ 0 5 rfl) rfl rfl rfl rfl rfl ?_;refine zaj Tk (r:=fndD R) rfl rfl rfl trivial rfl rfl ?_;rfl
 have c5:¬k=5:=beqF c5;rw[if_neg c5];refine zaf Tk Tryz.func38 rfl (fun c6=>?_) (fun c6=>?_)
 ·have c6:k=6:=beqT c6;rw[if_pos c6];generalize nmIx (cons.map (·.name)) s=R at *;refine zak Tk Tryz.func38 (i6 _ 0 5 rfl) rfl rfl rfl rfl rfl ?_;refine zaj Tk (r:=fndD R) rfl rfl rfl trivial rfl rfl ?_;rfl
 have c6:¬k=6:=beqF c6;rw[if_neg c6];refine zaj Tk (r:=fndD (-1)) rfl rfl rfl trivial rfl rfl ?_;rfl
theorem zdG {α:Type} (nm:α→ByteArray) (l:List α) (s:ByteArray):(l.find? (fun x=>sB (nm x) s)=none∧nmIx (l.map nm) s = -1)∨∃(k:Nat) (e:α),l[k]? = some e∧l.find? (fun x=>sB (nm x) s)=some e∧nmIx (l.map nm) s=((k:Nat):Int):=by
 have e:nmIx (l.map nm) s=zau (fun x=>sB (nm x) s) l 0:=zb4 (fun x=>sB x s) nm l 0;rw[e];rcases zd5 (p:=fun x=>sB (nm x) s) l 0 with h|⟨k,x,h1,h2,h3⟩
 ·exact .inl h
 ·exact .inr ⟨k,x,h1,h2,by rw[h3,Nat.zero_add]⟩
theorem zon (O:List Heap) (n:Int):zan Tryz.prog 170 [ii n] O (bb (bigB n)) [] O:=by
 unfold bigB;refine zaa Tk Tryz.func170 rfl Tryz.call170 Tryz.ntmps170 (Nat.le_of_ble_eq_true rfl) fun E=>?_;refine zai Tk Tryz.func170 ?_;refine zaG Tk Tryz.func170 rfl (fun c1=>?_) (fun c1=>?_)
 ·rw[show decide (n>65536)=true from c1];refine zaj Tk (r:=bb true) rfl rfl rfl trivial rfl rfl ?_;rfl
 ·rw[show decide (n>65536)=false from c1];refine zaj Tk (r:=bb (decide (n < -65536))) rfl rfl rfl trivial rfl rfl ?_;rfl
theorem zgR (O:List Heap) (m:Mdl) (c k:Nat) (y:Ins) (t:Tpl) (hm:szOk m) (hy:m.comps[c]? = some y) (hk:nmIx (m.tpls.map (·.name)) y.tpl=(k:Int)) (ht:m.tpls[k]? = some t) :
  zan Tryz.prog 167 [mdlD m,ii c] O (tplD t) [] O:=by
 have hf:=fun O=>zeB O m 2 y.tpl hm;rw[show namK m 2=m.tpls.map (·.name) from rfl,hk] at hf;have hc:c<m.comps.length:=(List.getElem?_eq_some_iff.1 hy).1;have hkl:k<m.tpls.length:=(List.getElem?_eq_some_iff.1 ht).1;have gy:(m.comps.map insI)[(c:Int).toNat]? = some (insI y):=by rw[Int.toNat_natCast,List.getElem?_map,hy];rfl
 have gt:(m.tpls.map tplI)[(k:Int).toNat]? = some (tplI t):=by rw[Int.toNat_natCast,List.getElem?_map,ht];rfl
 rw[show fndD (k:Int)=.tup [ii k,bb true] from by simp[fndD,fnd0];omega] at hf;obtain⟨nm,evs,tpls,comps,reqs,excs,cons⟩:=m;simp only at hf hc hkl gy gt;refine zaa Tk Tryz.func167 rfl Tryz.call167 Tryz.ntmps167 (Nat.le_of_ble_eq_true rfl) fun E=>?_;refine zai Tk Tryz.func167 ?_;refine zat Tk Tryz.func167 zax rfl ?_;refine zar Tk (by exact⟨by omega,by show (c:Int)<(comps.length:Int);omega⟩) ?_;refine zay Tk (gy) ?_;refine zaF Tk (fun _=>hf _) rfl rfl rfl ?_;refine zaA Tk Tryz.func167 (by kernel_rfl) ?_;refine zah Tk Tryz.func167 (by exact⟨by omega,by show (k:Int)<(tpls.length:Int);omega⟩) ?_;refine zaq Tk Tryz.func167 (gt) ?_;refine zaj Tk (r:=tplD t) rfl rfl rfl trivial rfl rfl ?_;rfl
theorem zte {k:ByteArray} {c:Value} (h:keyB (.string k) c=true) (k':ByteArray):keyB (.string k') c=(k' == k):=by
 cases c with
 |string s=>
  have e1:k=s:=(zrj _ _).1 h;rw[e1];rfl
 |_=>simp[keyB] at h
theorem zhj {α:Type} (k:ByteArray) (v:α) (k':ByteArray):∀m:List (Value×α),zd1 (mset m (.string k) v) (.string k')=if k'=k then some v else zd1 m (.string k')
 |[]=>by
  simp only[mset,zd1];rw[show keyB (.string k') (.string k)=(k' == k) from rfl]
  by_cases h:k'=k
  ·rw[if_pos h,h,zum];rfl
  ·rw[if_neg h];have:(k' == k)=false:=by
    rw[Bool.eq_false_iff];exact fun e=>h ((zrj _ _).1 e)
   rw[this];rfl
 |(c,y)::r=>by
  simp only[mset]
  cases hk:keyB (.string k) c with
  |true=>
   simp only[cond_true,zd1];rw[zte hk,show keyB (.string k') (.string k)=(k' == k) from rfl]
   by_cases h:k'=k
   ·rw[if_pos h,h,zum];rfl
   ·rw[if_neg h];have:(k' == k)=false:=by
     rw[Bool.eq_false_iff];exact fun e=>h ((zrj _ _).1 e)
    rw[this];rfl
  |false=>
   simp only[cond_false,zd1];rw[zhj k v k' r]
   by_cases h:k'=k
   ·rw[if_pos h,if_pos h,h,hk];rfl
   ·rw[if_neg h,if_neg h]
theorem zlU (es:List (Value×Bool)) (k s:ByteArray):zji (mset es (.string k) true) (.string s)=(zji es (.string s)||sB k s):=by
 unfold zji;rw[zhj]
 by_cases h:s=k
 ·rw[if_pos h,h,zbP.2 rfl];simp
 ·have:sB k s=false:=by rw[Bool.eq_false_iff];exact fun e=>h (zbP.1 e).symm
  rw[if_neg h,this,Bool.or_false]
theorem ztw (b:List ByteArray) (k s:ByteArray):hasB (b++[k]) s=(hasB b s||sB k s):=by simp[hasB,List.any_append]
theorem zaI {α β:Type} (f:α→β) {l:List α} {i:Nat} (h:i<l.length):(l.take (i+1)).map f=(l.take i).map f++[f l[i]]:=by
 rw[List.take_succ_eq_append_getElem h,List.map_append];rfl
section
variable {B:List ByteArray} {nm:ByteArray} {c o f:Bool} {fl:Int}
theorem zz8 (hn:zaT nm=false):evE B ⟨nm,c,o,f,fl⟩=7:=by simp[evE,nmE,hn]
theorem zz7 (hn:¬zaT nm=false) (hb:hasB B nm=true):evE B ⟨nm,c,o,f,fl⟩=8:=by simp[evE,nmE,hn,hb]
theorem zzI (hn:¬zaT nm=false) (hb:hasB B nm=false) (h:fl<0∨fl>4):evE B ⟨nm,c,o,f,fl⟩=2:=by
 have e:nmE B nm=0:=by simp[nmE,hn,hb]
 unfold evE;simp only[e];rw[if_neg (by decide),if_pos h]
theorem zxe (hn:¬zaT nm=false) (hb:hasB B nm=false) (h:¬(fl<0∨fl>4)) (h2:fl≠0∧(c=true∨o=true)):evE B ⟨nm,c,o,f,fl⟩=13:=by
 have e:nmE B nm=0:=by simp[nmE,hn,hb]
 unfold evE;simp only[e];rw[if_neg (by decide),if_neg h,if_pos h2]
theorem zzJ (hn:¬zaT nm=false) (hb:hasB B nm=false) (h:¬(fl<0∨fl>4)) (h2:¬(fl≠0∧(c=true∨o=true))):evE B ⟨nm,c,o,f,fl⟩=0:=by
 have e:nmE B nm=0:=by simp[nmE,hn,hb]
 unfold evE;simp only[e];rw[if_neg (by decide),if_neg h,if_neg h2]
end
theorem zus (O:List Heap) (l:List Evt) (hl:l.length≤1000000) (hs:∀x∈l,x.name.size≤zap):zan Tryz.prog 46 [.i (za1 l)] O (ii (zjP l)) [] O:=by
 unfold zjP;generalize hR:evsE [] l=R;refine zaa Tk Tryz.func46 rfl Tryz.call46 Tryz.ntmps46 (Nat.le_of_ble_eq_true rfl) fun E=>?_;refine zai Tk Tryz.func46 ?_;refine zaf Tk Tryz.func46 rfl (fun c1=>?_) (fun c1=>?_)
 ·have c1:l.length>32:=by have:(l.length:Int)>32:=of_decide_eq_true c1;omega
  rw[if_pos c1];refine zaj Tk (r:=ii 3) rfl rfl rfl trivial rfl rfl ?_;rfl
 have c1:¬l.length>32:=by have:¬(l.length:Int)>32:=of_decide_eq_false c1;omega
 rw[if_neg c1];refine zad ?_;refine zag (fun x:Nat×List (Value×Bool)=>[(3,.osl 0 9),(10,.i (za1 l)),(11,ii l.length),(12,ii x.1)]) (fun x=>[(9,.mp .str (.b x.2))]) (fun _=>O) 51
  (fun x=>x.1≤l.length∧(∀s,zji x.2 (.string s)=hasB ((l.take x.1).map (·.name)) s)∧evsE ((l.take x.1).map (·.name)) (l.drop x.1)=R) (fun x=>l.length-x.1) (0,[]) ⟨Nat.zero_le _,fun s=>rfl,hR⟩ ⟨rfl,rfl,rfl,rfl,trivial⟩ rfl ⟨rfl,trivial⟩ rfl rfl ?_
 rintro ⟨i,es⟩ ⟨hi,hes,hno⟩ ih;simp only at hi hes hno;clear hR;refine zai Tk Tryz.func46 ?_;refine zaf Tk Tryz.func46 rfl (fun g1=>?_) (fun g1=>?_)
 ·have h1:i<l.length:=by simpa using g1
  have gs:(l.map evtI)[(i:Int).toNat]? = some (evtI l[i]):=zal (f:=evtI) h1;have ht:=zaI Evt.name h1;rw[List.drop_eq_getElem_cons h1] at hno;simp only[evsE,←ht] at hno;have hn:=fun O=>zdy O l[i].name (hs _ (List.getElem_mem h1));have hj1:ii (IntKind.i64.wrap ((i:Int)+1))=ii ((i+1:Nat):Int):=congrArg ii (zav (n:=1000001) (by omega) (by decide));have hes2:∀s,zji (mset es (.string l[i].name) true) (.string s)=hasB ((l.take (i+1)).map (·.name)) s:=fun s=>by rw[zlU,hes,ht,ztw]
  clear ht;generalize l[i]=x at *;obtain⟨nm,c,o,f,fl⟩:=x;simp only at hno hn hes2;have hh:=hes nm;generalize (l.take i).map (·.name)=B at *;generalize hq:zaT nm=nb at *;generalize hw:hasB B nm=hb at *;refine zah Tk Tryz.func46 (by exact⟨by omega,by show (i:Int)<(l.length:Int);omega⟩) ?_;refine zaq Tk Tryz.func46 (gs) ?_;refine zak Tk Tryz.func46 (hn _) rfl rfl rfl rfl rfl ?_;refine zaf Tk Tryz.func46 rfl (fun c2=>?_) (fun c2=>?_)
  ·have c2:nb=false:=by simpa using c2
   rw[zz8 (hq.trans c2),if_pos (by decide)] at hno;subst hno;refine zaj Tk (r:=ii 7) rfl rfl rfl trivial rfl rfl ?_;rfl
  have c2:¬zaT nm=false:=by rw[hq];simpa using c2
  refine zaf Tk Tryz.func46 rfl (fun c3=>?_) (fun c3=>?_)
  ·have c3:hb=true:=by rw[←hh];exact c3
   rw[zz7 c2 (hw.trans c3),if_pos (by decide)] at hno;subst hno;refine zaj Tk (r:=ii 8) rfl rfl rfl trivial rfl rfl ?_;rfl
  have c3:hasB B nm=false:=by rw[hw,←hh];exact c3
  refine zaG Tk Tryz.func46 rfl (fun c4=>?_) (fun c4=>?_)
  ·have c4:fl<0:=of_decide_eq_true c4;rw[zzI c2 c3 (.inl c4),if_pos (by decide)] at hno;subst hno;refine gcT Tk Tryz.func46 rfl ?_;refine zaj Tk (r:=ii 2) rfl rfl rfl trivial rfl rfl ?_;rfl
  have c4:¬fl<0:=of_decide_eq_false c4;refine zaf Tk Tryz.func46 rfl (fun c5=>?_) (fun c5=>?_)
  ·have c5:fl>4:=of_decide_eq_true c5;rw[zzI c2 c3 (.inr c5),if_pos (by decide)] at hno;subst hno;refine zaj Tk (r:=ii 2) rfl rfl rfl trivial rfl rfl ?_;rfl
  have c5:¬fl>4:=of_decide_eq_false c5;have c45:¬(fl<0∨fl>4):=by omega
  refine zaG Tk Tryz.func46 rfl (fun c6=>?_) (fun c6=>?_)
  ·have c6:fl≠0:=bneT c6;refine zaG Tk Tryz.func46 rfl (fun c7=>?_) (fun c7=>?_)
   ·have c7:c=true:=c7;rw[zxe c2 c3 c45 ⟨c6,.inl c7⟩,if_pos (by decide)] at hno;subst hno;refine gcT Tk Tryz.func46 rfl ?_;refine zaj Tk (r:=ii 13) rfl rfl rfl trivial rfl rfl ?_;rfl
   have c7:c=false:=c7;refine zaf Tk Tryz.func46 rfl (fun c8=>?_) (fun c8=>?_)
   ·have c8:o=true:=c8;rw[zxe c2 c3 c45 ⟨c6,.inr c8⟩,if_pos (by decide)] at hno;subst hno;refine zaj Tk (r:=ii 13) rfl rfl rfl trivial rfl rfl ?_;rfl
   have c8:o=false:=c8;rw[zzJ c2 c3 c45 (by rw[c7,c8];simp),if_neg (by decide)] at hno;refine zad ?_;exact ih (i+1,mset es (.string nm) true) _ _ ⟨h1,hes2,hno⟩ (by simp only;omega) ⟨rfl,rfl,rfl,hj1,trivial⟩ rfl ⟨rfl,trivial⟩ rfl rfl
  ·have c6:¬fl≠0:=fun h=>h (bneF c6);rw[zzJ c2 c3 c45 (fun h=>c6 h.1),if_neg (by decide)] at hno;refine gcF Tk Tryz.func46 rfl ?_;refine zad ?_;exact ih (i+1,mset es (.string nm) true) _ _ ⟨h1,hes2,hno⟩ (by simp only;omega) ⟨rfl,rfl,rfl,hj1,trivial⟩ rfl ⟨rfl,trivial⟩ rfl rfl
 ·have h1:l.length≤i:=by simpa using g1
  rw[List.drop_eq_nil_of_le h1] at hno;have hno:(0:Int)=R:=hno;subst hno;refine zaj Tk (r:=ii 0) rfl rfl rfl trivial rfl rfl ?_;rfl
structure insOk (x:Ins):Prop where
 nm:x.name.size≤zap
 el:x.evs.length≤1000000
theorem zfs (k:Nat):fndD (k:Int)=.tup [ii k,bb true]:=by
 have h:(0:Int)≤(k:Int):=by omega
 simp only[fndD,fnd0];rw[if_neg (by omega),decide_eq_true h]
theorem zd3 (l:List ByteArray) (s:ByteArray):hasB l s=decide (0≤nmIx l s):=(zbr (fun x=>sB x s) l 0).symm
theorem zgu (O:List Heap) (m:Mdl) (x:Ins) (hm:szOk m) (hx:x.evs.length≤1000000):zan Tryz.prog 121 [mdlD m,insD x] O (ii (insE m x)) [] O:=by
 have hf:=fun O=>zeB O m 2 x.tpl hm;rw[show namK m 2=m.tpls.map (·.name) from rfl] at hf;have hf1:=fun O s=>zeB O m 1 s hm;rw[show namK m 1=m.evs.map (·.name) from rfl] at hf1;unfold insE;rcases zdG Tpl.name m.tpls x.tpl with ⟨h1,h2⟩|⟨k,t,h1,h2,h3⟩
 ·rw[h2,show fndD (-1)=.tup [ii 0,bb false] from rfl] at hf;rw[h1];refine zaa Tk Tryz.func121 rfl Tryz.call121 Tryz.ntmps121 (Nat.le_of_ble_eq_true rfl) fun E=>?_;refine zai Tk Tryz.func121 ?_;refine zak Tk Tryz.func121 (hf _) rfl rfl rfl rfl rfl ?_;refine gcT Tk Tryz.func121 rfl ?_;refine zaj Tk (r:=ii 9) rfl rfl rfl trivial rfl rfl ?_;rfl
 rw[h3,zfs] at hf;rw[h2];clear h2 h3;simp only;have hkl:k<m.tpls.length:=(List.getElem?_eq_some_iff.1 h1).1;have gt:(m.tpls.map tplI)[(k:Int).toNat]? = some (tplI t):=by rw[Int.toNat_natCast,List.getElem?_map,h1];rfl
 clear h1;generalize hR:zdi m [] x.evs=R;obtain⟨xn,xt,xe⟩:=x;simp only at hf hR hx ⊢;refine zaa Tk Tryz.func121 rfl Tryz.call121 Tryz.ntmps121 (Nat.le_of_ble_eq_true rfl) fun E=>?_;refine zai Tk Tryz.func121 ?_;refine zak Tk Tryz.func121 (hf _) rfl rfl rfl rfl rfl ?_;refine gcF Tk Tryz.func121 rfl ?_;refine zat Tk Tryz.func121 zax rfl ?_;refine zar Tk (by exact⟨by omega,by show (k:Int)<(m.tpls.length:Int);omega⟩) ?_;refine zay Tk (gt) ?_;refine zaA Tk Tryz.func121 (by kernel_rfl) ?_;refine zaf Tk Tryz.func121 rfl (fun c1=>?_) (fun c1=>?_)
 ·have c1:(xe.length:Int)≠(t.evs.length:Int):=bneT c1;rw[if_pos (by omega)];refine zaj Tk (r:=ii 4) rfl rfl rfl trivial rfl rfl ?_;rfl
 have c1:(xe.length:Int)=(t.evs.length:Int):=bneF c1;rw[if_neg (by omega)];refine zad ?_;refine zag (fun i:Nat=>[(2,.own 0 2 0 0),(3,.own 0 3 0 0),(34,ssD xe),(35,ii xe.length),(36,ii i)]) (fun _=>[(2,.box (mdlC m)),(3,.box (insC ⟨xn,xt,xe⟩))]) (fun _=>O) 56
  (fun i=>i≤xe.length∧zdi m (xe.take i) (xe.drop i)=R) (fun i=>xe.length-i) 0 ⟨Nat.zero_le _,hR⟩ ⟨rfl,rfl,rfl,rfl,rfl,trivial⟩ rfl ⟨rfl,rfl,trivial⟩ rfl rfl ?_
 clear hR;rintro i ⟨hi,hno⟩ ih;refine zai Tk Tryz.func121 ?_;refine zaf Tk Tryz.func121 rfl (fun g1=>?_) (fun g1=>?_)
 ·have g1:i<xe.length:=by simpa using g1
  have gs:(xe.map fun s=>[strI s])[(i:Int).toNat]? = some [strI xe[i]]:=zal (f:=fun s=>[strI s]) g1;have ht:xe.take (i+1)=xe.take i++[xe[i]]:=List.take_succ_eq_append_getElem g1;rw[List.drop_eq_getElem_cons g1] at hno;simp only[zdi,←ht,zd3 (m.evs.map (·.name))] at hno;have hc:∀O,zan Tryz.prog 124 [.i (.sl 1 i ((xe.map fun s=>[strI s]).take i)),sD xe[i]] O (bb (hasB (xe.take i) xe[i])) [] O:=fun O=>by
   rw[←zdO (fun s=>[strI s]) 1 hi];exact zcm O (xe.take i) xe[i] (by rw[List.length_take];simp only[zap];omega)
  have hf2:=fun O=>hf1 O xe[i];clear hf1 ht;generalize hasB (xe.take i) xe[i]=hb at *;generalize nmIx (m.evs.map (·.name)) xe[i]=q at *;generalize xe[i]=s at *;refine zah Tk Tryz.func121 (by exact⟨by omega,by show (i:Int)<(xe.length:Int);omega⟩) ?_;refine zaq Tk Tryz.func121 (gs) ?_;refine zak Tk Tryz.func121 (hf2 _) rfl rfl rfl rfl rfl ?_;refine zaf Tk Tryz.func121 rfl (fun c2=>?_) (fun c2=>?_)
  ·have c2:decide (0≤q)=false:=by simpa using c2
   rw[if_pos c2] at hno;subst hno;refine zaj Tk (r:=ii 9) rfl rfl rfl trivial rfl rfl ?_;rfl
  have c2:¬decide (0≤q)=false:=by simpa using c2
  rw[if_neg c2] at hno;refine zah Tk Tryz.func121 (by exact⟨by omega,by show (i:Int)≤(xe.length:Int);omega⟩) ?_;refine zak Tk Tryz.func121 (hc _) rfl rfl rfl rfl rfl ?_;refine zaf Tk Tryz.func121 rfl (fun c3=>?_) (fun c3=>?_)
  ·have c3:hb=true:=c3;rw[if_pos c3] at hno;subst hno;refine zaj Tk (r:=ii 8) rfl rfl rfl trivial rfl rfl ?_;rfl
  have c3:hb=false:=c3;rw[if_neg (zhd c3)] at hno;refine zad ?_;exact ih (i+1) _ _ ⟨g1,hno⟩ (by omega) ⟨rfl,rfl,rfl,rfl,congrArg ii (zav (n:=1000001) (by omega) (by decide)),trivial⟩ rfl ⟨rfl,rfl,trivial⟩ rfl rfl
 ·have g1:xe.length≤i:=by simpa using g1
  rw[List.drop_eq_nil_of_le g1] at hno;have hno:(0:Int)=R:=hno;subst hno;refine zaj Tk (r:=ii 0) rfl rfl rfl trivial rfl rfl ?_;rfl
def lcsW (m:Mdl) (l:List NLc):Int:=if l.length=0 then 12 else lcsE m [] l
theorem zur {α:Type} (f:α→ByteArray) (l:List α) (s:ByteArray):(l.any fun y=>sB (f y) s)=hasB (l.map f) s:=by simp[hasB,List.any_map];rfl
theorem zh3 (O:List Heap) (m:Mdl) (l:List NLc) (hm:szOk m) (hl:l.length≤1000000) (hT:∀c∈m.comps,∃t,zbL m c=some t∧t.locs.length≤1000000):zan Tryz.prog 125 [mdlD m,.i (zkq l)] O (ii (lcsW m l)) [] O:=by
 unfold lcsW;have hf1:=fun O s=>zeB O m 3 s hm;rw[show namK m 3=m.comps.map (·.name) from rfl] at hf1;generalize hR:lcsE m [] l=R;refine zaa Tk Tryz.func125 rfl Tryz.call125 Tryz.ntmps125 (Nat.le_of_ble_eq_true rfl) fun E=>?_;refine zai Tk Tryz.func125 ?_;refine zaf Tk Tryz.func125 rfl (fun c1=>?_) (fun c1=>?_)
 ·have c1:l.length=0:=by have:(l.length:Int)=0:=beqT c1;omega
  rw[if_pos c1];refine zaj Tk (r:=ii 12) rfl rfl rfl trivial rfl rfl ?_;rfl
 have c1:¬l.length=0:=by have:¬(l.length:Int)=0:=beqF c1;omega
 rw[if_neg c1];refine zad ?_;refine zag (fun i:Nat=>[(1,.i (zkq l)),(2,.own 0 2 0 0),(12,.i (zkq l)),(13,ii l.length),(14,ii i)]) (fun _=>[(2,.box (mdlC m))]) (fun _=>O) 45
  (fun i=>i≤l.length∧lcsE m ((l.take i).map (·.1)) (l.drop i)=R) (fun i=>l.length-i) 0 ⟨Nat.zero_le _,hR⟩ ⟨rfl,rfl,rfl,rfl,rfl,trivial⟩ rfl ⟨rfl,trivial⟩ rfl rfl ?_
 clear hR;rintro i ⟨hi,hno⟩ ih;refine zai Tk Tryz.func125 ?_;refine zaf Tk Tryz.func125 rfl (fun g1=>?_) (fun g1=>?_)
 ·have g1:i<l.length:=by simpa using g1
  have gs:(l.map nlcI)[(i:Int).toNat]? = some (nlcI l[i]):=zal (f:=nlcI) g1;have ht:=zaI (fun x:NLc=>x.1) g1;rw[List.drop_eq_getElem_cons g1] at hno;simp only[lcsE,←ht] at hno;have hcc:∀S,zab S 0 6=some (.box [sD l[i].1,sD l[i].2])→zan Tryz.prog 165 [.i (.sl 2 i ((l.map nlcI).take i)),.fn (.func 166) [] [.own 0 6 0 0]] S (bb (hasB ((l.take i).map (·.1)) l[i].1)) [] S:=fun S ho=>by
   rw[←zdO nlcI 2 hi,←zur (fun y:NLc=>y.1)];exact zmt S (l.take i) 166 0 6 (fun y=>sB y.1 l[i].1) (by rw[List.length_take];simp only[zap];omega) (fun y _=>zxS _ y l[i].1 l[i].2 2 6 (zaz (zaz ho)))
  have hf2:=fun O=>hf1 O l[i].1;clear hf1;have hj1:ii (IntKind.i64.wrap ((i:Int)+1))=ii ((i+1:Nat):Int):=congrArg ii (zav (n:=1000001) (by omega) (by decide));generalize hasB ((l.take i).map (·.1)) l[i].1=hb at *;clear ht;generalize l[i]=x at *;obtain⟨cn,ln⟩:=x;simp only at hno hcc hf2;rcases zdG Ins.name m.comps cn with ⟨h1,h2⟩|⟨k,c,h1,h2,h3⟩
  ·rw[h2,show fndD (-1)=.tup [ii 0,bb false] from rfl] at hf2;rw[h1] at hno;simp only at hno;subst hno;refine zah Tk Tryz.func125 (by exact⟨by omega,by show (i:Int)<(l.length:Int);omega⟩) ?_;refine zaq Tk Tryz.func125 (gs) ?_;refine zak Tk Tryz.func125 (hf2 _) rfl rfl rfl rfl rfl ?_;refine gcT Tk Tryz.func125 rfl ?_;refine zaj Tk (r:=ii 9) rfl rfl rfl trivial rfl rfl ?_;rfl
  rw[h3,zfs] at hf2;rw[h2] at hno;simp only at hno;obtain⟨t,ht,htl⟩:=hT c (List.mem_of_getElem? h1);rw[ht] at hno;simp only at hno;unfold zbL at ht;rcases zdG Tpl.name m.tpls c.tpl with ⟨h4,_⟩|⟨k2,t',h4,h5,h6⟩
  ·rw[h4] at ht;cases ht
  rw[h5] at ht
  cases ht
  have h7:=fun O=>zgR O m k k2 c t hm h1 h6 h4;have h8:=fun O=>zcm O t.locs ln (by simp only[zap];omega);generalize hasB t.locs ln=hb2 at *;refine zah Tk Tryz.func125 (by exact⟨by omega,by show (i:Int)<(l.length:Int);omega⟩) ?_;refine zaq Tk Tryz.func125 (gs) ?_;refine zak Tk Tryz.func125 (hf2 _) rfl rfl rfl rfl rfl ?_;refine gcF Tk Tryz.func125 rfl ?_;refine zah Tk Tryz.func125 (by exact⟨by omega,by show (i:Int)≤(l.length:Int);omega⟩) ?_;refine zak Tk Tryz.func125 (hcc _ rfl) rfl rfl rfl rfl rfl ?_;refine zaf Tk Tryz.func125 rfl (fun c2=>?_) (fun c2=>?_)
  ·have c2:hb=true:=c2;rw[if_pos c2] at hno;subst hno;refine zaj Tk (r:=ii 8) rfl rfl rfl trivial rfl rfl ?_;rfl
  have c2:hb=false:=c2;rw[if_neg (zhd c2)] at hno;refine zat Tk Tryz.func125 zax rfl ?_;refine zaF Tk (fun _=>h7 _) rfl rfl rfl ?_;refine zaF Tk (fun _=>h8 _) rfl rfl rfl ?_;refine zaA Tk Tryz.func125 (by kernel_rfl) ?_;refine zaf Tk Tryz.func125 rfl (fun c3=>?_) (fun c3=>?_)
  ·have c3:hb2=false:=by simpa using c3
   rw[if_pos c3] at hno;subst hno;refine zaj Tk (r:=ii 9) rfl rfl rfl trivial rfl rfl ?_;rfl
  have c3:¬hb2=false:=by simpa using c3
  rw[if_neg c3] at hno;refine zad ?_;exact ih (i+1) _ _ ⟨g1,hno⟩ (by omega) ⟨rfl,rfl,rfl,rfl,hj1,trivial⟩ rfl ⟨rfl,trivial⟩ rfl rfl
 ·have g1:l.length≤i:=by simpa using g1
  rw[List.drop_eq_nil_of_le g1] at hno;have hno:(0:Int)=R:=hno;subst hno;refine zaj Tk (r:=ii 0) rfl rfl rfl trivial rfl rfl ?_;rfl
theorem zjM (O:List Heap) (m:Mdl) (x:NCn) (hm:szOk m) (hl:x.terms.length≤1000000):zan Tryz.prog 126 [mdlD m,ncnD x] O (ii (conE m x)) [] O:=by
 unfold conE;have hf1:=fun O s=>zeB O m 3 s hm;rw[show namK m 3=m.comps.map (·.name) from rfl] at hf1;obtain⟨xn,l,bd⟩:=x;simp only at hl ⊢;generalize hR:tmsE m [] l=R;have hlb:=fun O=>zon O bd;generalize bigB bd=big at *;refine zaa Tk Tryz.func126 rfl Tryz.call126 Tryz.ntmps126 (Nat.le_of_ble_eq_true rfl) fun E=>?_;refine zai Tk Tryz.func126 ?_;refine zaf Tk Tryz.func126 rfl (fun c1=>?_) (fun c1=>?_)
 ·have c1:l.length=0:=by have:(l.length:Int)=0:=beqT c1;omega
  rw[if_pos c1];refine zaj Tk (r:=ii 12) rfl rfl rfl trivial rfl rfl ?_;rfl
 have c1:¬l.length=0:=by have:¬(l.length:Int)=0:=beqF c1;omega
 rw[if_neg c1];refine zad ?_;refine zag (fun i:Nat=>[(2,.own 0 2 0 0),(3,.own 0 3 0 0),(14,.i (zya l)),(15,ii l.length),(16,ii i)]) (fun _=>[(2,.box (mdlC m)),(3,.box (ncnC ⟨xn,l,bd⟩))]) (fun _=>O) 51
  (fun i=>i≤l.length∧tmsE m ((l.take i).map (·.1)) (l.drop i)=R) (fun i=>l.length-i) 0 ⟨Nat.zero_le _,hR⟩ ⟨rfl,rfl,rfl,rfl,rfl,trivial⟩ rfl ⟨rfl,rfl,trivial⟩ rfl rfl ?_
 clear hR;rintro i ⟨hi,hno⟩ ih;refine zai Tk Tryz.func126 ?_;refine zaf Tk Tryz.func126 rfl (fun g1=>?_) (fun g1=>?_)
 ·have g1:i<l.length:=by simpa using g1
  have gs:(l.map ntmI)[(i:Int).toNat]? = some (ntmI l[i]):=zal (f:=ntmI) g1;have ht:=zaI (fun x:NTm=>x.1) g1;rw[List.drop_eq_getElem_cons g1] at hno;simp only[tmsE,←ht,zd3 (m.comps.map (·.name))] at hno;have hcc:∀S,zab S 0 6=some (.box [sD l[i].1,ii l[i].2])→zan Tryz.prog 168 [.i (.sl 2 i ((l.map ntmI).take i)),.fn (.func 169) [] [.own 0 6 0 0]] S (bb (hasB ((l.take i).map (·.1)) l[i].1)) [] S:=fun S ho=>by
   rw[←zdO ntmI 2 hi,←zur (fun y:NTm=>y.1)];exact zms S (l.take i) 169 0 6 (fun y=>sB y.1 l[i].1) (by rw[List.length_take];simp only[zap];omega) (fun y _=>zxR _ y l[i].1 l[i].2 2 6 (zaz (zaz ho)))
  have hf2:=fun O=>hf1 O l[i].1;have hlg:=fun O=>zon O l[i].2;clear hf1;have hj1:ii (IntKind.i64.wrap ((i:Int)+1))=ii ((i+1:Nat):Int):=congrArg ii (zav (n:=1000001) (by omega) (by decide));generalize hasB ((l.take i).map (·.1)) l[i].1=hb at *;generalize nmIx (m.comps.map (·.name)) l[i].1=q at *;clear ht;generalize l[i]=x at *;obtain⟨cn,fc⟩:=x;simp only at hno hcc hf2 hlg;generalize bigB fc=bg at *;refine zah Tk Tryz.func126 (by exact⟨by omega,by show (i:Int)<(l.length:Int);omega⟩) ?_;refine zaq Tk Tryz.func126 (gs) ?_;refine zak Tk Tryz.func126 (hf2 _) rfl rfl rfl rfl rfl ?_;refine zaf Tk Tryz.func126 rfl (fun c2=>?_) (fun c2=>?_)
  ·have c2:decide (0≤q)=false:=by simpa using c2
   rw[if_pos c2] at hno;subst hno;rw[if_pos (by decide)];refine zaj Tk (r:=ii 9) rfl rfl rfl trivial rfl rfl ?_;rfl
  have c2:¬decide (0≤q)=false:=by simpa using c2
  rw[if_neg c2] at hno;refine zah Tk Tryz.func126 (by exact⟨by omega,by show (i:Int)≤(l.length:Int);omega⟩) ?_;refine zak Tk Tryz.func126 (hcc _ rfl) rfl rfl rfl rfl rfl ?_;refine zaf Tk Tryz.func126 rfl (fun c3=>?_) (fun c3=>?_)
  ·have c3:hb=true:=c3;rw[if_pos c3] at hno;subst hno;rw[if_pos (by decide)];refine zaj Tk (r:=ii 8) rfl rfl rfl trivial rfl rfl ?_;rfl
  have c3:hb=false:=c3;rw[if_neg (zhd c3)] at hno;refine zaG Tk Tryz.func126 rfl (fun c4=>?_) (fun c4=>?_)
  ·have c4:fc=0:=beqT c4;rw[if_pos (.inl c4)] at hno;subst hno;rw[if_pos (by decide)];refine gcT Tk Tryz.func126 rfl ?_;refine zaj Tk (r:=ii 2) rfl rfl rfl trivial rfl rfl ?_;rfl
  have c4:¬fc=0:=beqF c4;refine zak Tk Tryz.func126 (hlg _) rfl rfl rfl rfl rfl ?_;refine zaf Tk Tryz.func126 rfl (fun c5=>?_) (fun c5=>?_)
  ·have c5:bg=true:=c5;rw[if_pos (.inr c5)] at hno;subst hno;rw[if_pos (by decide)];refine zaj Tk (r:=ii 2) rfl rfl rfl trivial rfl rfl ?_;rfl
  have c5:bg=false:=c5;rw[if_neg (by rw[c5];simp[c4])] at hno;refine zad ?_;exact ih (i+1) _ _ ⟨g1,hno⟩ (by omega) ⟨rfl,rfl,rfl,rfl,hj1,trivial⟩ rfl ⟨rfl,rfl,trivial⟩ rfl rfl
 ·have g1:l.length≤i:=by simpa using g1
  rw[List.drop_eq_nil_of_le g1] at hno;have hno:(0:Int)=R:=hno;subst hno;rw[if_neg (by decide)];refine zak Tk Tryz.func126 (hlb _) rfl rfl rfl rfl rfl ?_;refine zaf Tk Tryz.func126 rfl (fun c2=>?_) (fun c2=>?_)
  ·have c2:big=true:=c2;rw[if_pos c2];refine zaj Tk (r:=ii 2) rfl rfl rfl trivial rfl rfl ?_;rfl
  have c2:big=false:=c2;rw[if_neg (zhd c2)];refine zaj Tk (r:=ii 0) rfl rfl rfl trivial rfl rfl ?_;rfl
end Go.AI
namespace Go.AI
open Go.Proofs
inductive FrzB (nm:Nat) (d:I):List D→List D→Prop
 |nil:FrzB nm d [] []
 |i {x:I} {l m:List D}:FrzB nm d l m→FrzB nm d (.i x::l) (.i x::m)
 |f {k:FuncId} {l m:List D}:FrzB nm d l m→FrzB nm d (.fn (.func k) [] []::l) (.fn (.func k) [] []::m)
 |osl {l m:List D}:FrzB nm d l m→FrzB nm d (.osl 0 nm::l) (.i d::m)
theorem FrzB.rep {K K':Kn} {ρ:Nat→Nat→Loc} {sh sh':Nat→Nat→Option Sh} {nm es n:Nat} {xs:List (List I)} (hle:K.le K') (hs:sh 0 nm=some (.arr es n)) (hr:Rep K' (.slice (ρ 0 nm).base n (ρ 0 nm).cap) (.sl es n xs)) :
  ∀{a b:List D},FrzB nm (.sl es n xs) a b→∀{vs:List Value},RepDL K ρ sh vs a→RepDL K' ρ sh' vs b:=by
 intro a b h
 induction h with
 |nil=>
  intro vs r
  cases r
  exact .nil
 |i _ ih=>
  intro vs r
  cases r with
  |cons r rs=>cases r with
   |i r=>exact .cons (.i (r.mono hle)) (ih rs)
 |f _ ih=>
  intro vs r
  cases r with
  |cons r rs=>cases r with
   |fn h1 h2=>
    cases h1
    cases h2
    exact .cons (.fn .nil .nil) (ih rs)
 |osl _ ih=>
  intro vs r
  cases r with
  |cons r rs=>
   have:=zc6 r hs;subst this;exact .cons (.i hr) (ih rs)
theorem zbu {c:Cx} {s:St} {o:Oper} {f:FuncId} {args dargs:List D} {res:D} {t nm ty es n:Nat} {xs:List (List I)} {wr:Bool} {H:Heap} {O:List Heap}
  (hspec:zan c.P f dargs [] res [] []) (hsh:Shut res) (ha:FrzB nm (.sl es n xs) args dargs) (ht:o.dst=some t) (hn:t<s.n) (hS:s.S=H::O) (hl:look H nm=some (.arr ty es n xs wr)) :
  Wp c o s f args {σ:=(t,res)::s.σ,S:=s.S,n:=s.n}:=by
 intro K ρ a w hi ⟨vs,hrun,hrep⟩ next Qe hnext
 have hh:=hi.h;rw[hS] at hh hrep;obtain⟨K',hle,hF⟩:=hh.freeze hl;have hown:=hF.own 0 nm (.arr ty es n xs false) (by simp[zab,zac]);have hrd:RepDL K' ρ (shape []) vs dargs:=FrzB.rep hle (by simp[shape,zab,hl,Ob.sh]) (zdb hown) ha hrep;have hE:HInv {K0:=K',ρ0:=fun d=>ρ (d+1),w0:=w,pr:=fun b=>b<w.heap.size,lt:=fun _ h=>h} K' ρ [] w:=
  ⟨hF.holds,fun _ _ _ e=>by simp[zab] at e,fun _ _ _ _ _ _ e=>by simp[zab] at e,Nat.le_refl _,fun _ _ _=>rfl,fun _ _ e=>by simp[zab] at e,fun _=>rfl,K'.le_refl,fun _ _ _ h=>.inl h,⟨rfl,rfl,rfl⟩⟩
 have fin:∀v w',(∃K2 ρ2,HInv (.of K' ρ w) K2 ρ2 ([]::[]) w'∧RepD K2 ρ2 (shape ([]::[])) v res)→next (a.put o.dst v) w':=by
  intro v w' ⟨K2,ρ2,h1,h2⟩;have hold:∀b,b<w.heap.size→w'.heap[b]? = w.heap[b]?:=fun b hb=>h1.old b hb fun d n ob e=>by simp[zab] at e
  have hg:Grow K ρ s.S w [] K ρ w':=by
   refine⟨K.le_refl,fun _ _ _ h=>.inl h,h1.size,hold,h1.rest,fun _ _ _=>rfl,fun b o x hx=>?_,fun _ _ h=>by simp[look] at h,fun _ _ _ _ h=>by simp[look] at h⟩;have h3:=hh.holds _ _ _ hx;have hb:b<w.heap.size:=by
    rcases Nat.lt_or_ge b w.heap.size with h|h
    ·exact h
    ·rw[hh.K_fresh h] at hx;cases hx
   rw[World.cell?,hold b hb];exact h3
  have hi0:=hi.h;obtain⟨hI,hst⟩:=HInv.grow (S:=s.S) hS hi0 (fun _ _ _ e=>e) (fun _ h=>by simp[look] at h) hg;have e0:addS s.S []=s.S:=by rw[hS];rfl
  rw[e0] at hI hst;refine hnext v w' K ρ ?_;rw[ht];refine⟨hI,hi.defers,by simp[Act.put];exact hi.size,fun t' d' e'=>?_⟩;rw[zcB (by rw[hi.size];exact hn)];simp only[zac] at e'
  split at e'
  ·rename_i e2;simp only[Option.some.injEq] at e';subst e';rw[if_pos e2];exact hsh _ _ _ _ _ _ _ h2
  ·rename_i e2;rw[if_neg e2];exact hi.slots _ _ e'
 rcases hspec _ K' ρ w vs hE hrd with ⟨h1,h2⟩|⟨v,w',h1,h2⟩
 ·rw[h1] at hrun;simp only[Oper.wp,hrun,Oper.upon];refine h2.mono ?_;rintro e w' ⟨v,rfl,hR⟩;exact fin v w' hR
 ·rw[h1] at hrun;simp only[Oper.wp,hrun,Oper.upon];exact fin v w' h2
end Go.AI
namespace Go.AI
def Ob.ren (a b:Nat):Ob→Ob
 |.box cs=>.box (D.rens a b cs)
 |.tb T cs=>.tb T (D.rens a b cs)
 |.arr ty es n xs wr=>.arr ty es n xs wr
 |.mp k m=>.mp k m
theorem Ob.ren_sh (a b:Nat) (o:Ob):(o.ren a b).sh=o.sh:=by cases o<;>rfl
theorem zri {a b:Nat} {l:Loc} {o:Ob}:zaC l (o.ren a b)↔zaC l o:=by cases o<;>exact Iff.rfl
def renB (a b:Nat):Heap→Heap
 |[]=>[]
 |(k,o)::r=>(renN a b k,o.ren a b)::renB a b r
theorem zkz {a b n:Nat} {o:Ob}:∀{H:Heap},look H b=none→look (renB a b H) n=some o→∃n0 o0,n=renN a b n0∧look H n0=some o0∧o=o0.ren a b
 |[],_,h=>by simp[renB,look] at h
 |(k,x)::r,hb,h=>by
  rw[zac] at hb
  split at hb
  ·cases hb
  ·rename_i hkb;simp only[renB] at h;rw[zac] at h
   split at h
   ·rename_i e;simp only[Option.some.injEq] at h;exact⟨k,x,e.symm,by rw[zac,if_pos rfl],h.symm⟩
   ·rename_i e;obtain⟨n0,o0,h1,h2,h3⟩:=zkz hb h;refine⟨n0,o0,h1,?_,h3⟩;rw[zac,if_neg]
    ·exact h2
    ·intro e2;subst e2;exact e h1.symm
theorem ziq {a b n0:Nat} {o:Ob}:∀{H:Heap},look H b=none→look H n0=some o→look (renB a b H) (renN a b n0)=some (o.ren a b)
 |[],_,h=>by simp[look] at h
 |(k,x)::r,hb,h=>by
  rw[zac] at hb
  split at hb
  ·cases hb
  ·rename_i hkb;rw[zac] at h;simp only[renB];rw[zac]
   split at h
   ·rename_i e;subst e;rw[if_pos rfl];simp only[Option.some.injEq] at h;rw[h]
   ·rename_i e;rw[if_neg]
    ·exact ziq hb h
    ·intro e2
     by_cases h1:k=a
     ·subst h1;rw[zdc,zdU (Ne.symm e)] at e2;subst e2;rw[hb] at h;cases h
     ·rw[zdU h1] at e2
      by_cases h2:n0=a
      ·subst h2;rw[zdc] at e2;exact hkb e2
      ·rw[zdU h2] at e2;exact e e2
section
variable {c:Cx} {s:St} {H:Heap} {O:List Heap}
theorem zxt (a b:Nat) (hS:s.S=H::O) (hb:look H b=none):Wk c s {σ:=renσ a b s.σ,S:=renB a b H::O,n:=s.n}:=by
 intro K ρ act w hi;have hh:=hi.h;rw[hS] at hh
 let ρ':Nat→Nat→Loc:=upd ρ b (ρ 0 a)
 have hρ:∀n0 o,look H n0=some o→ρ' 0 (renN a b n0)=ρ 0 n0:=by
  intro n0 o h
  by_cases h1:n0=a
  ·subst h1;rw[zdc];exact zaP _ _ _
  ·rw[zdU h1];exact zaL _ _ _ (.inr fun e=>by subst e;rw[hb] at h;cases h)
 have r1:∀d n,ρ' (d+1) n=ρ (d+1) n:=fun d n=>zaL _ _ _ (.inl (by omega));have hren:Ren a b ρ ρ' (shape (H::O)) (shape (renB a b H::O)):=by
  refine⟨fun n x e=>?_,fun d n x e=>⟨by simpa [shape,zab] using e,r1 d n⟩⟩;simp only[shape,zab,List.getElem?_cons_zero] at e ⊢
  cases hl:look H n with
  |none=>simp[hl] at e
  |some o=>
   rw[ziq hb hl];refine⟨?_,hρ _ _ hl⟩;simp only[hl,Option.map_some] at e ⊢;rw[Ob.ren_sh];exact e
 have hmv:Moves (fun _=>false) K K ρ ρ' (shape (H::O)) (shape (renB a b H::O)):=⟨K.le_refl,fun _ _ h=>(by cases h),hren.s⟩;have hcase:∀d n o,zab (renB a b H::O) d n=some o→∃n0 o0,zab (H::O) d n0=some o0∧ρ' d n=ρ d n0∧(d=0→n=renN a b n0∧o=o0.ren a b)∧(d≠0→n=n0∧o=o0)∧(∀l,zaC l o↔zaC l o0):=by
  intro d n o e
  cases d with
  |zero=>
   obtain⟨n0,o0,rfl,h2,rfl⟩:=zkz hb (by simpa [zab] using e);exact⟨n0,o0,by simpa [zab] using h2,hρ _ _ h2,fun _=>⟨rfl,rfl⟩,fun h=>absurd rfl h,fun l=>zri⟩
  |succ d=>exact⟨n,o,by simpa [zab] using e,r1 _ _,fun h=>absurd h (Nat.succ_ne_zero d),fun _=>⟨rfl,rfl⟩,fun l=>Iff.rfl⟩
 have e0:∀f:Nat→Nat→Loc,(fun d n=>f (0+d) n)=f:=by intro f;funext d n;rw[Nat.zero_add]
 refine⟨K,ρ',⟨hh.holds,?_,?_,hh.size,?_,?_,?_,hh.Kle,hh.Knew,hh.rest⟩,hi.defers,hi.size,fun t d e=>?_⟩
 ·intro d n o e;obtain⟨n0,o0,h1,h2,h3,h4,_⟩:=hcase d n o e;have h0:=hh.own _ _ _ h1;rw[h2]
  cases d with
  |zero=>
   obtain⟨rfl,rfl⟩:=h3 rfl;rw[e0] at h0 ⊢
   cases o0 with
   |box cs=>
    obtain⟨c',T,q1,q2,q3⟩:=h0;exact⟨c',T,q1,RepDL.ren hren q2,q3⟩
   |tb T cs=>
    obtain⟨c',q1,q2,q3⟩:=h0;exact⟨c',q1,RepDL.ren hren q2,q3⟩
   |arr=>exact h0
   |mp=>exact h0
  |succ d=>
   obtain⟨rfl,rfl⟩:=h4 (Nat.succ_ne_zero d);have e1:(fun d' n=>ρ' (d+1+d') n)=fun d' n=>ρ (d+1+d') n:=by
    funext d' n;rw[show d+1+d'=(d+d')+1 by omega,r1]
   rw[e1];simpa using h0
 ·intro d n o d2 n2 o2 e e2 b1 b2 hbe;obtain⟨m1,p1,a1,a2,a3,a4,a5⟩:=hcase d n o e;obtain⟨m2,p2,c1,c2,c3,c4,c5⟩:=hcase d2 n2 o2 e2;rw[a2] at b1 hbe;rw[c2] at b2 hbe;obtain⟨rfl,rfl⟩:=hh.inj _ _ _ _ _ _ a1 c1 ((a5 _).1 b1) ((c5 _).1 b2) hbe;refine⟨rfl,?_⟩
  by_cases h:d=0
  ·rw[(a3 h).1,(c3 h).1]
  ·rw[(a4 h).1,(c4 h).1]
 ·intro b' hb' hno;refine hh.old b' hb' fun d n o e hbk=>?_;have:=hno d n o (by simpa [zab] using e) (by rw[r1];exact hbk);rwa [r1] at this
 ·intro n o e hbk;obtain⟨n0,o0,h1,h2,_,_,h5⟩:=hcase 0 n o e;rw[h2] at hbk ⊢;exact hh.loc _ _ h1 ((h5 _).1 hbk)
 ·intro d;funext n;rw[r1,hh.outer]
 ·simp only[zfi] at e
  cases hl:look s.σ t with
  |none=>simp[hl] at e
  |some d0=>
   simp only[hl,Option.map_some,Option.some.injEq] at e;subst e;have:=hi.slots _ _ hl;rw[hS] at this;exact this.ren hren
end
end Go.AI
namespace Go.AI
open Go.Proofs
set_option maxRecDepth 20000
abbrev oss (l:List ByteArray):Ob:=.arr 9 1 l.length (l.map fun s=>[strI s]) true
abbrev plcD (p:Plc×Int):D:=.tup [.agg [ii p.1.1,ii p.1.2],ii p.2]
abbrev plcN:Ob:=.box [ii 0,ii 0]
structure mdlOk (m:Mdl):Prop extends szOk m where
 nm:m.name.size≤zap
 evn:∀x∈m.evs,x.name.size≤zap
 tpk:∀x∈m.tpls,tplOk x
 cok:∀x∈m.comps,insOk x
 rqk:∀x∈m.reqs,insOk x
 exk:∀x∈m.excs,x.name.size≤zap∧x.locals.length≤1000000
 cnk:∀x∈m.cons,x.name.size≤zap∧x.terms.length≤1000000
def chkT (m:Mdl):Plc×Int:=if m.tpls.length>16 then ((2,16),3) else plc 2 (za6 Tpl.name tplE [] m.tpls 0) ((0,0),0) id
def chkI (m:Mdl):Plc×Int:=
 if m.comps.length=0 then ((3,0),12) else if m.comps.length>8 then ((3,8),3) else if m.comps.length+m.reqs.length>12 then ((4,12-(m.comps.length:Int)),3) else
 plc 3 (za6 Ins.name (insE m) [] m.comps 0) (plc 4 (za6 Ins.name (reqE m) (m.comps.map (·.name)) m.reqs 0) ((0,0),0) id) id
def chkC (m:Mdl):Plc×Int:=
 if m.excs.length>32 then ((5,32),3) else plc 5 (za6 NEx.name (excE m) [] m.excs 0) (if m.cons.length>32 then ((6,32),3) else plc 6 (za6 NCn.name (conE m) [] m.cons 0) ((0,0),0) id) id
theorem za8 (b:List ByteArray) (s:ByteArray):Ob.arr 9 1 (b.length+1) ((b.map fun s=>[strI s])++[[strI s]]) true=oss (b++[s]):=by simp[oss]
theorem zx7 (b c:List ByteArray):Ob.arr 9 1 (b.length+c.length) ((b.map fun s=>[strI s])++(c.map fun s=>[strI s])) true=oss (b++c):=by simp[oss]
theorem zfl (O:List Heap) (b:List ByteArray) (s:ByteArray) (hl:b.length≤1000000) (hs:s.size≤zap):zan Tryz.prog 119 [.i (.sl 1 (b.length+1) ((b.map fun s=>[strI s])++[[strI s]]))] O (ii (nmE b s)) [] O:=by
 have e:ssD (b++[s])=.i (.sl 1 (b.length+1) ((b.map fun s=>[strI s])++[[strI s]])):=by simp
 rw[←e];exact zyw O b s hl hs
theorem zgr (O:List Heap) (m:Mdl) (hm:mdlOk m):zan Tryz.prog 47 [mdlD m] O (plcD (chkT m)) [] O:=by
 have hlt:=hm.tp;have hk:=hm.tpk;unfold chkT;generalize hR:za6 Tpl.name tplE [] m.tpls 0=R;obtain⟨nm,evs,l,comps,reqs,excs,cons⟩:=m;simp only at hlt hk hR ⊢;refine zaN [200027] Tk Tryz.func47 rfl Tryz.call47 Tryz.ntmps47 (Nat.le_of_ble_eq_true rfl) fun E=>?_;refine zai Tk Tryz.func47 ?_;refine zaf Tk Tryz.func47 rfl (fun c1=>?_) (fun c1=>?_)
 ·have c1:l.length>16:=by have:(l.length:Int)>16:=of_decide_eq_true c1;omega
  rw[if_pos c1];refine zaj Tk (r:=plcD ((2,16),3)) rfl rfl rfl trivial rfl rfl ?_;rfl
 have c1:¬l.length>16:=by have:¬(l.length:Int)>16:=of_decide_eq_false c1;omega
 rw[if_neg c1];refine g_wk (zbk 4 25 9 1 rfl rfl rfl) ?_;refine zad ?_;refine zag (fun x:Nat×List ByteArray=>[(1,.own 0 1 0 0),(2,.own 0 2 0 0),(4,.osl 0 25),(14,.i (zcI l)),(15,ii l.length),(16,ii x.1)]) (fun x=>[(1,.box (mdlC ⟨nm,evs,l,comps,reqs,excs,cons⟩)),(2,plcN),(25,oss x.2)]) (fun _=>O) 39
  (fun x=>x.1≤l.length∧x.2.length=x.1∧za6 Tpl.name tplE x.2 (l.drop x.1) x.1=R) (fun x=>l.length-x.1) (0,[]) ⟨Nat.zero_le _,rfl,hR⟩ ⟨rfl,rfl,rfl,rfl,rfl,rfl,trivial⟩ rfl ⟨rfl,rfl,rfl,trivial⟩ rfl rfl ?_
 clear hR;rintro ⟨i,b⟩ ⟨hi,hb,hno⟩ ih;simp only at hi hb hno;refine zai Tk Tryz.func47 ?_;refine zaf Tk Tryz.func47 rfl (fun g1=>?_) (fun g1=>?_)
 ·have g1:i<l.length:=by simpa using g1
  have gs:(l.map tplI)[(i:Int).toNat]? = some (tplI l[i]):=zal (f:=tplI) g1;have hxk:=hk l[i] (List.getElem_mem g1);rw[List.drop_eq_getElem_cons g1] at hno;simp only[za6] at hno;have hj1:ii (IntKind.i64.wrap ((i:Int)+1))=ii ((i+1:Nat):Int):=congrArg ii (zav (n:=1000001) (by omega) (by decide));generalize l[i]=x at *;have h1:=zfl [] b x.name (by omega) hxk.nm;have h2:=fun O=>zgs O x hxk;obtain⟨xn,xl,xe,xm⟩:=x;simp only at hno h1 h2;generalize nmE b xn=e1 at *;generalize tplE ⟨xn,xl,xe,xm⟩=e2 at *;refine zah Tk Tryz.func47 (by exact⟨by omega,by show (i:Int)<(l.length:Int);omega⟩) ?_;refine zaq Tk Tryz.func47 (gs) ?_;refine zah Tk Tryz.func47 (by exact⟨by show (b.length+1)*16≤140737488355328;omega,by show b.length+1≤9223372036854775807;omega⟩) ?_;refine zb1 Tk Tryz.func47 rfl rfl rfl rfl (zbu h1 (zex _) (.osl .nil) rfl (show 27<39 by decide) rfl rfl) ?_
  refine zaf Tk Tryz.func47 rfl (fun c2=>?_) (fun c2=>?_)
  ·have c2:e1=0:=beqT c2;rw[if_neg (fun h=>h c2)] at hno;refine zak Tk Tryz.func47 (h2 _) rfl rfl rfl rfl rfl ?_;refine zaf Tk Tryz.func47 rfl (fun c3=>?_) (fun c3=>?_)
   ·have c3:e2≠0:=bneT c3;rw[if_pos c3] at hno;subst hno;refine zaj Tk (r:=plcD ((2,i),e2)) rfl rfl rfl trivial rfl rfl ?_;rfl
   have c3:¬e2≠0:=fun h=>h (bneF c3);rw[if_neg c3] at hno;refine zad ?_;exact ih (i+1,b++[xn]) _ _ ⟨g1,by simp[hb],hno⟩ (by simp only;omega) ⟨rfl,rfl,rfl,rfl,rfl,hj1,trivial⟩ rfl ⟨rfl,rfl,congrArg some (za8 b xn),trivial⟩ rfl rfl
  have c2:e1≠0:=beqF c2;rw[if_pos c2] at hno;subst hno;refine zaf Tk Tryz.func47 rfl (fun _=>?_) (fun h=>absurd h (by simpa using c2));refine zaj Tk (r:=plcD ((2,i),e1)) rfl rfl rfl trivial rfl rfl ?_;rfl
 ·have g1:l.length≤i:=by simpa using g1
  rw[List.drop_eq_nil_of_le g1] at hno;have hno:none=R:=hno;subst hno;refine zaj Tk (r:=plcD ((0,0),0)) rfl rfl rfl trivial rfl rfl ?_;rfl
theorem zf9 (O:List Heap) (m:Mdl) (hm:mdlOk m) (hT:∀c∈m.comps,∃t,zbL m c=some t∧t.locs.length≤1000000):zan Tryz.prog 49 [mdlD m] O (plcD (chkC m)) [] O:=by
 have hlt:=hm.ex;have hct:=hm.cn;have hk:=hm.exk;have hck:=hm.cnk;have hL:=fun O l hl=>zh3 O m l hm.toszOk hl hT;have hC:=fun O x hx=>zjM O m x hm.toszOk hx;unfold chkC;have hxe:∀x:NEx,lcsW m x.locals=excE m x:=fun x=>rfl;generalize excE m=fE at *;generalize conE m=fC at *;generalize hR2:(if m.cons.length>32 then (((6,32),3):Plc×Int) else plc 6 (za6 NCn.name fC [] m.cons 0) ((0,0),0) id)=R2;generalize hR:za6 NEx.name fE [] m.excs 0=R;obtain⟨nm,evs,tpls,comps,reqs,l,cl⟩:=m;simp only at hlt hct hk hck hR hR2 ⊢;refine zaN [200030,200062] Tk Tryz.func49 rfl Tryz.call49 Tryz.ntmps49 (Nat.le_of_ble_eq_true rfl) fun E=>?_;refine zai Tk Tryz.func49 ?_;refine zaf Tk Tryz.func49 rfl (fun c1=>?_) (fun c1=>?_)
 ·have c1:l.length>32:=by have:(l.length:Int)>32:=of_decide_eq_true c1;omega
  rw[if_pos c1];refine zaj Tk (r:=plcD ((5,32),3)) rfl rfl rfl trivial rfl rfl ?_;rfl
 have c1:¬l.length>32:=by have:¬(l.length:Int)>32:=of_decide_eq_false c1;omega
 rw[if_neg c1];refine g_wk (zbk 4 28 9 1 rfl rfl rfl) ?_;refine zad ?_;refine zag (fun x:Nat×List ByteArray=>[(1,.own 0 1 0 0),(2,.own 0 2 0 0),(4,.osl 0 28),(17,.i (zjd l)),(18,ii l.length),(19,ii x.1)]) (fun x=>[(1,.box (mdlC ⟨nm,evs,tpls,comps,reqs,l,cl⟩)),(2,plcN),(28,oss x.2)]) (fun _=>O) 75
  (fun x=>x.1≤l.length∧x.2.length=x.1∧za6 NEx.name fE x.2 (l.drop x.1) x.1=R) (fun x=>l.length-x.1) (0,[]) ⟨Nat.zero_le _,rfl,hR⟩ ⟨rfl,rfl,rfl,rfl,rfl,rfl,trivial⟩ rfl ⟨rfl,rfl,rfl,trivial⟩ rfl rfl ?_
 clear hR;rintro ⟨i,b⟩ ⟨hi,hb,hno⟩ ih;simp only at hi hb hno;refine zai Tk Tryz.func49 ?_;refine zaf Tk Tryz.func49 rfl (fun g1=>?_) (fun g1=>?_)
 ·have g1:i<l.length:=by simpa using g1
  have gs:(l.map nexI)[(i:Int).toNat]? = some (nexI l[i]):=zal (f:=nexI) g1;have hxk:=hk l[i] (List.getElem_mem g1);rw[List.drop_eq_getElem_cons g1] at hno;simp only[za6] at hno;have hj1:ii (IntKind.i64.wrap ((i:Int)+1))=ii ((i+1:Nat):Int):=congrArg ii (zav (n:=1000001) (by omega) (by decide));generalize l[i]=x at *;have h1:=zfl [] b x.name (by omega) hxk.1;have h2:=fun O=>hL O x.locals hxk.2;rw[hxe] at h2;obtain⟨xn,xl⟩:=x;simp only at hno h1 h2;generalize nmE b xn=e1 at *;generalize fE ⟨xn,xl⟩=e2 at *;refine zah Tk Tryz.func49 (by exact⟨by omega,by show (i:Int)<(l.length:Int);omega⟩) ?_;refine zaq Tk Tryz.func49 (gs) ?_;refine zah Tk Tryz.func49 (by exact⟨by show (b.length+1)*16≤140737488355328;omega,by show b.length+1≤9223372036854775807;omega⟩) ?_;refine zb1 Tk Tryz.func49 rfl rfl rfl rfl (zbu h1 (zex _) (.osl .nil) rfl (show 30<75 by decide) rfl rfl) ?_
  refine zaf Tk Tryz.func49 rfl (fun c2=>?_) (fun c2=>?_)
  ·have c2:e1=0:=beqT c2;rw[if_neg (fun h=>h c2)] at hno;refine zak Tk Tryz.func49 (h2 _) rfl rfl rfl rfl rfl ?_;refine zaf Tk Tryz.func49 rfl (fun c3=>?_) (fun c3=>?_)
   ·have c3:e2≠0:=bneT c3;rw[if_pos c3] at hno;subst hno;refine zaj Tk (r:=plcD ((5,i),e2)) rfl rfl rfl trivial rfl rfl ?_;rfl
   have c3:¬e2≠0:=fun h=>h (bneF c3);rw[if_neg c3] at hno;refine zad ?_;exact ih (i+1,b++[xn]) _ _ ⟨g1,by simp[hb],hno⟩ (by simp only;omega) ⟨rfl,rfl,rfl,rfl,rfl,hj1,trivial⟩ rfl ⟨rfl,rfl,congrArg some (za8 b xn),trivial⟩ rfl rfl
  have c2:e1≠0:=beqF c2;rw[if_pos c2] at hno;subst hno;refine zaf Tk Tryz.func49 rfl (fun _=>?_) (fun h=>absurd h (by simpa using c2));refine zaj Tk (r:=plcD ((5,i),e1)) rfl rfl rfl trivial rfl rfl ?_;rfl
 have g1:l.length≤i:=by simpa using g1
 rw[List.drop_eq_nil_of_le g1] at hno;have hno:none=R:=hno;subst hno;have e0:plc 5 none R2 id=R2:=rfl;rw[e0];clear e0 ih hb;refine zaf Tk Tryz.func49 rfl (fun c4=>?_) (fun c4=>?_)
 ·have c4:cl.length>32:=by have:(cl.length:Int)>32:=of_decide_eq_true c4;omega
  rw[if_pos c4] at hR2;subst hR2;refine zaj Tk (r:=plcD ((6,32),3)) rfl rfl rfl trivial rfl rfl ?_;rfl
 have c4:¬cl.length>32:=by have:¬(cl.length:Int)>32:=of_decide_eq_false c4;omega
 rw[if_neg c4] at hR2;generalize hR:za6 NCn.name fC [] cl 0=R at *;refine g_wk (zbk 4 60 9 1 rfl rfl rfl) ?_;refine zad ?_;refine zag (fun x:Nat×List ByteArray=>[(1,.own 0 1 0 0),(2,.own 0 2 0 0),(4,.osl 0 60),(49,.i (zkr cl)),(50,ii cl.length),(51,ii x.1)]) (fun x=>[(1,.box (mdlC ⟨nm,evs,tpls,comps,reqs,l,cl⟩)),(2,plcN),(60,oss x.2)]) (fun _=>O) 75
  (fun x=>x.1≤cl.length∧x.2.length=x.1∧za6 NCn.name fC x.2 (cl.drop x.1) x.1=R) (fun x=>cl.length-x.1) (0,[]) ⟨Nat.zero_le _,rfl,hR⟩ ⟨rfl,rfl,rfl,rfl,rfl,rfl,trivial⟩ rfl ⟨rfl,rfl,rfl,trivial⟩ rfl rfl ?_
 clear hR;rintro ⟨i,b⟩ ⟨hi,hb,hno⟩ ih;simp only at hi hb hno;refine zai Tk Tryz.func49 ?_;refine zaf Tk Tryz.func49 rfl (fun g2=>?_) (fun g2=>?_)
 ·have g2:i<cl.length:=by simpa using g2
  have gs:(cl.map ncnI)[(i:Int).toNat]? = some (ncnI cl[i]):=zal (f:=ncnI) g2;have hxk:=hck cl[i] (List.getElem_mem g2);rw[List.drop_eq_getElem_cons g2] at hno;simp only[za6] at hno;have hj1:ii (IntKind.i64.wrap ((i:Int)+1))=ii ((i+1:Nat):Int):=congrArg ii (zav (n:=1000001) (by omega) (by decide));generalize cl[i]=x at *;have h1:=zfl [] b x.name (by omega) hxk.1;have h2:=fun O=>hC O x hxk.2;obtain⟨xn,xl,xb⟩:=x;simp only at hno h1 h2;generalize nmE b xn=e1 at *;generalize fC ⟨xn,xl,xb⟩=e2 at *;refine zah Tk Tryz.func49 (by exact⟨by omega,by show (i:Int)<(cl.length:Int);omega⟩) ?_;refine zaq Tk Tryz.func49 (gs) ?_;refine zah Tk Tryz.func49 (by exact⟨by show (b.length+1)*16≤140737488355328;omega,by show b.length+1≤9223372036854775807;omega⟩) ?_;refine zb1 Tk Tryz.func49 rfl rfl rfl rfl (zbu h1 (zex _) (.osl .nil) rfl (show 62<75 by decide) rfl rfl) ?_
  refine zaf Tk Tryz.func49 rfl (fun c2=>?_) (fun c2=>?_)
  ·have c2:e1=0:=beqT c2;rw[if_neg (fun h=>h c2)] at hno;refine zak Tk Tryz.func49 (h2 _) rfl rfl rfl rfl rfl ?_;refine zaf Tk Tryz.func49 rfl (fun c3=>?_) (fun c3=>?_)
   ·have c3:e2≠0:=bneT c3;rw[if_pos c3] at hno;subst hno;subst hR2;refine zaj Tk (r:=plcD ((6,i),e2)) rfl rfl rfl trivial rfl rfl ?_;rfl
   have c3:¬e2≠0:=fun h=>h (bneF c3);rw[if_neg c3] at hno;refine zad ?_;exact ih (i+1,b++[xn]) _ _ ⟨g2,by simp[hb],hno⟩ (by simp only;omega) ⟨rfl,rfl,rfl,rfl,rfl,hj1,trivial⟩ rfl ⟨rfl,rfl,congrArg some (za8 b xn),trivial⟩ rfl rfl
  have c2:e1≠0:=beqF c2;rw[if_pos c2] at hno;subst hno;subst hR2;refine zaf Tk Tryz.func49 rfl (fun _=>?_) (fun h=>absurd h (by simpa using c2));refine zaj Tk (r:=plcD ((6,i),e1)) rfl rfl rfl trivial rfl rfl ?_;rfl
 ·have g2:cl.length≤i:=by simpa using g2
  rw[List.drop_eq_nil_of_le g2] at hno;have hno:none=R:=hno;subst hno;subst hR2;refine zaj Tk (r:=plcD ((0,0),0)) rfl rfl rfl trivial rfl rfl ?_;rfl
theorem zvk {α:Type} {l:List α} {i:Nat} (h:l.length≤i):l.take i=l:=List.take_of_length_le h
theorem ztH {l:List Ins} {k:Nat} (h:∀x∈l,x.evs.length≤k):(l.flatMap (·.evs)).length≤l.length*k:=by
 induction l with
 |nil=>simp
 |cons x r ih=>
  rw[List.flatMap_cons,List.length_append,List.length_cons,Nat.add_mul];have:=h x (by simp);have:=ih fun y hy=>h y (by simp[hy]);omega
theorem zrn (O:List Heap) (b:List ByteArray) (s:ByteArray) (d nm:Nat) (hl:b.length≤8000000) (ho:zab O d nm=some (.box [ssD b])):zan Tryz.prog 123 [sD s,.own d nm 0 0] O (bb (!hasB b s)) [] O:=by
 have h:=fun O=>zcm O b s (by simp only[zap];omega);generalize hasB b s=hb at *;refine zaa Tk Tryz.func123 rfl Tryz.call123 Tryz.ntmps123 (Nat.le_of_ble_eq_true rfl) fun E=>?_;refine zai Tk Tryz.func123 ?_;refine zbm Tk Tryz.func123 (ho) ?_;refine zak Tk Tryz.func123 (h _) rfl rfl rfl rfl rfl ?_;refine zaj Tk (r:=bb (!hb)) rfl rfl rfl trivial rfl rfl ?_;rfl
theorem zgt (O:List Heap) (m:Mdl) (hm:mdlOk m):zan Tryz.prog 48 [mdlD m] O (plcD (chkI m)) [] O:=by
 have hlt:=hm.co;have hrt:=hm.rq;have hk:=hm.cok;have hrk:=hm.rqk;have hI:=fun O x hx=>zgu O m x hm.toszOk hx;unfold chkI;have hrq:∀x,reqE m x=if insE m x≠0 then insE m x else if x.evs.any (fun s=>!hasB (m.comps.flatMap (·.evs)) s)=true then 9 else 0:=fun x=>rfl
 generalize insE m=fE at *;generalize reqE m=fQ at *;generalize hR2:za6 Ins.name fQ (m.comps.map (·.name)) m.reqs 0=R2;generalize hR:za6 Ins.name fE [] m.comps 0=R;obtain⟨nm,evs,tpls,l,rl,excs,cons⟩:=m;simp only at hlt hrt hk hrk hR hR2 hrq ⊢;refine zaN [200052,200082] Tk Tryz.func48 rfl Tryz.call48 Tryz.ntmps48 (Nat.le_of_ble_eq_true rfl) fun E=>?_;refine zai Tk Tryz.func48 ?_;refine zaf Tk Tryz.func48 rfl (fun c1=>?_) (fun c1=>?_)
 ·have c1:l.length=0:=by have:(l.length:Int)=0:=beqT c1;omega
  rw[if_pos c1];refine zaj Tk (r:=plcD ((3,0),12)) rfl rfl rfl trivial rfl rfl ?_;rfl
 have c1:¬l.length=0:=by have:¬(l.length:Int)=0:=beqF c1;omega
 rw[if_neg c1];refine zaf Tk Tryz.func48 rfl (fun c2=>?_) (fun c2=>?_)
 ·have c2:l.length>8:=by have:(l.length:Int)>8:=of_decide_eq_true c2;omega
  rw[if_pos c2];refine zaj Tk (r:=plcD ((3,8),3)) rfl rfl rfl trivial rfl rfl ?_;rfl
 have c2:¬l.length>8:=by have:¬(l.length:Int)>8:=of_decide_eq_false c2;omega
 rw[if_neg c2];have w1:IntKind.i64.wrap ((l.length:Int)+(rl.length:Int))=(l.length:Int)+(rl.length:Int):=w64 (by omega) (by omega);have w2:IntKind.i64.wrap (12-(l.length:Int))=12-(l.length:Int):=w64 (by omega) (by omega);refine zaf Tk Tryz.func48 rfl (fun c3=>?_) (fun c3=>?_)
 ·have c3:l.length+rl.length>12:=by have:IntKind.i64.wrap ((l.length:Int)+(rl.length:Int))>12:=of_decide_eq_true c3;rw[w1] at this;omega
  rw[if_pos c3];refine zaj Tk (r:=plcD ((4,IntKind.i64.wrap (12-(l.length:Int))),3)) rfl rfl rfl trivial rfl rfl ?_;rw[w2]
 have c3:¬l.length+rl.length>12:=by have:¬IntKind.i64.wrap ((l.length:Int)+(rl.length:Int))>12:=of_decide_eq_false c3;rw[w1] at this;omega
 rw[if_neg c3];refine g_wk (zbk 4 50 9 1 rfl rfl rfl) ?_;refine g_wk (zjU 5 66 9 1 rfl rfl rfl) ?_;refine zad ?_;refine zag (fun x:Nat×List ByteArray×List ByteArray=>[(1,.own 0 1 0 0),(2,.own 0 2 0 0),(4,.osl 0 50),(5,.own 0 5 0 0),(39,.i (zbF l)),(40,ii l.length),(41,ii x.1)])
  (fun x=>[(1,.box (mdlC ⟨nm,evs,tpls,l,rl,excs,cons⟩)),(2,plcN),(5,.box [.osl 0 66]),(66,oss x.2.2),(50,oss x.2.1)]) (fun _=>O) 103
  (fun x=>x.1≤l.length∧x.2.1=(l.take x.1).map (·.name)∧x.2.2=(l.take x.1).flatMap (·.evs)∧za6 Ins.name fE x.2.1 (l.drop x.1) x.1=R) (fun x=>l.length-x.1) (0,[],[]) ⟨Nat.zero_le _,rfl,rfl,hR⟩ ⟨rfl,rfl,rfl,rfl,rfl,rfl,rfl,trivial⟩ rfl ⟨rfl,rfl,rfl,rfl,rfl,trivial⟩ rfl rfl ?_
 clear hR;rintro ⟨i,b,ev⟩ ⟨hi,hb,hev,hno⟩ ih;simp only at hi hb hev hno;have hbl:b.length≤8:=by rw[hb];simp;omega
 have hel:ev.length≤8000000:=by
  have:=ztH (l:=l.take i) (k:=1000000) (fun x hx=>(hk x (List.mem_of_mem_take hx)).el);rw[hev];simp only[List.length_take] at this;omega
 refine zai Tk Tryz.func48 ?_;refine zaf Tk Tryz.func48 rfl (fun g1=>?_) (fun g1=>?_)
 ·have g1:i<l.length:=by simpa using g1
  have gs:(l.map insI)[(i:Int).toNat]? = some (insI l[i]):=zal (f:=insI) g1;have hxk:=hk l[i] (List.getElem_mem g1);have ht:=zaI Ins.name g1;have ht2:(l.take (i+1)).flatMap (·.evs)=(l.take i).flatMap (·.evs)++l[i].evs:=by rw[List.take_succ_eq_append_getElem g1,List.flatMap_append];simp
  rw[List.drop_eq_getElem_cons g1] at hno;simp only[za6] at hno;have hj1:ii (IntKind.i64.wrap ((i:Int)+1))=ii ((i+1:Nat):Int):=congrArg ii (zav (n:=1000001) (by omega) (by decide));generalize l[i]=x at *;have h1:=zfl [] b x.name (by omega) hxk.nm;have h2:=fun O=>hI O x hxk.el;have hxl:=hxk.el;obtain⟨xn,xt,xe⟩:=x;simp only at hno h1 h2 hxl ht ht2;generalize nmE b xn=e1 at *;generalize fE ⟨xn,xt,xe⟩=e2 at *;refine zah Tk Tryz.func48 (by exact⟨by omega,by show (i:Int)<(l.length:Int);omega⟩) ?_;refine zaq Tk Tryz.func48 (gs) ?_;refine zah Tk Tryz.func48 (by exact⟨by show (b.length+1)*16≤140737488355328;omega,by show b.length+1≤9223372036854775807;omega⟩) ?_;refine zb1 Tk Tryz.func48 rfl rfl rfl rfl (zbu h1 (zex _) (.osl .nil) rfl (show 52<103 by decide) rfl rfl) ?_;refine zaf Tk Tryz.func48 rfl (fun d2=>?_) (fun d2=>?_)
  ·have d2:e1=0:=beqT d2;rw[if_neg (fun h=>h d2)] at hno;refine zak Tk Tryz.func48 (h2 _) rfl rfl rfl rfl rfl ?_;refine zaf Tk Tryz.func48 rfl (fun d3=>?_) (fun d3=>?_)
   ·have d3:e2≠0:=bneT d3;rw[if_pos d3] at hno;subst hno;refine zaj Tk (r:=plcD ((3,i),e2)) rfl rfl rfl trivial rfl rfl ?_;rfl
   have d3:¬e2≠0:=fun h=>h (bneF d3);rw[if_neg d3] at hno;refine zah Tk Tryz.func48 (by exact⟨by show (ev.length+xe.length)*16≤140737488355328;omega,by show ev.length+xe.length≤9223372036854775807;omega⟩) ?_;refine zad ?_;exact ih (i+1,b++[xn],ev++xe) _ _ ⟨g1,by simp only;rw[ht,hb],by simp only;rw[ht2,hev],hno⟩ (by simp only;omega) ⟨rfl,rfl,rfl,rfl,rfl,rfl,hj1,trivial⟩ rfl ⟨rfl,rfl,rfl,congrArg some (zx7 ev xe),congrArg some (za8 b xn),trivial⟩ rfl rfl
  have d2:e1≠0:=beqF d2;rw[if_pos d2] at hno;subst hno;refine zaf Tk Tryz.func48 rfl (fun _=>?_) (fun h=>absurd h (by simpa using d2));refine zaj Tk (r:=plcD ((3,i),e1)) rfl rfl rfl trivial rfl rfl ?_;rfl
 have g1:l.length≤i:=by simpa using g1
 rw[List.drop_eq_nil_of_le g1] at hno;have hno:none=R:=hno;subst hno;have e0:∀z:Plc×Int,plc 3 none z id=z:=fun z=>rfl;rw[e0];clear e0 ih;rw[zvk g1] at hb hev;rw[←hb] at hR2;simp only[←hev] at hrq;clear hb hev;have hbl2:b.length≤1000:=by omega
 clear hbl;refine g_wk (zao 66 rfl rfl) ?_;refine g_wk (zaY rfl) ?_;refine g_wk (zxt 50 80 rfl rfl) ?_;refine zad ?_;refine zag (fun x:Nat×List ByteArray=>[(1,.own 0 1 0 0),(2,.own 0 2 0 0),(4,.osl 0 80),(5,.own 0 5 0 0),(69,.i (zbF rl)),(70,ii rl.length),(71,ii x.1)])
  (fun x=>[(1,.box (mdlC ⟨nm,evs,tpls,l,rl,excs,cons⟩)),(2,plcN),(5,.box [ssD ev]),(80,oss x.2)]) (fun _=>O) 103
  (fun x=>x.1≤rl.length∧x.2.length≤1000+x.1∧za6 Ins.name fQ x.2 (rl.drop x.1) x.1=R2) (fun x=>rl.length-x.1) (0,b) ⟨Nat.zero_le _,hbl2,hR2⟩ ⟨rfl,rfl,rfl,rfl,rfl,rfl,rfl,trivial⟩ rfl ⟨rfl,rfl,rfl,rfl,trivial⟩ rfl rfl ?_
 clear hR2;rintro ⟨i,b⟩ ⟨hi,hb,hno⟩ ih;simp only at hi hb hno;have hrl12:rl.length≤12:=by omega
 refine zai Tk Tryz.func48 ?_;refine zaf Tk Tryz.func48 rfl (fun g2=>?_) (fun g2=>?_)
 ·have g2:i<rl.length:=by simpa using g2
  have gs:(rl.map insI)[(i:Int).toNat]? = some (insI rl[i]):=zal (f:=insI) g2;have hxk:=hrk rl[i] (List.getElem_mem g2);rw[List.drop_eq_getElem_cons g2] at hno;simp only[za6] at hno;have hj1:ii (IntKind.i64.wrap ((i:Int)+1))=ii ((i+1:Nat):Int):=congrArg ii (zav (n:=1000001) (by omega) (by decide));generalize rl[i]=x at *;have h1:=zfl [] b x.name (by omega) hxk.nm;have h2:=fun O=>hI O x hxk.el;have h3:∀S,zab S 0 5=some (.box [ssD ev])→zan Tryz.prog 122 [ssD x.evs,.fn (.func 123) [] [.own 0 5 0 0]] S (bb (x.evs.any fun s=>!hasB ev s)) [] S:=fun S ho=>
   zmv S x.evs 123 0 5 (fun s=>!hasB ev s) (by have:=hxk.el;simp only[zap];omega) fun s _=>zrn _ ev s 2 5 hel (zaz (zaz ho))
  rw[hrq] at hno;generalize (x.evs.any fun s=>!hasB ev s)=A at *;obtain⟨xn,xt,xe⟩:=x;simp only at hno h1 h2 h3;generalize nmE b xn=e1 at *;generalize fE ⟨xn,xt,xe⟩=e2 at *;refine zah Tk Tryz.func48 (by exact⟨by omega,by show (i:Int)<(rl.length:Int);omega⟩) ?_;refine zaq Tk Tryz.func48 (gs) ?_;refine zah Tk Tryz.func48 (by exact⟨by show (b.length+1)*16≤140737488355328;omega,by show b.length+1≤9223372036854775807;omega⟩) ?_;refine zb1 Tk Tryz.func48 rfl rfl rfl rfl (zbu h1 (zex _) (.osl .nil) rfl (show 82<103 by decide) rfl rfl) ?_;refine zaf Tk Tryz.func48 rfl (fun d2=>?_) (fun d2=>?_)
  ·have d2:e1=0:=beqT d2;rw[if_neg (fun h=>h d2)] at hno;refine zak Tk Tryz.func48 (h2 _) rfl rfl rfl rfl rfl ?_;refine zaG Tk Tryz.func48 rfl (fun d3=>?_) (fun d3=>?_)
   ·have d3:e2=0:=beqT d3;rw[if_neg (fun h:e2≠0=>h d3)] at hno;refine zak Tk Tryz.func48 (h3 _ rfl) rfl rfl rfl rfl rfl ?_;refine zaf Tk Tryz.func48 rfl (fun d4=>?_) (fun d4=>?_)
    ·have d4:A=true:=d4;rw[if_pos d4,if_pos (by decide)] at hno;subst hno;refine gcT Tk Tryz.func48 rfl ?_;refine zaj Tk (r:=plcD ((4,i),9)) rfl rfl rfl trivial rfl rfl ?_;rfl
    have d4:¬A=true:=zhd d4;rw[if_neg d4,if_neg (by decide)] at hno;refine zaf Tk Tryz.func48 rfl (fun h=>absurd h (by simpa using d3)) (fun _=>?_);refine zad ?_;exact ih (i+1,b++[xn]) _ _ ⟨g2,by simp only[List.length_append,List.length_singleton];omega,hno⟩ (by simp only;omega) ⟨rfl,rfl,rfl,rfl,rfl,rfl,hj1,trivial⟩ rfl ⟨rfl,rfl,rfl,congrArg some (za8 b xn),trivial⟩ rfl rfl
   have d3:e2≠0:=beqF d3;rw[if_pos d3,if_pos d3] at hno;subst hno;refine gcF Tk Tryz.func48 rfl ?_;refine zaf Tk Tryz.func48 rfl (fun _=>?_) (fun h=>absurd h (by simpa using d3));refine zaj Tk (r:=plcD ((4,i),e2)) rfl rfl rfl trivial rfl rfl ?_;rfl
  have d2:e1≠0:=beqF d2;rw[if_pos d2] at hno;subst hno;refine zaG Tk Tryz.func48 rfl (fun h=>absurd h (by simpa using d2)) (fun _=>?_);refine gcF Tk Tryz.func48 rfl ?_;refine zaf Tk Tryz.func48 rfl (fun _=>?_) (fun h=>absurd h (by simpa using d2));refine zaj Tk (r:=plcD ((4,i),e1)) rfl rfl rfl trivial rfl rfl ?_;rfl
 ·have g2:rl.length≤i:=by simpa using g2
  rw[List.drop_eq_nil_of_le g2] at hno;have hno:none=R2:=hno;subst hno;refine zaj Tk (r:=plcD ((0,0),0)) rfl rfl rfl trivial rfl rfl ?_;rfl
abbrev zzl (l:List Ex):Ob:=.arr 184 4 l.length (exIs l) true
theorem zsS (l:List Ex) (x:Ex):Ob.arr 184 4 (l.length+1) (exIs l++[exI x]) true=zzl (l++[x]):=by simp[zjD]
theorem zwK (O:List Heap) (l:List Vr) (hl:l.length≤1000000):zan Tryz.prog 131 [vrs l] O (vrs l) [] O:=by
 refine zaa Tk Tryz.func131 rfl Tryz.call131 Tryz.ntmps131 (Nat.le_of_ble_eq_true rfl) fun E=>?_;refine zai Tk Tryz.func131 ?_;refine zoy Tk Tryz.func131 rfl rfl fun b hb=>?_;refine zaf Tk Tryz.func131 rfl (fun h1=>?_) (fun h1=>?_)
 ·have hl0:l=[]:=List.eq_nil_of_length_eq_zero (hb h1);subst hl0;refine zaD Tk (r:=.i (.v (.slice none 0 0))) rfl rfl rfl trivial rfl rfl ?_;exact zcy zbd
 ·refine zah Tk Tryz.func131 (by exact⟨by show (0+l.length)*40≤140737488355328;omega,by show 0+l.length≤9223372036854775807;omega⟩) ?_;refine za3 (zc9 (l:=[(2,.osl 0 7)]) (Hv:=[(7,.arr 115 4 (0+l.length) ([]++l.map vrI) true)]) ⟨rfl,trivial⟩ rfl ⟨rfl,trivial⟩ rfl rfl) ?_;rw[Nat.zero_add,List.nil_append];refine za3 (zao 7 rfl rfl) ?_;refine zaj Tk (r:=vrs l) rfl rfl rfl trivial rfl rfl ?_;rfl
theorem zlg {n:Int}:∀(N:Nat) (x:Ex),SizeOf.sizeOf x<N→wfE n x→∀O,zan Tryz.prog 134 [exA x] O (exA x) [] O:=by
 intro N
 induction N with
 |zero=>intro x h;omega
 |succ N ihN=>
  intro x hs hwf O;obtain⟨op,v,ix,args⟩:=x;simp only[wfE] at hwf;obtain⟨hform,hwf⟩:=hwf;obtain⟨ha,hb,-,-⟩:=zb9 hform;have hch:∀e∈args,∀O,zan Tryz.prog 134 [exA e] O (exA e) [] O:=by
   intro e he O;refine ihN e ?_ (ze4 hwf e he) O;have:=List.sizeOf_lt_of_mem he;simp only[Ex.mk.sizeOf_spec] at hs;omega
  have hlen3:args.length≤3:=by have:=zgH op;omega
  clear ihN hs;show zan Tryz.prog 134 [.agg [ii op,ii v,ii ix,exs args]] O (.agg [ii op,ii v,ii ix,exs args]) [] O;refine zaa Tk Tryz.func134 rfl Tryz.call134 Tryz.ntmps134 (Nat.le_of_ble_eq_true rfl) fun E=>?_;refine zai Tk Tryz.func134 ?_;refine g_wk (zaE 3 20 184 4 (pre:=[ii op,ii v,ii ix]) (post:=[]) rfl rfl rfl) ?_;refine zad ?_;refine zag (fun i:Nat=>[(2,.own 0 2 0 0),(3,.own 0 3 0 0),(9,exs args),(10,ii args.length),(11,ii i)]) (fun i=>[(3,.box [ii op,ii v,ii ix,.osl 0 20]),(20,zzl (args.take i)),(2,.box [ii 0,ii 0,ii 0,.i (.v (.slice none 0 0))])]) (fun _=>O) 24
   (fun i=>i≤args.length) (fun i=>args.length-i) 0 (Nat.zero_le _) ⟨rfl,rfl,rfl,rfl,rfl,trivial⟩ rfl ⟨rfl,rfl,rfl,trivial⟩ rfl rfl ?_
  intro i hi ih;have hi:i≤args.length:=hi;refine zai Tk Tryz.func134 ?_;refine zaf Tk Tryz.func134 rfl (fun g1=>?_) (fun g1=>?_)
  ·have g1:i<args.length:=by simpa using g1
   have hg:=zgD g1;have hc:=hch _ (List.getElem_mem g1);have ht:args.take (i+1)=args.take i++[args[i]]:=List.take_succ_eq_append_getElem g1;have htl:(args.take i).length=i:=by rw[List.length_take];omega
   generalize args[i]=e at *;generalize args.take i=l at *;obtain⟨eo,ev,ex,ea⟩:=e;refine zah Tk Tryz.func134 (by exact⟨by omega,by show (i:Int)<(args.length:Int);omega⟩) ?_;refine zaq Tk Tryz.func134 (hg) ?_;refine zat Tk Tryz.func134 zax rfl ?_;refine zaF Tk (fun _=>hc _) rfl rfl rfl ?_;refine zd8 Tk Tryz.func134 ([5,6,7]) (by kernel_rfl) (by kernel_rfl) ?_;refine zah Tk Tryz.func134 (by exact⟨by show (l.length+1)*48≤140737488355328;omega,by show l.length+1≤9223372036854775807;omega⟩) ?_;refine zad ?_;refine ih (i+1) _ _ g1 (by omega) ⟨rfl,rfl,rfl,rfl,congrArg ii (zav (n:=16) (by omega) (by decide)),trivial⟩ rfl ⟨rfl,by rw[ht];exact congrArg some (zsS l ⟨eo,ev,ex,ea⟩),rfl,trivial⟩ rfl rfl
  ·have g1:args.length≤i:=by simpa using g1
   rw[List.take_of_length_le g1];refine za3 (zao 20 rfl rfl) ?_;refine za3 (zaY rfl) ?_;refine zaj Tk (r:=.agg [ii op,ii v,ii ix,exs args]) rfl rfl rfl trivial rfl rfl ?_;rfl
end Go.AI
namespace Go.AI
def cmpI (x y:Int):Int:=if x<y then -1 else if x>y then 1 else 0
end Go.AI
namespace Go.AI
open Go.Proofs
set_option maxRecDepth 20000
theorem zoO (O:List Heap) (x y:Int):zan Tryz.prog 59 [ii x,ii y] O (ii (cmpI x y)) [] O:=by
 have h:=fun O x=>ztg O x;unfold cmpI;refine zaa Tk Tryz.func59 rfl Tryz.call59 Tryz.ntmps59 (Nat.le_of_ble_eq_true rfl) fun E=>?_;refine zai Tk Tryz.func59 ?_;refine zak Tk Tryz.func59 (h _ _) rfl rfl rfl rfl rfl ?_;refine zak Tk Tryz.func59 (h _ _) rfl rfl rfl rfl rfl ?_;refine gcF Tk Tryz.func59 rfl ?_;refine gcF Tk Tryz.func59 rfl ?_;refine zaf Tk Tryz.func59 rfl (fun c1=>?_) (fun c1=>?_)
 ·have c1:x<y:=of_decide_eq_true c1;rw[if_pos c1];refine zaj Tk (r:=ii (-1)) rfl rfl rfl trivial rfl rfl ?_;rfl
 have c1:¬x<y:=of_decide_eq_false c1;rw[if_neg c1];refine zaf Tk Tryz.func59 rfl (fun c2=>?_) (fun c2=>?_)
 ·have c2:x>y:=of_decide_eq_true c2;rw[if_pos c2];refine zaj Tk (r:=ii 1) rfl rfl rfl trivial rfl rfl ?_;rfl
 ·have c2:¬x>y:=of_decide_eq_false c2;rw[if_neg c2];refine zaj Tk (r:=ii 0) rfl rfl rfl trivial rfl rfl ?_;rfl
theorem zzX (O:List Heap) (x y:Int):zan Tryz.prog 64 [.i (.sl 1 2 [[vi x],[vi y]])] O (ii (if x≠0 then x else y)) [] O:=by
 refine zaa Tk Tryz.func64 rfl Tryz.call64 Tryz.ntmps64 (Nat.le_of_ble_eq_true rfl) fun E=>?_;refine zai Tk Tryz.func64 ?_;refine zad ?_;refine zai Tk Tryz.func64 ?_;refine gcT Tk Tryz.func64 rfl ?_;refine zah Tk Tryz.func64 (by decide) ?_;refine zaq Tk Tryz.func64 (rfl) ?_;refine zaf Tk Tryz.func64 rfl (fun c1=>?_) (fun c1=>?_)
 ·have c1:x≠0:=by simpa using c1
  rw[if_pos c1];refine zaj Tk (r:=ii x) rfl rfl rfl trivial rfl rfl ?_;rfl
 have c1:¬x≠0:=by simpa using c1
 rw[if_neg c1];refine zad ?_;refine zai Tk Tryz.func64 ?_;refine gcT Tk Tryz.func64 rfl ?_;refine zah Tk Tryz.func64 (by decide) ?_;refine zaq Tk Tryz.func64 (rfl) ?_;refine zaf Tk Tryz.func64 rfl (fun c2=>?_) (fun c2=>?_)
 ·refine zaj Tk (r:=ii y) rfl rfl rfl trivial rfl rfl ?_;rfl
 have c2:¬y≠0:=by simpa using c2
 obtain rfl:y=0:=Classical.byContradiction c2;refine zad ?_;refine zai Tk Tryz.func64 ?_;refine gcF Tk Tryz.func64 rfl ?_;refine zaj Tk (r:=ii 0) rfl rfl rfl trivial rfl rfl ?_;rfl
end Go.AI
namespace Go.AI
structure FlOK (c:Cx) (ops:Array Oper) (O:List Heap) (n:Nat) (x:SH) (o:Oper) (p:Pl):Prop where
 w:zaQ ops (St.of O n (zaO ops o x)) o=some true
 r:p.rem=zbC (St.of O n (zaO ops o x)) o
 d:Does c o (St.of O n (zaO ops o x)) (PQ O n (zaO ops o x) p) (exec c.T (St.of O n (zaO ops o x)) o)
theorem zx5 {c:Cx} (hT:TOk c.P c.T) (hm:c.P.follows .mixedOrders=true) {id:Nat} {ops:Array Oper} {O O':List Heap} {n:Nat} {x0:SH} {ps:List Pl} {k:List Item} {oF:Oper}
  (hoF:ops[ps.length]? = some oF) (hg:oF.guard=none)
  (hF:∀x:SH,(∀t d,look (zaO ops oF (zdk ps x0)).1 t=some d→look x.1 t=some d)→Does c oF (St.of O n x) (fun s'=>s'=St.of O' n x) (exec c.T (St.of O n x) oF))
  (hok:okT ops (ps++[noPl]) x0=true) (hch:zgl c ops O n ops.toList ps x0)
  (hfl:∀i o p,ops[i]? = some o→ps[i]? = some p→i ∉ getL (zdV ops.toList []) ps.length→zec c ops O' n o (zaO ops o (zdk (ps.take i) x0)) p)
  (hend:RG c ops (List.range' (ps.length+1) (ops.size-(ps.length+1))) (St.of O' n (zdk ps x0)) k):Rch c (.code (.region id ops true)::k) (St.of O n x0):=by
 have hun:zlP ops (zdV ops.toList [])=true∧zvl ops (zdV ops.toList []) (ps.length+1)=true∧ps.length+1≤ops.size ∧
   ∀i o p,ops.toList[i]? = some o→(ps++[noPl])[i]? = some p→okI ops (zdV ops.toList []) (ps++[noPl]) x0 (0+i) o (zdk ((ps++[noPl]).take i) x0) p=true:=by
  have h:=hok;simp only[okT,Bool.and_eq_true] at h;obtain⟨⟨hpre,hgo⟩,htl⟩:=h;obtain⟨hlen,hget⟩:=zja hgo;exact⟨hpre,by simpa using htl,by simpa using hlen,hget⟩
 obtain⟨hpre,htl,hlen,hget⟩:=hun;have hpl:pl (ps++[noPl]) ps.length=noPl:=by
  unfold pl;rw[List.getElem?_append_right (Nat.le_refl _),Nat.sub_self];rfl
 refine zsA (p:=ps.length+1) hm rfl hpre htl hlen (fun L a w=>∃K ρ,Inv c.E K ρ (St.of (if L ps.length=true then O' else O) n (fold (ps++[noPl]) (ord ops.size L) x0)) a w) ?_ ?_ ?_ ?_
 ·rintro L L' a w hL ⟨K,ρ,hi⟩;refine⟨K,ρ,?_⟩;rw[←hL _ (by omega),←zg7 fun k hk=>hL k hk];exact hi
 ·intro K ρ a w hi;refine⟨K,ρ,?_⟩;have e:ord ops.size (fun _=>false)=[]:=by simp[ord]
  rw[e];exact hi
 ·rintro L hc i o ho hip hLi hbef hno a w ⟨K,ρ,hinv⟩ Q next hnext
  by_cases hie:i=ps.length
  ·subst hie;rw[hLi,if_neg (by decide)] at hinv;rw[hoF] at ho;simp only[Option.some.injEq] at ho;subst ho;have hok1:=hget ps.length oF noPl (by simpa using hoF) (by rw[List.getElem?_append_right (Nat.le_refl _),Nat.sub_self];rfl);rw[Nat.zero_add] at hok1;have e:(ps++[noPl]).take ps.length=ps:=by simp
   rw[e] at hok1;have e2:zdk ps x0=fold (ps++[noPl]) (ord ops.size fun k=>Nat.ble (k+1) ps.length) x0:=by
    rw[zdY (n:=ops.size) (by omega),zck _ (by simp),e]
   have hok2:okI ops (zdV ops.toList []) (ps++[noPl]) x0 ps.length oF (zdk ps x0) (pl (ps++[noPl]) ps.length)=true:=by
    rw[hpl];exact hok1
   obtain⟨hf,hy1,hy2⟩:=fits hpre hoF hok2 e2 hc hLi hbef;have hw:zaQ ops (St.of O n (fold (ps++[noPl]) (ord ops.size L) x0)) oF=some true:=by unfold zaQ;rw[hg]
   unfold wpOp;rw[hoF]
   dsimp only
   rw[zcq hinv hw,if_pos rfl];refine .inl ?_;refine zbH hT (hF _ fun t d e=>hf.v1 t d e) K ρ a w hinv _ _ fun v w' s' K' ρ' _ _ hi' hq=>hnext _ _ ⟨K',ρ',?_⟩;have e3:(if (L ps.length||Nat.beq ps.length ps.length)=true then O' else O)=O':=by
    rw[if_pos (by rw[beq_of_eq rfl,Bool.or_true])]
   show Inv c.E K' ρ' (St.of (if (L ps.length||Nat.beq ps.length ps.length)=true then O' else O) n _) (a.put oF.dst v) w';rw[e3];subst hq;refine Inv.sameX hi' (fun t=>?_) fun nm=>?_
   ·rw[hy1,hpl];simp[noPl,Pl.ap]
   ·rw[hy2,hpl];simp[noPl,Pl.ap,rmv]
  ·have hil:i<ps.length:=by omega
   have hp:(ps++[noPl])[i]? = some ps[i]:=by rw[List.getElem?_append_left hil,List.getElem?_eq_getElem hil]
   have hok1:=hget i o _ (by simpa using ho) hp;have e:(ps++[noPl]).take i=ps.take i:=by rw[List.take_append_of_le_length (by omega)]
   have hbq:Nat.beq ps.length i=false:=by
    cases hb:Nat.beq ps.length i with
    |false=>rfl
    |true=>exact absurd (Nat.eq_of_beq_eq_true hb).symm hie
   have hst:zec c ops (if L ps.length=true then O' else O) n o (zaO ops o (zdk (ps.take i) x0)) ps[i]:=by
    cases hL:L ps.length with
    |false=>
     rw[if_neg (by decide)];exact zhO hch i o _ (by simpa using ho) (List.getElem?_eq_getElem hil)
    |true=>
     rw[if_pos rfl];refine hfl i o _ ho (List.getElem?_eq_getElem hil) fun hmem=>?_;have:=(zdv hpre hc (ps.length+1) ps.length oF (Nat.lt_succ_self _) hoF (fun j hj=>hc ps.length oF hoF hL j hj) i hmem).1;rw[this] at hLi;cases hLi
   rw[←e] at hst;have hpl':pl (ps++[noPl]) i=ps[i]:=by simp[pl,hp]
   rw[Nat.zero_add] at hok1;rw[←zck i (by simp;omega),←zdY (n:=ops.size) (by omega)] at hok1 hst;rw[←hpl'] at hok1 hst;obtain⟨hf,hy1,hy2⟩:=fits hpre ho hok1 rfl hc hLi hbef;refine zh8 ho hst hf hy1 hy2 hinv fun a' w' K' ρ' hinv'=>?_;refine hnext a' w' ⟨K',ρ',?_⟩;have e3:(L ps.length||Nat.beq ps.length i)=L ps.length:=by rw[hbq,Bool.or_false]
   show Inv c.E K' ρ' (St.of (if (L ps.length||Nat.beq ps.length i)=true then O' else O) n _) a' w';rw[e3];exact hinv'
 ·rintro a w ⟨K,ρ,hinv⟩;rw[if_pos (Nat.ble_eq_true_of_le (Nat.le_refl _)),zdY (n:=ops.size) hlen,zck _ (by simp),List.take_of_length_le (by simp)] at hinv;have e:zdk (ps++[noPl]) x0=zdk ps x0:=by
   unfold zdk;rw[List.foldl_append];simp[noPl,Pl.ap,rmv]
  rw[e] at hinv;exact hend K ρ a w hinv
theorem zmo {c:Cx} {s:St} {o:Oper} {t nm d n j:Nat} {px pv:Operand} {ti:TI} {es:Nat} {ty:Nat} {xs:List (List I)} {cs:List D} {l:List I} (hop:o.op=.store t px pv) (hdn:o.dst=none) (h1:look c.T t=some ti) (hx:evD s px=.own (d+1) nm j 0) (hv:evD s pv=.agg cs) (hl:D.toIs cs=some l)
  (hc:(Nat.beq cs.length ti.size&&D.ones cs)=true) (hes:Nat.beq ti.size es=true) (hS:zab s.S (d+1) nm=some (.arr ty es n xs true)):Does c o s (fun s'=>s'={ s with S:=setAt s.S (d+1) nm (.arr ty es n (xs.set j l) true)}) (exec c.T s o):=by
 have e:exec c.T s o=zc8 c.T s t (.own (d+1) nm j 0) (.agg cs):=by
  unfold exec;rw[hop];simp only[hx,hv,hdn]
 rw[e];unfold zc8;rw[h1];have hcells:(D.agg cs).cells=cs:=rfl;simp only[hcells];rw[hc];show Does c o s _ (zcw s (d+1) nm _);unfold zcw;refine⟨_,hS,?_⟩;simp only[hl,hes];refine⟨?_,rfl⟩;unfold turns;rw[hop]
theorem zqk {c:Cx} (hT:TOk c.P c.T) {ops:Array Oper} {O:List Heap} {n:Nat} {o:Oper} {v:SH} {t:Nat} {d:D} (hw:zaQ ops (St.of O n v) o=some true) (ht:o.dst=some t) (hn:Nat.ble (t+1) n=true) (hex:exec c.T (St.of O n v) o=.val d) (hro:roB o=true) :
  zec c ops O n o v ⟨[(t,d)],[],none⟩:=by
 refine zfa hw (zju hro).symm fun E hE=>zbH (c:={ c with E:=E}) hT ?_;rw[show exec ({c with E:=E}:Cx).T (St.of O n v) o=.val d from hex];show match o.dst with
  |some t=>t<(St.of O n v).n∧_
  |none=>False
 rw[ht];refine⟨Nat.le_of_ble_eq_true hn,rfl,rfl,fun t' d' e=>?_⟩;obtain⟨rfl,rfl⟩:=zaU e;exact .inr (.inl (by simp[St.set,zac]))
def FDS (c:Cx) (id:Nat) (ops:Array Oper) (O:List Heap) (n:Nat) (x0:SH) (k:List Item) (x:SH) (ps:List Pl):Prop:=
 x=zdk ps x0→zgl c ops O n ops.toList ps x0→Rch c (.code (.region id ops true)::k) (St.of O n x0)
theorem zjw {c:Cx} {s:St} {k:List Item} {ops:Array Oper} (hT:TOk c.P c.T) (m:Nat) {id:Nat} {O:List Heap} {H:Heap} (hS:s.S=H::O)
  (h:GE c ops O s.n (FDS c id ops O s.n (s.σ,H) k) (runS c.T ops O s.n 0 (ops.toList.take m) (s.σ,H) [])):GM c (.drawn id ops s k):=by
 obtain⟨qs,h1,h2⟩:=zbp (c:=c) hT _ _ _ _ h.h;rw[List.nil_append] at h2;have hs:s=St.of O s.n (s.σ,H):=by
  cases s
  simp only at hS;subst hS;rfl
 refine⟨?_⟩;show Rch c (.code (.region id ops true)::k) s;rw[hs];exact h2 rfl (ziM h1)
theorem zyN {c:Cx} (hT:TOk c.P c.T) (hfn:c.P.funcs[c.f]? = some c.fn) (hm:c.P.follows .mixedOrders=true) {id:Nat} {ops:Array Oper} {O:List Heap} {n:Nat} {x0 x:SH} {acc:List Pl} {k:List Item} {oF:Oper} {N:Nat} {t tx tv nm d nn j:Nat} {ti:TI} {es ty:Nat} {xs:List (List I)} {cs:List D} {l0:List I} (l:List Nat)
  (fl:List Nat) (hN:acc.length=N) (hoF:ops[N]? = some oF) (hg:oF.guard=none) (hdn:oF.dst=none) (hop:oF.op=.store t (.tmp tx) (.tmp tv)) (h1:look c.T t=some ti) (hx:look (zaO ops oF x).1 tx=some (.own (d+1) nm j 0)) (hv:look (zaO ops oF x).1 tv=some (.agg cs)) (hl0:D.toIs cs=some l0)
  (hc:(Nat.beq cs.length ti.size&&D.ones cs)=true) (hes:Nat.beq ti.size es=true) (hO:zab O d nm=some (.arr ty es nn xs true))
  (hok:okT ops (acc++[noPl]) x0=true)
  (hfi:allN N (fun i=>memN fl i||memN (getL (zdV ops.toList []) N) i)=true)
  (hfl:∀i∈fl,∃o t' d',ops[i]? = some o∧acc[i]? = some ⟨[(t',d')],[],none⟩∧zaQ ops (St.of (setAt O d nm (.arr ty es nn (xs.set j l0) true)) n (zaO ops o (zdk (acc.take i) x0))) o=some true∧o.dst=some t'∧Nat.ble (t'+1) n=true∧exec c.T (St.of (setAt O d nm (.arr ty es nn (xs.set j l0) true)) n (zaO ops o (zdk (acc.take i) x0))) o=.val d'∧roB o=true)
  (hl:List.range' (N+1) (ops.size-(N+1))=l)
  (hend:GM c (ziC x fun x=>run c.T c.stop 1000 (.inRegion ops l::k) (St.of (setAt O d nm (.arr ty es nn (xs.set j l0) true)) n x))) :
  GE c ops O n (FDS c id ops O n x0 k) (.done x acc):=by
 subst hl;subst hN;refine⟨?_⟩;show FDS c id ops O n x0 k x acc;intro hx0 hch;subst hx0;refine zx5 (O':=setAt O d nm (.arr ty es nn (xs.set j l0) true)) hT hm hoF hg (fun x' hsub=>?_) hok hch (fun i o p ho hp hni=>?_) ?_;rotate_left 1
 ·have hil:i<acc.length:=(List.getElem?_eq_some_iff.1 hp).1;have h:=zbX hfi i hil;simp only[Bool.or_eq_true] at h;rcases h with h|h
  ·obtain⟨o',t',d',f1,f2,f3,f4,f5,f6,f7⟩:=hfl i (zco.1 h);rw[ho] at f1;obtain rfl:=Option.some.inj f1;rw[hp] at f2;obtain rfl:=Option.some.inj f2;exact zqk hT f3 f4 f5 f6 f7
  ·exact absurd (zco.1 h) hni
 rotate_left 1
 ·have e1:=hsub _ _ hx;have e2:=hsub _ _ hv;refine zmo (s:=St.of O n x') hop hdn h1 ?_ ?_ hl0 hc hes ?_
  ·show St.get (St.of O n x') tx=_;unfold St.get;have:look (St.of O n x').σ tx=some (.own (d+1) nm j 0):=e1;rw[this]
  ·show St.get (St.of O n x') tv=_;unfold St.get;have:look (St.of O n x').σ tv=some (.agg cs):=e2;rw[this]
  ·exact hO
 ·have h:=hend.h;rw[zhA] at h;exact za4 hT hfn 1000 (.inRegion ops _::k) _ h
end Go.AI
