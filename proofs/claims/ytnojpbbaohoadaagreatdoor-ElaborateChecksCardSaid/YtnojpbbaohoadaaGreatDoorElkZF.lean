/- The layer of abstract runs, part 32. -/
import Derived.Test.YtnojpbbaohoadaaGreatDoorElkZE
set_option linter.unusedSimpArgs false
set_option linter.unusedVariables false
set_option linter.all false
set_option maxHeartbeats 4000000
namespace Go.AI
def zbY (m:Mdl) (x:NLc):Bool:=match m.comps.find? (fun c=>sB c.name x.1) with
 |none=>false
 |some c=>match zb4 m c with
  |none=>false
  |some t=>decide (nmIx t.locs x.2≥0)
def zbH (x:NTm):Bool:=decide (x.2≠0)&&decide (x.2 ≥ -65536)&&decide (x.2≤65536)
theorem zkw (l:List Ins) (s:ByteArray):l.find? (fun c=>sB c.name s)=none↔nmIx (l.map (·.name)) s<0:=by
 rcases zdD Ins.name l s with ⟨h1,h2⟩|⟨k,e,h1,h2,h3⟩
 ·rw[h1,h2];simp
 ·rw[h2,h3];constructor
  ·intro h;cases h
  ·intro h;omega
theorem zsf (m:Mdl):∀(l:List NLc) (b:List ByteArray),lcsE m b l=cpE m 9 b (l.map fun x=>(x.1,zbY m x))
 |[],_=>rfl
 |x::r,b=>by
  have ih:=zsf m r (b++[x.1]);have h1:=zkw m.comps x.1;simp only[lcsE,List.map_cons,cpE,zbY]
  cases hf:m.comps.find? (fun c=>sB c.name x.1) with
  |none=>
   rw[hf] at h1;simp only[true_iff] at h1;rw[if_pos h1]
  |some c=>
   rw[hf] at h1;simp only[reduceCtorEq,false_iff] at h1;rw[if_neg h1];simp only;rw[zdU]
   by_cases h2:nmIx b x.1≥0
   ·rw[if_pos (by simpa using h2),if_pos h2]
   rw[if_neg (by simpa using h2),if_neg h2];have hT:zb4 m c=none∨∃t,zb4 m c=some t:=by
    generalize zb4 m c=o
    cases o with
    |none=>exact .inl rfl
    |some t=>exact .inr ⟨t,rfl⟩
   rcases hT with ht|⟨t,ht⟩
   ·simp only[ht,if_true]
   ·simp only[ht,zdU]
    by_cases h3:nmIx t.locs x.2≥0
    ·rw[if_neg (by simpa using h3),if_neg (by simpa using h3),ih];simp only[zbY]
    ·rw[if_pos (by simpa using h3),if_pos (by simpa using h3)]
theorem zxH (m:Mdl) (x:NEx):excE m x=if (x.locals.map fun y=>(y.1,zbY m y)).length=0 then 12 else cpE m 9 [] (x.locals.map fun y=>(y.1,zbY m y)):=by
 unfold excE;rw[List.length_map,zsf]
theorem zrf (m:Mdl):∀(l:List NTm) (b:List ByteArray),tmsE m b l=cpE m 2 b (l.map fun x=>(x.1,zbH x))
 |[],_=>rfl
 |x::r,b=>by
  have ih:=zrf m r (b++[x.1]);simp only[tmsE,List.map_cons,cpE,zdU]
  by_cases h1:nmIx (m.comps.map (·.name)) x.1<0
  ·rw[if_pos (by simp;omega),if_pos h1]
  rw[if_neg (by simp;omega),if_neg h1]
  by_cases h2:nmIx b x.1≥0
  ·rw[if_pos (by simpa using h2),if_pos h2]
  rw[if_neg (by simpa using h2),if_neg h2];have e:(x.2=0∨bigB x.2=true)↔zbH x=false:=by
   unfold bigB zbH;simp only[Bool.or_eq_true,decide_eq_true_eq,Bool.and_eq_false_iff,decide_eq_false_iff_not];omega
  by_cases h3:x.2=0∨bigB x.2=true
  ·rw[if_pos h3,if_pos (e.1 h3)]
  ·rw[if_neg h3,if_neg fun h=>h3 (e.2 h),ih]
end Go.AI
namespace Go.AI
open Go.Proofs
end Go.AI
namespace Go.AI
open Go.Proofs
set_option maxRecDepth 20000
end Go.AI
namespace Go.AI
open Go.Proofs
end Go.AI
namespace Go.AI
open Go.Proofs
set_option maxRecDepth 20000
section
variable {c:Cx} {s:St} {k:List Item} {ops:Array Oper} {rest:List Nat} {o:Oper} {E0:Env} {H H0 H1:Heap} {O:List Heap}
end
section
variable {P:Program} {T:TT} {f:FuncId} {fn:Func} {code:Code}
end
section
variable {c:Cx} {s:St} {k:List Item} {ops:Array Oper} {rest:List Nat} {o:Oper} {E0:Env} {H:Heap} {O:List Heap}
end
abbrev obs (l:List Bool):Ob:=.arr 4 1 l.length (l.map fun b=>[bI b]) true
theorem ze6 (l:List Bool) (b:Bool):Ob.arr 4 1 (l.length+1) ((l.map fun b=>[bI b])++[[bI b]]) true=obs (l++[b]):=by simp[obs]
theorem zkJ (O:List Heap) (m:Mdl) (w:Int) {α:Type} (L:List α) (f:α→ByteArray) (g:α→Bool) (hm:mdlOk m) (hl:L.length≤1000000) :
  zao Tryz.prog 130 [mdlD m,ssD (L.map f),.i (.sl 1 (L.map g).length ((L.map g).map fun b=>[bI b])),ii w] O (ii (if (L.map fun y=>(f y,g y)).length=0 then 12 else cpE m w [] (L.map fun y=>(f y,g y)))) [] O:=by
 have h:=zjf O m w (L.map fun y=>(f y,g y)) hm (by rw[List.length_map];exact hl);simp only[List.map_map,List.length_map] at h ⊢;have e:ssD (L.map f)=.i (.sl 1 L.length (L.map fun y=>[strI (f y)])):=by
  show D.i (.sl 1 (L.map f).length ((L.map f).map fun s=>[strI s]))=_;rw[List.map_map,List.length_map];rfl
 rw[e];exact h
theorem zlC (O:List Heap) (m:Mdl) (i:Nat) (hi:i<m.excs.length) (hm:mdlOk m) (ht:∀c∈m.comps,∃t,zb4 m c=some t) :
  zao Tryz.prog 52 [mdlD m,ii i] O (ii (if nmE ((m.excs.map (·.name)).take i) m.excs[i].name≠0 then nmE ((m.excs.map (·.name)).take i) m.excs[i].name else excE m m.excs[i])) [] O:=by
 have hex:=hm.ex;have hx:=hm.exk m.excs[i] (List.getElem_mem hi);have hn:=fun O=>zr3 O m hex;have hf:=fun O=>zfd O (m.excs.map (·.name)) i (by rw[List.length_map];exact hi) (by rw[List.length_map];exact hex) (fun s hs=>by
  obtain⟨t,ht,rfl⟩:=List.mem_map.1 hs;exact (hm.exk t ht).1)
 rw[List.getElem_map] at hf;have gt:(m.excs.map nexI)[(i:Int).toNat]? = some (nexI m.excs[i]):=zan (f:=nexI) hi;have hw:IntKind.i64.wrap ((i:Int)+1)=((i+1:Nat):Int):=zaC (n:=1000001) (by omega) (by decide);have h4:=fun O=>zj2 O m hm.co;have h5:=fun O s=>zcz O (m.comps.map (·.name)) s (by rw[List.length_map];exact hm.co);have hT:=fun O x t h=>zjB O m x t hm.toszOk h;have h130:=fun O=>zkJ O m 9 m.excs[i].locals (·.1) (zbY m) hm hx.2;have hlocs:∀c t,zb4 m c=some t→t.locs.length≤1000000:=fun c t h=>(hm.tpk t (List.mem_of_find?_eq_some h)).ll;have hco:=hm.co;have hxl:=hx.2;rw[zxH];have hNl:(m.excs.map (·.name)).length=m.excs.length:=List.length_map _;generalize nmE ((m.excs.map (·.name)).take i) m.excs[i].name=e0 at *;generalize m.excs[i]=x at *;generalize m.excs.map (·.name)=N at *;obtain⟨xn,L⟩:=x;simp only at h130 hxl gt ⊢
 generalize (if (L.map fun y=>(y.1,zbY m y)).length=0 then (12:Int) else cpE m 9 [] (L.map fun y=>(y.1,zbY m y)))=R at *;clear hx hm;refine zaM [13] Tk Tryz.func52 rfl Tryz.call52 Tryz.ntmps52 (Nat.le_of_ble_eq_true rfl) fun E=>?_;refine zai Tk Tryz.func52 ?_;refine zaj Tk Tryz.func52 (hn _) rfl rfl rfl rfl rfl ?_;refine zad Tk Tryz.func52 (by exact⟨by rw[hw];omega,by show IntKind.i64.wrap ((i:Int)+1)≤(N.length:Int);rw[hw];omega⟩) ?_;refine zaj Tk Tryz.func52 (hf _) rfl rfl rfl rfl rfl ?_;refine zae Tk Tryz.func52 rfl (fun c0=>?_) (fun c0=>?_)
 ·have c0:e0≠0:=bneT c0;rw[if_pos c0];refine zag Tk (r:=ii e0) rfl rfl rfl trivial rfl rfl ?_;rfl
 have c0:¬e0≠0:=fun h=>h (bneF c0);rw[if_neg c0];refine zad Tk Tryz.func52 (by exact⟨by omega,by show (i:Int)<(m.excs.length:Int);omega⟩) ?_;refine zap Tk Tryz.func52 (gt) ?_;refine g_wk (zbn 6 40 9 1 rfl rfl rfl) ?_;refine g_wk (zbn 7 60 4 1 rfl rfl rfl) ?_;refine zah ?_;refine zak (fun j:Nat=>[(2,.own 0 2 0 0),(6,.osl 0 40),(7,.osl 0 60),(25,.i (.sl 2 L.length (L.map nlcI))),(26,ii L.length),(27,ii j)]) (fun j=>[(2,.box (mdlC m)),(40,oss ((L.take j).map (·.1))),(60,obs ((L.take j).map (zbY m)))]) (fun _=>O) 66
  (fun j=>j≤L.length) (fun j=>L.length-j) 0 (Nat.zero_le _) ⟨rfl,rfl,rfl,rfl,rfl,rfl,trivial⟩ rfl ⟨rfl,rfl,rfl,trivial⟩ rfl rfl ?_
 intro j hj ih;have hj:j≤L.length:=hj;have hll:((L.take j).map (·.1)).length≤1000000:=by rw[List.length_map,List.length_take];omega
 have hll2:((L.take j).map (zbY m)).length≤1000000:=by rw[List.length_map,List.length_take];omega
 refine zai Tk Tryz.func52 ?_;refine zae Tk Tryz.func52 rfl (fun g1=>?_) (fun g1=>?_)
 ·have g1:j<L.length:=by simpa using g1
  have gs:(L.map nlcI)[(j:Int).toNat]? = some (nlcI L[j]):=zan (f:=nlcI) g1;have t1:=zaI (fun y:NLc=>y.1) g1;have t2:=zaI (zbY m) g1;have hj1:ii (IntKind.i64.wrap ((j:Int)+1))=ii ((j+1:Nat):Int):=congrArg ii (zaC (n:=1000001) (by omega) (by decide));have h5':=fun O=>h5 O L[j].1;have hfk:=zdD Ins.name m.comps L[j].1;unfold zbY at t2;generalize (L.take j).map (·.1)=A at *;change _=((L.take j).map (zbY m))++_ at t2;change ((L.take (j+1)).map (zbY m))=_ at t2;generalize (L.take j).map (zbY m)=B at *;generalize L[j]=y at *;obtain⟨yc,yl⟩:=y;simp only at h5' hfk t1 t2;refine zad Tk Tryz.func52 (by exact⟨by omega,by show (j:Int)<(L.length:Int);omega⟩) ?_;refine zap Tk Tryz.func52 (gs) ?_;rcases hfk with ⟨f1,f2⟩|⟨k,c,f1,f2,f3⟩
  ·have f2:nmIx (m.comps.map (·.name)) yc = -1:=f2;rw[f2] at h5';rw[f1] at t2;simp only at t2;refine zav Tk Tryz.func52 zaz rfl ?_;refine zaJ Tk (fun _=>h4 _) rfl rfl rfl ?_;refine zaJ Tk (fun _=>h5' _) rfl rfl rfl ?_;refine zaB Tk Tryz.func52 (by kernel_rfl) ?_;refine zad Tk Tryz.func52 (by exact⟨by show (A.length+1)*16≤140737488355328;omega,by show A.length+1≤9223372036854775807;omega⟩) ?_;refine zav Tk Tryz.func52 zaz rfl ?_;refine skF Tk ?_;refine zdY Tk Tryz.func52 ([19,20]) (by kernel_rfl) (by kernel_rfl) ?_;refine zad Tk Tryz.func52 (by exact⟨by show (B.length+1)*1≤140737488355328;omega,by show B.length+1≤9223372036854775807;omega⟩) ?_;refine zah ?_;refine ih (j+1) _ _ g1 (by omega) ⟨rfl,rfl,rfl,rfl,rfl,hj1,trivial⟩ rfl ⟨rfl,?_,?_,trivial⟩ rfl rfl
   ·rw[t1];exact congrArg some (za9 A yc)
   ·rw[t2];exact congrArg some (ze6 B _)
  ·have f3:nmIx (m.comps.map (·.name)) yc=(k:Int):=f3;rw[f3] at h5';rw[f2] at t2;simp only at t2;obtain⟨t,htt⟩:=ht c (List.mem_of_getElem? f1);have h35:=fun O=>hT O c t htt;have hloc:=hlocs c t htt;have h39:=fun O=>zcz O t.locs yl hloc;rw[htt] at t2;simp only at t2;have hk:k<m.comps.length:=(List.getElem?_eq_some_iff.1 f1).1;have gc:(m.comps.map insI)[(if (0:Int)>((k:Nat):Int) then (0:Int) else ((k:Nat):Int)).toNat]? = some (insI c):=by
    rw[if_neg (by omega),Int.toNat_natCast,List.getElem?_map,f1];rfl
   generalize nmIx t.locs yl=q at *;obtain⟨cn,ct,ce⟩:=c;obtain⟨tn,tl,te,⟨tal,tlo,tini,tmk,tvr,tmo⟩⟩:=t;simp only at h39;refine zav Tk Tryz.func52 zaz rfl ?_;refine zaJ Tk (fun _=>h4 _) rfl rfl rfl ?_;refine zaJ Tk (fun _=>h5' _) rfl rfl rfl ?_;refine zaB Tk Tryz.func52 (by kernel_rfl) ?_;refine zad Tk Tryz.func52 (by exact⟨by show (A.length+1)*16≤140737488355328;omega,by show A.length+1≤9223372036854775807;omega⟩) ?_;refine zav Tk Tryz.func52 zaz rfl ?_;refine zbS Tk (fun _=>?_) (fun h=>absurd h (by simpa using h));refine zas Tk (by exact⟨by rw[if_neg (by omega)];omega,by rw[if_neg (by omega)];show ((k:Nat):Int)<(m.comps.length:Int);omega⟩) ?_;refine zaE Tk (gc) ?_;refine zaJ Tk (fun _=>h35 _) rfl rfl rfl ?_;refine zaJ Tk (fun _=>h39 _) rfl rfl rfl ?_;refine zdY Tk Tryz.func52 ([19,20]) (by kernel_rfl) (by kernel_rfl) ?_
   refine zad Tk Tryz.func52 (by exact⟨by show (B.length+1)*1≤140737488355328;omega,by show B.length+1≤9223372036854775807;omega⟩) ?_;refine zah ?_;refine ih (j+1) _ _ g1 (by omega) ⟨rfl,rfl,rfl,rfl,rfl,hj1,trivial⟩ rfl ⟨rfl,?_,?_,trivial⟩ rfl rfl
   ·rw[t1];exact congrArg some (za9 A yc)
   ·rw[t2];exact congrArg some (ze6 B _)
 ·have g1:L.length≤j:=by simpa using g1
  rw[List.take_of_length_le g1];refine zat ?_;refine zaq (zam 40 rfl rfl) ?_;refine zaq (zaQ rfl) ?_;refine zaq (zam 60 rfl rfl) ?_;refine zaq (zaQ rfl) ?_;refine zai Tk Tryz.func52 ?_;refine g_go Tk Tryz.func52 ?_;refine zaj Tk Tryz.func52 (h130 _) rfl rfl rfl rfl rfl ?_;refine zag Tk (r:=ii R) rfl rfl rfl trivial rfl rfl ?_;rfl
theorem zkI (O:List Heap) (m:Mdl) (i:Nat) (hi:i<m.cons.length) (hm:mdlOk m) :
  zao Tryz.prog 53 [mdlD m,ii i] O (ii (if nmE ((m.cons.map (·.name)).take i) m.cons[i].name≠0 then nmE ((m.cons.map (·.name)).take i) m.cons[i].name else conE m m.cons[i])) [] O:=by
 have hex:=hm.cn;have hx:=hm.cnk m.cons[i] (List.getElem_mem hi);have hn:=fun O=>zr2 O m hex;have hf:=fun O=>zfd O (m.cons.map (·.name)) i (by rw[List.length_map];exact hi) (by rw[List.length_map];exact hex) (fun s hs=>by
  obtain⟨t,ht,rfl⟩:=List.mem_map.1 hs;exact (hm.cnk t ht).1)
 rw[List.getElem_map] at hf;have gt:(m.cons.map ncnI)[(i:Int).toNat]? = some (ncnI m.cons[i]):=zan (f:=ncnI) hi;have hw:IntKind.i64.wrap ((i:Int)+1)=((i+1:Nat):Int):=zaC (n:=1000001) (by omega) (by decide);have h130:=fun O=>zkJ O m 2 m.cons[i].terms (·.1) zbH hm hx.2;have hxl:=hx.2;have hE:conE m m.cons[i]=if (if (m.cons[i].terms.map fun y=>(y.1,zbH y)).length=0 then (12:Int) else cpE m 2 [] (m.cons[i].terms.map fun y=>(y.1,zbH y)))≠0 then (if (m.cons[i].terms.map fun y=>(y.1,zbH y)).length=0 then (12:Int) else cpE m 2 [] (m.cons[i].terms.map fun y=>(y.1,zbH y))) else if bigB m.cons[i].bound=true then 2 else 0:=by
  unfold conE;rw[zrf,List.length_map]
  by_cases h:m.cons[i].terms.length=0
  ·rw[if_pos h,if_pos h,if_pos (by decide)]
  ·rw[if_neg h,if_neg h]
 rw[hE];clear hE;have hNl:(m.cons.map (·.name)).length=m.cons.length:=List.length_map _;generalize nmE ((m.cons.map (·.name)).take i) m.cons[i].name=e0 at *;generalize m.cons[i]=x at *;generalize m.cons.map (·.name)=N at *;obtain⟨xn,L,bd⟩:=x;simp only at h130 hxl gt ⊢;generalize (if (L.map fun y=>(y.1,zbH y)).length=0 then (12:Int) else cpE m 2 [] (L.map fun y=>(y.1,zbH y)))=R at *;clear hx hm;refine zaM [12] Tk Tryz.func53 rfl Tryz.call53 Tryz.ntmps53 (Nat.le_of_ble_eq_true rfl) fun E=>?_;refine zai Tk Tryz.func53 ?_;refine zaj Tk Tryz.func53 (hn _) rfl rfl rfl rfl rfl ?_;refine zad Tk Tryz.func53 (by exact⟨by rw[hw];omega,by show IntKind.i64.wrap ((i:Int)+1)≤(N.length:Int);rw[hw];omega⟩) ?_;refine zaj Tk Tryz.func53 (hf _) rfl rfl rfl rfl rfl ?_;refine zae Tk Tryz.func53 rfl (fun c0=>?_) (fun c0=>?_)
 ·have c0:e0≠0:=bneT c0;rw[if_pos c0];refine zag Tk (r:=ii e0) rfl rfl rfl trivial rfl rfl ?_;rfl
 have c0:¬e0≠0:=fun h=>h (bneF c0);rw[if_neg c0];refine zad Tk Tryz.func53 (by exact⟨by omega,by show (i:Int)<(m.cons.length:Int);omega⟩) ?_;refine zap Tk Tryz.func53 (gt) ?_;refine g_wk (zbn 6 36 9 1 rfl rfl rfl) ?_;refine g_wk (zbn 7 52 4 1 rfl rfl rfl) ?_;refine zah ?_;refine zak (fun j:Nat=>[(1,ii i),(2,.own 0 2 0 0),(6,.osl 0 36),(7,.osl 0 52),(26,.i (.sl 2 L.length (L.map ntmI))),(27,ii L.length),(28,ii j)]) (fun j=>[(2,.box (mdlC m)),(36,oss ((L.take j).map (·.1))),(52,obs ((L.take j).map zbH))]) (fun _=>O) 73
  (fun j=>j≤L.length) (fun j=>L.length-j) 0 (Nat.zero_le _) ⟨rfl,rfl,rfl,rfl,rfl,rfl,rfl,trivial⟩ rfl ⟨rfl,rfl,rfl,trivial⟩ rfl rfl ?_
 intro j hj ih;have hj:j≤L.length:=hj;have hll:((L.take j).map (·.1)).length≤1000000:=by rw[List.length_map,List.length_take];omega
 have hll2:((L.take j).map zbH).length≤1000000:=by rw[List.length_map,List.length_take];omega
 refine zai Tk Tryz.func53 ?_;refine zae Tk Tryz.func53 rfl (fun g1=>?_) (fun g1=>?_)
 ·have g1:j<L.length:=by simpa using g1
  have gs:(L.map ntmI)[(j:Int).toNat]? = some (ntmI L[j]):=zan (f:=ntmI) g1;have t1:=zaI (fun y:NTm=>y.1) g1;have t2:=zaI zbH g1;have hj1:ii (IntKind.i64.wrap ((j:Int)+1))=ii ((j+1:Nat):Int):=congrArg ii (zaC (n:=1000001) (by omega) (by decide));generalize (L.take j).map (·.1)=A at *;generalize (L.take j).map zbH=B at *;generalize L[j]=y at *;obtain⟨yc,yf⟩:=y;simp only at t1;unfold zbH at t2;simp only at t2;refine zad Tk Tryz.func53 (by exact⟨by omega,by show (j:Int)<(L.length:Int);omega⟩) ?_;refine zap Tk Tryz.func53 (gs) ?_;refine zad Tk Tryz.func53 (by exact⟨by show (A.length+1)*16≤140737488355328;omega,by show A.length+1≤9223372036854775807;omega⟩) ?_;have fin:∀b,(decide (yf≠0)&&decide (yf ≥ -65536)&&decide (yf≤65536))=b→(some (obs (B++[b])):Option Ob)=some (obs ((L.take (j+1)).map zbH)):=by
   intro b hb;rw[←hb,show (L.take (j+1)).map zbH=_ from t2]
  refine zaK Tk Tryz.func53 rfl (fun k1=>?_) (fun k1=>?_)
  ·have k1:yf≠0:=bneT k1;refine zaK Tk Tryz.func53 rfl (fun k2=>?_) (fun k2=>?_)
   ·have k2:yf ≥ -65536:=of_decide_eq_true k2;refine zad Tk Tryz.func53 (by exact⟨by show (B.length+1)*1≤140737488355328;omega,by show B.length+1≤9223372036854775807;omega⟩) ?_;refine zah ?_;refine ih (j+1) _ _ g1 (by omega) ⟨rfl,rfl,rfl,rfl,rfl,rfl,hj1,trivial⟩ rfl ⟨rfl,?_,?_,trivial⟩ rfl rfl
    ·rw[t1];exact congrArg some (za9 A yc)
    ·refine Eq.trans (congrArg some (ze6 B _)) (fin _ ?_);simp[k1,k2]
   ·have k2:¬yf ≥ -65536:=of_decide_eq_false k2;refine zad Tk Tryz.func53 (by exact⟨by show (B.length+1)*1≤140737488355328;omega,by show B.length+1≤9223372036854775807;omega⟩) ?_;refine zah ?_;refine ih (j+1) _ _ g1 (by omega) ⟨rfl,rfl,rfl,rfl,rfl,rfl,hj1,trivial⟩ rfl ⟨rfl,?_,?_,trivial⟩ rfl rfl
    ·rw[t1];exact congrArg some (za9 A yc)
    ·refine Eq.trans (congrArg some (ze6 B _)) (fin _ ?_);simp[k1,k2]
  ·have k1:yf=0:=bneF k1;refine gkF Tk Tryz.func53 rfl ?_;refine zad Tk Tryz.func53 (by exact⟨by show (B.length+1)*1≤140737488355328;omega,by show B.length+1≤9223372036854775807;omega⟩) ?_;refine zah ?_;refine ih (j+1) _ _ g1 (by omega) ⟨rfl,rfl,rfl,rfl,rfl,rfl,hj1,trivial⟩ rfl ⟨rfl,?_,?_,trivial⟩ rfl rfl
   ·rw[t1];exact congrArg some (za9 A yc)
   ·refine Eq.trans (congrArg some (ze6 B _)) (fin _ ?_);simp[k1]
 ·have g1:L.length≤j:=by simpa using g1
  rw[List.take_of_length_le g1];refine zat ?_;refine zaq (zam 36 rfl rfl) ?_;refine zaq (zaQ rfl) ?_;refine zaq (zam 52 rfl rfl) ?_;refine zaq (zaQ rfl) ?_;refine zai Tk Tryz.func53 ?_;refine g_go Tk Tryz.func53 ?_;refine zaj Tk Tryz.func53 (h130 _) rfl rfl rfl rfl rfl ?_;refine zae Tk Tryz.func53 rfl (fun c1=>?_) (fun c1=>?_)
  ·have c1:R≠0:=bneT c1;rw[if_pos c1];refine zag Tk (r:=ii R) rfl rfl rfl trivial rfl rfl ?_;rfl
  have c1:¬R≠0:=fun h=>h (bneF c1);rw[if_neg c1];refine zad Tk Tryz.func53 (by exact⟨by omega,by show (i:Int)<(m.cons.length:Int);omega⟩) ?_;refine zap Tk Tryz.func53 (gt) ?_;unfold bigB;refine zaK Tk Tryz.func53 rfl (fun c2=>?_) (fun c2=>?_)
  ·have c2:bd < -65536:=of_decide_eq_true c2;refine gcT Tk Tryz.func53 rfl ?_;refine zag Tk (r:=ii 2) rfl rfl rfl trivial rfl rfl ?_;simp[c2]
  ·have c2:¬bd < -65536:=of_decide_eq_false c2;refine zae Tk Tryz.func53 rfl (fun c3=>?_) (fun c3=>?_)
   ·have c3:bd>65536:=of_decide_eq_true c3;refine zag Tk (r:=ii 2) rfl rfl rfl trivial rfl rfl ?_;simp[c3]
   ·have c3:¬bd>65536:=of_decide_eq_false c3;refine zag Tk (r:=ii 0) rfl rfl rfl trivial rfl rfl ?_;simp only[c2,c3,decide_false,Bool.or_self,Bool.false_eq_true,if_false]
end Go.AI
namespace Go.AI
open Go.Proofs
inductive FrzC (nm:Nat) (d:I):List D→List D→Prop
 |nil:FrzC nm d [] []
 |i {x:I} {l m:List D}:FrzC nm d l m→FrzC nm d (.i x::l) (.i x::m)
 |f {k:FuncId} {l m:List D}:FrzC nm d l m→FrzC nm d (.fn (.func k) [] []::l) (.fn (.func k) [] []::m)
 |osl {l m:List D}:FrzC nm d l m→FrzC nm d (.osl 0 nm::l) (.i d::m)
 |agg {a b l m:List D}:FrzC nm d a b→FrzC nm d l m→FrzC nm d (.agg a::l) (.agg b::m)
theorem FrzC.rep {K K':Kn} {ρ:Nat→Nat→Loc} {sh sh':Nat→Nat→Option Sh} {nm es n:Nat} {xs:List (List I)} (hle:K.le K') (hs:sh 0 nm=some (.arr es n)) (hr:Rep K' (.slice (ρ 0 nm).base n (ρ 0 nm).cap) (.sl es n xs)) :
  ∀{a b:List D},FrzC nm (.sl es n xs) a b→∀{vs:List Value},RepDL K ρ sh vs a→RepDL K' ρ sh' vs b:=by
 intro a b h
 induction h with
 |nil=>
  intro vs r
  cases r
  exact .nil
 |i _ ih=>
  intro vs r
  cases r with
  |cons r rs=>cases r with
   |i r=>exact .cons (.i (r.mono hle)) (ih rs)
 |f _ ih=>
  intro vs r
  cases r with
  |cons r rs=>cases r with
   |fn h1 h2=>
    cases h1
    cases h2
    exact .cons (.fn .nil .nil) (ih rs)
 |osl _ ih=>
  intro vs r
  cases r with
  |cons r rs=>
   have:=zcO r hs;subst this;exact .cons (.i hr) (ih rs)
 |agg _ _ ih1 ih2=>
  intro vs r
  cases r with
  |cons r rs=>cases r with
   |agg r=>exact .cons (.agg (ih1 r)) (ih2 rs)
theorem zfY {c:Cx} {s:St} {o:Oper} {f:FuncId} {args dargs:List D} {res:D} {t nm ty es n:Nat} {xs:List (List I)} {wr:Bool} {H:Heap} {O:List Heap}
  (hspec:zao c.P f dargs [] res [] []) (hsh:Shut res) (ha:FrzC nm (.sl es n xs) args dargs) (ht:o.dst=some t) (hn:t<s.n) (hS:s.S=H::O) (hl:look H nm=some (.arr ty es n xs wr)) :
  Wp c o s f args {σ:=(t,res)::s.σ,S:=s.S,n:=s.n}:=by
 intro K ρ a w hi ⟨vs,hrun,hrep⟩ next Qe hnext
 have hh:=hi.h;rw[hS] at hh hrep;obtain⟨K',hle,hF⟩:=hh.freeze hl;have hown:=hF.own 0 nm (.arr ty es n xs false) (by simp[zab,zac]);have hrd:RepDL K' ρ (shape []) vs dargs:=FrzC.rep hle (by simp[shape,zab,hl,Ob.sh]) (zcG hown) ha hrep;have hE:HInv {K0:=K',ρ0:=fun d=>ρ (d+1),w0:=w,pr:=fun b=>b<w.heap.size,lt:=fun _ h=>h} K' ρ [] w:=
  ⟨hF.holds,fun _ _ _ e=>by simp[zab] at e,fun _ _ _ _ _ _ e=>by simp[zab] at e,Nat.le_refl _,fun _ _ _=>rfl,fun _ _ e=>by simp[zab] at e,fun _=>rfl,K'.le_refl,fun _ _ _ h=>.inl h,⟨rfl,rfl,rfl⟩⟩
 have fin:∀v w',(∃K2 ρ2,HInv (.of K' ρ w) K2 ρ2 ([]::[]) w'∧RepD K2 ρ2 (shape ([]::[])) v res)→next (a.put o.dst v) w':=by
  intro v w' ⟨K2,ρ2,h1,h2⟩;have hold:∀b,b<w.heap.size→w'.heap[b]? = w.heap[b]?:=fun b hb=>h1.old b hb fun d n ob e=>by simp[zab] at e
  have hg:Grow K ρ s.S w [] K ρ w':=by
   refine⟨K.le_refl,fun _ _ _ h=>.inl h,h1.size,hold,h1.rest,fun _ _ _=>rfl,fun b o x hx=>?_,fun _ _ h=>by simp[look] at h,fun _ _ _ _ h=>by simp[look] at h⟩;have h3:=hh.holds _ _ _ hx;have hb:b<w.heap.size:=by
    rcases Nat.lt_or_ge b w.heap.size with h|h
    ·exact h
    ·rw[hh.K_fresh h] at hx;cases hx
   rw[World.cell?,hold b hb];exact h3
  have hi0:=hi.h;obtain⟨hI,hst⟩:=HInv.grow (S:=s.S) hS hi0 (fun _ _ _ e=>e) (fun _ h=>by simp[look] at h) hg;have e0:addS s.S []=s.S:=by rw[hS];rfl
  rw[e0] at hI hst;refine hnext v w' K ρ ?_;rw[ht];refine⟨hI,hi.defers,by simp[Act.put];exact hi.size,fun t' d' e'=>?_⟩;rw[zdn (by rw[hi.size];exact hn)];simp only[zac] at e'
  split at e'
  ·rename_i e2;simp only[Option.some.injEq] at e';subst e';rw[if_pos e2];exact hsh _ _ _ _ _ _ _ h2
  ·rename_i e2;rw[if_neg e2];exact hi.slots _ _ e'
 rcases hspec _ K' ρ w vs hE hrd with ⟨h1,h2⟩|⟨v,w',h1,h2⟩
 ·rw[h1] at hrun;simp only[Oper.wp,hrun,Oper.upon];refine h2.mono ?_;rintro e w' ⟨v,rfl,hR⟩;exact fin v w' hR
 ·rw[h1] at hrun;simp only[Oper.wp,hrun,Oper.upon];exact fin v w' h2
end Go.AI
namespace Go.AI
open Go.Proofs
set_option maxRecDepth 20000
theorem zyX (O:List Heap) (m:Mdl) (k:Nat) (x:Ins) (h:m.comps[k]? = some x):zao Tryz.prog 31 [mdlD m,.agg [ii 3,ii k]] O (insD x) [] O:=by
 have hk:k<m.comps.length:=(List.getElem?_eq_some_iff.1 h).1;have gx:(m.comps.map insI)[(k:Int).toNat]? = some (insI x):=by rw[Int.toNat_natCast,List.getElem?_map,h];rfl
 obtain⟨xn,xt,xe⟩:=x;refine zaa Tk Tryz.func31 rfl Tryz.call31 Tryz.ntmps31 (Nat.le_of_ble_eq_true rfl) fun E=>?_;refine zai Tk Tryz.func31 ?_;refine gcT Tk Tryz.func31 rfl ?_;refine zad Tk Tryz.func31 (by exact⟨by omega,by show (k:Int)<(m.comps.length:Int);omega⟩) ?_;refine zap Tk Tryz.func31 (gx) ?_;refine zag Tk (r:=insD ⟨xn,xt,xe⟩) rfl rfl rfl trivial rfl rfl ?_;rfl
theorem zyW (O:List Heap) (m:Mdl) (a:Int) (k:Nat) (x:Ins) (ha:a≠3) (h:m.reqs[k]? = some x):zao Tryz.prog 31 [mdlD m,.agg [ii a,ii k]] O (insD x) [] O:=by
 have hk:k<m.reqs.length:=(List.getElem?_eq_some_iff.1 h).1;have gx:(m.reqs.map insI)[(k:Int).toNat]? = some (insI x):=by rw[Int.toNat_natCast,List.getElem?_map,h];rfl
 obtain⟨xn,xt,xe⟩:=x;refine zaa Tk Tryz.func31 rfl Tryz.call31 Tryz.ntmps31 (Nat.le_of_ble_eq_true rfl) fun E=>?_;refine zai Tk Tryz.func31 ?_;refine zae Tk Tryz.func31 rfl (fun c=>?_) (fun c=>?_)
 ·exact absurd (beqT c) ha
 refine zad Tk Tryz.func31 (by exact⟨by omega,by show (k:Int)<(m.reqs.length:Int);omega⟩) ?_;refine zap Tk Tryz.func31 (gx) ?_;refine zag Tk (r:=insD ⟨xn,xt,xe⟩) rfl rfl rfl trivial rfl rfl ?_;rfl
def zbN (m:Mdl):List ByteArray:=(m.comps++m.reqs).map (·.name)
def zbP (m:Mdl) (i:Nat):Plc×Int:=plc 3 (za6 Ins.name (insE m) ((zbN m).take i) (m.comps.drop i) i) (plc 4 (za6 Ins.name (reqE m) ((zbN m).take (max i m.comps.length)) (m.reqs.drop (i-m.comps.length)) (i-m.comps.length)) ((0,0),0) id) id
theorem zu8 (m:Mdl):(zbN m).take m.comps.length=m.comps.map (·.name):=by
 unfold zbN;rw[List.map_append,List.take_append_of_le_length (by rw[List.length_map];exact Nat.le_refl _),List.take_of_length_le (by rw[List.length_map];exact Nat.le_refl _)]
theorem zsx (m:Mdl):zbP m 0=plc 3 (za6 Ins.name (insE m) [] m.comps 0) (plc 4 (za6 Ins.name (reqE m) (m.comps.map (·.name)) m.reqs 0) ((0,0),0) id) id:=by
 unfold zbP;rw[Nat.zero_max,zu8,Nat.zero_sub];rfl
theorem zp5 (m:Mdl):(zbN m).length=m.comps.length+m.reqs.length:=by simp[zbN]
theorem znK {m:Mdl} {i:Nat} (h:i<m.comps.length):(zbN m)[i]? = some m.comps[i].name:=by
 unfold zbN;rw[List.getElem?_map,List.getElem?_append_left h,List.getElem?_eq_getElem h];rfl
theorem znJ {m:Mdl} {i:Nat} (h:m.comps.length≤i) (h2:i-m.comps.length<m.reqs.length):(zbN m)[i]? = some m.reqs[i-m.comps.length].name:=by
 unfold zbN;rw[List.getElem?_map,List.getElem?_append_right h,List.getElem?_eq_getElem h2];rfl
theorem zdH {α:Type} {l:List α} {i:Nat} {x:α} (h:l[i]? = some x):l.take (i+1)=l.take i++[x]:=by
 obtain⟨h1,h2⟩:=List.getElem?_eq_some_iff.1 h;rw[←h2];exact List.take_succ_eq_append_getElem h1
theorem zsw {m:Mdl} {i:Nat} (h:i<m.comps.length):zbP m i=if nmE ((zbN m).take i) m.comps[i].name≠0 then ((3,(i:Int)),nmE ((zbN m).take i) m.comps[i].name) else if insE m m.comps[i]≠0 then ((3,(i:Int)),insE m m.comps[i]) else zbP m (i+1):=by
 unfold zbP;rw[List.drop_eq_getElem_cons h];simp only[za6,←zdH (znK h)];have e1:max i m.comps.length=max (i+1) m.comps.length:=by omega
 have e2:i-m.comps.length=i+1-m.comps.length:=by omega
 rw[e1,e2]
 by_cases h1:nmE ((zbN m).take i) m.comps[i].name≠0
 ·rw[if_pos h1,if_pos h1];rfl
 rw[if_neg h1,if_neg h1]
 by_cases h2:insE m m.comps[i]≠0
 ·rw[if_pos h2,if_pos h2];rfl
 ·rw[if_neg h2,if_neg h2]
theorem zsu {m:Mdl} {i:Nat} (h:m.comps.length≤i) (h2:i-m.comps.length<m.reqs.length):zbP m i=if nmE ((zbN m).take i) m.reqs[i-m.comps.length].name≠0 then ((4,((i-m.comps.length:Nat):Int)),nmE ((zbN m).take i) m.reqs[i-m.comps.length].name) else if reqE m m.reqs[i-m.comps.length]≠0 then ((4,((i-m.comps.length:Nat):Int)),reqE m m.reqs[i-m.comps.length]) else zbP m (i+1):=by
 unfold zbP;rw[List.drop_eq_nil_of_le h,List.drop_eq_nil_of_le (show m.comps.length≤i+1 by omega),List.drop_eq_getElem_cons h2,Nat.max_eq_left h,Nat.max_eq_left (show m.comps.length≤i+1 by omega),show i+1-m.comps.length=i-m.comps.length+1 by omega];simp only[za6,←zdH (znJ h h2)]
 by_cases h1:nmE ((zbN m).take i) m.reqs[i-m.comps.length].name≠0
 ·rw[if_pos h1,if_pos h1];rfl
 rw[if_neg h1,if_neg h1]
 by_cases h2:reqE m m.reqs[i-m.comps.length]≠0
 ·rw[if_pos h2,if_pos h2];rfl
 ·rw[if_neg h2,if_neg h2]
theorem zsv {m:Mdl} {i:Nat} (h:m.comps.length+m.reqs.length≤i):zbP m i=((0,0),0):=by
 unfold zbP;rw[List.drop_eq_nil_of_le (by omega),List.drop_eq_nil_of_le (by omega)];rfl
theorem zke (O:List Heap) (m:Mdl) (x:Ins) (b:List ByteArray) (rq:Bool) (hm:mdlOk m) (hx:insOk x) (hb:b.length≤1000000) :
  zao Tryz.prog 129 [mdlD m,insD x,.i (.sl 1 (b.length+1) ((b.map fun s=>[strI s])++[[strI x.name]])),bb rq] O (ii (if nmE b x.name≠0 then nmE b x.name else if rq=true then reqE m x else insE m x)) [] O:=by
 have e:ssD (b++[x.name])=.i (.sl 1 (b.length+1) ((b.map fun s=>[strI s])++[[strI x.name]])):=by simp
 rw[←e];exact zlr O m x b rq hm hx hb
theorem zlq (O:List Heap) (m:Mdl) (hm:mdlOk m):zao Tryz.prog 51 [mdlD m] O (plcD (chkI m)) [] O:=by
 have hcl:=hm.co;have hrl:=hm.rq;have hck:=hm.cok;have hrk:=hm.rqk;have h129:=fun x b rq hx hb=>zke [] m x b rq hm hx hb;have hgc:=fun O k x h=>zyX O m k x h;have hgr:=fun O k x h=>zyW O m 4 k x (by decide) h;have hfc:=fun i h=>zsw (m:=m) (i:=i) h;have hfr:=fun i h h2=>zsu (m:=m) (i:=i) h h2;have hfe:=fun i h=>zsv (m:=m) (i:=i) h;unfold chkI;rw[←zsx];refine zaM [200063] Tk Tryz.func51 rfl Tryz.call51 Tryz.ntmps51 (Nat.le_of_ble_eq_true rfl) fun E=>?_;refine zai Tk Tryz.func51 ?_;refine zae Tk Tryz.func51 rfl (fun c1=>?_) (fun c1=>?_)
 ·have c1:m.comps.length=0:=by simpa using c1
  rw[if_pos c1];refine zag Tk (r:=plcD ((3,0),12)) rfl rfl rfl trivial rfl rfl ?_;rfl
 have c1:¬m.comps.length=0:=by simpa using c1
 rw[if_neg c1];refine zae Tk Tryz.func51 rfl (fun c2=>?_) (fun c2=>?_)
 ·have c2:m.comps.length>8:=by have:(m.comps.length:Int)>8:=of_decide_eq_true c2;omega
  rw[if_pos c2];refine zag Tk (r:=plcD ((3,8),3)) rfl rfl rfl trivial rfl rfl ?_;rfl
 have c2:¬m.comps.length>8:=by have:¬(m.comps.length:Int)>8:=of_decide_eq_false c2;omega
 rw[if_neg c2];have w1:IntKind.i64.wrap ((m.comps.length:Int)+(m.reqs.length:Int))=(m.comps.length:Int)+(m.reqs.length:Int):=w64 (by omega) (by omega);have w2:IntKind.i64.wrap (12-(m.comps.length:Int))=12-(m.comps.length:Int):=w64 (by omega) (by omega);refine zae Tk Tryz.func51 rfl (fun c3=>?_) (fun c3=>?_)
 ·have c3:m.comps.length+m.reqs.length>12:=by have:IntKind.i64.wrap ((m.comps.length:Int)+(m.reqs.length:Int))>12:=of_decide_eq_true c3;rw[w1] at this;omega
  rw[if_pos c3];refine zag Tk (r:=plcD ((4,IntKind.i64.wrap (12-(m.comps.length:Int))),3)) rfl rfl rfl trivial rfl rfl ?_;rw[w2]
 have c3:¬m.comps.length+m.reqs.length>12:=by have:¬IntKind.i64.wrap ((m.comps.length:Int)+(m.reqs.length:Int))>12:=of_decide_eq_false c3;rw[w1] at this;omega
 rw[if_neg c3];generalize hR:zbP m 0=R;refine g_wk (zbn 5 56 9 1 rfl rfl rfl) ?_;refine zah ?_;refine zak (fun i:Nat=>[(1,.own 0 1 0 0),(2,.own 0 2 0 0),(4,ii m.comps.length),(5,.osl 0 56),(6,ii i)]) (fun i=>[(1,.box (mdlC m)),(2,plcN),(56,oss ((zbN m).take i))]) (fun _=>O) 69
  (fun i=>i≤m.comps.length+m.reqs.length∧zbP m i=R) (fun i=>m.comps.length+m.reqs.length-i) 0 ⟨Nat.zero_le _,hR⟩ ⟨rfl,rfl,rfl,rfl,rfl,trivial⟩ rfl ⟨rfl,rfl,rfl,trivial⟩ rfl rfl ?_
 clear hR;rintro i ⟨hi,hno⟩ ih;have hL:((zbN m).take i).length=i:=by rw[List.length_take,zp5];omega
 refine zai Tk Tryz.func51 ?_;refine zae Tk Tryz.func51 rfl (fun g1=>?_) (fun g1=>?_);rotate_left
 ·have g1:¬(i:Int)<IntKind.i64.wrap ((m.comps.length:Int)+(m.reqs.length:Int)):=of_decide_eq_false g1;rw[w1] at g1;rw[hfe i (by omega)] at hno;subst hno;refine zag Tk (r:=plcD ((0,0),0)) rfl rfl rfl trivial rfl rfl ?_;rfl
 have g1:(i:Int)<IntKind.i64.wrap ((m.comps.length:Int)+(m.reqs.length:Int)):=of_decide_eq_true g1;rw[w1] at g1;have hj1:ii (IntKind.i64.wrap ((i:Int)+1))=ii ((i+1:Nat):Int):=congrArg ii (zaC (n:=1000001) (by omega) (by decide));refine zae Tk Tryz.func51 rfl (fun g2=>?_) (fun g2=>?_)
 ·have g2:m.comps.length≤i:=by simpa using g2
  have g3:i-m.comps.length<m.reqs.length:=by omega
  have w3:IntKind.i64.wrap ((i:Int)-(m.comps.length:Int))=((i-m.comps.length:Nat):Int):=by rw[w64 (by omega) (by omega)];omega
  rw[hfr i g2 g3] at hno;have ht:=zdH (znJ g2 g3);have hx:=hrk _ (List.getElem_mem g3);have hg:=fun O=>hgr O _ _ (List.getElem?_eq_getElem g3);rw[←w3] at hg;generalize m.reqs[i-m.comps.length]=x at *;have h1:=h129 x ((zbN m).take i) true hx (by omega);generalize (zbN m).take i=b at *;obtain⟨xn,xt,xe⟩:=x;simp only[if_true] at h1 ht hno;have hres:(if nmE b xn≠0 then ((4,((i-m.comps.length:Nat):Int)),nmE b xn) else if reqE m ⟨xn,xt,xe⟩≠0 then ((4,((i-m.comps.length:Nat):Int)),reqE m ⟨xn,xt,xe⟩) else zbP m (i+1))=if (if nmE b xn≠0 then nmE b xn else reqE m ⟨xn,xt,xe⟩)≠0 then ((4,((i-m.comps.length:Nat):Int)),if nmE b xn≠0 then nmE b xn else reqE m ⟨xn,xt,xe⟩) else zbP m (i+1):=by
   by_cases k1:nmE b xn≠0
   ·simp only[if_pos k1]
   ·simp only[if_neg k1]
  rw[hres] at hno;clear hres;generalize (if nmE b xn≠0 then nmE b xn else reqE m ⟨xn,xt,xe⟩)=e at *;refine zaj Tk Tryz.func51 (hg _) rfl rfl rfl rfl rfl ?_;refine zad Tk Tryz.func51 (by exact⟨by show (b.length+1)*16≤140737488355328;omega,by show b.length+1≤9223372036854775807;omega⟩) ?_;have h1:zao Tryz.prog 129 [mdlD m,insD ⟨xn,xt,xe⟩,.i (.sl 1 (b.length+1) ((b.map fun s=>[strI s])++[[strI xn]])),bb (decide ((i:Int)≥(m.comps.length:Int)))] [] (ii e) [] []:=by
   rw[decide_eq_true (by omega)];exact h1
  refine zb8 Tk Tryz.func51 rfl rfl rfl rfl (zfY h1 (zeq _) (.agg (.i (.i (.i (.i (.i (.i (.i .nil))))))) (.agg (.i (.i (.i .nil))) (.osl (.i .nil)))) rfl (show 63<69 by decide) rfl rfl) ?_;refine zae Tk Tryz.func51 rfl (fun c4=>?_) (fun c4=>?_)
  ·have c4:e≠0:=bneT c4;rw[if_pos c4] at hno;subst hno;refine zag Tk (r:=plcD ((4,IntKind.i64.wrap ((i:Int)-(m.comps.length:Int))),e)) rfl rfl rfl trivial rfl rfl ?_;rw[w3]
  have c4:¬e≠0:=fun h=>h (bneF c4);rw[if_neg c4] at hno;refine zah ?_;refine ih (i+1) _ _ ⟨by omega,hno⟩ (by omega) ⟨rfl,rfl,rfl,rfl,hj1,trivial⟩ rfl ⟨rfl,rfl,?_,trivial⟩ rfl rfl;rw[ht];exact congrArg some (za9 b xn)
 ·have g2:i<m.comps.length:=by simpa using g2
  rw[hfc i g2] at hno;have ht:=zdH (znK g2);have hx:=hck _ (List.getElem_mem g2);have hg:=fun O=>hgc O _ _ (List.getElem?_eq_getElem g2);generalize m.comps[i]=x at *;have h1:=h129 x ((zbN m).take i) false hx (by omega);generalize (zbN m).take i=b at *;obtain⟨xn,xt,xe⟩:=x;simp only[Bool.false_eq_true,if_false] at h1 ht hno;have hres:(if nmE b xn≠0 then ((3,(i:Int)),nmE b xn) else if insE m ⟨xn,xt,xe⟩≠0 then ((3,(i:Int)),insE m ⟨xn,xt,xe⟩) else zbP m (i+1))=if (if nmE b xn≠0 then nmE b xn else insE m ⟨xn,xt,xe⟩)≠0 then ((3,(i:Int)),if nmE b xn≠0 then nmE b xn else insE m ⟨xn,xt,xe⟩) else zbP m (i+1):=by
   by_cases k1:nmE b xn≠0
   ·simp only[if_pos k1]
   ·simp only[if_neg k1]
  rw[hres] at hno;clear hres;generalize (if nmE b xn≠0 then nmE b xn else insE m ⟨xn,xt,xe⟩)=e at *;refine zaj Tk Tryz.func51 (hg _) rfl rfl rfl rfl rfl ?_;refine zad Tk Tryz.func51 (by exact⟨by show (b.length+1)*16≤140737488355328;omega,by show b.length+1≤9223372036854775807;omega⟩) ?_;have h1:zao Tryz.prog 129 [mdlD m,insD ⟨xn,xt,xe⟩,.i (.sl 1 (b.length+1) ((b.map fun s=>[strI s])++[[strI xn]])),bb (decide ((i:Int)≥(m.comps.length:Int)))] [] (ii e) [] []:=by
   rw[decide_eq_false (by omega)];exact h1
  refine zb8 Tk Tryz.func51 rfl rfl rfl rfl (zfY h1 (zeq _) (.agg (.i (.i (.i (.i (.i (.i (.i .nil))))))) (.agg (.i (.i (.i .nil))) (.osl (.i .nil)))) rfl (show 63<69 by decide) rfl rfl) ?_;refine zae Tk Tryz.func51 rfl (fun c4=>?_) (fun c4=>?_)
  ·have c4:e≠0:=bneT c4;rw[if_pos c4] at hno;subst hno;refine zag Tk (r:=plcD ((3,i),e)) rfl rfl rfl trivial rfl rfl ?_;rfl
  have c4:¬e≠0:=fun h=>h (bneF c4);rw[if_neg c4] at hno;refine zah ?_;refine ih (i+1) _ _ ⟨by omega,hno⟩ (by omega) ⟨rfl,rfl,rfl,rfl,hj1,trivial⟩ rfl ⟨rfl,rfl,?_,trivial⟩ rfl rfl;rw[ht];exact congrArg some (za9 b xn)
theorem zjb {α:Type} {nm:α→ByteArray} {err:α→Int} {l:List α} {i:Nat} (h:i<l.length):za6 nm err ((l.map nm).take i) (l.drop i) i=if (if nmE ((l.map nm).take i) (nm l[i])≠0 then nmE ((l.map nm).take i) (nm l[i]) else err l[i])≠0 then some (i,if nmE ((l.map nm).take i) (nm l[i])≠0 then nmE ((l.map nm).take i) (nm l[i]) else err l[i]) else za6 nm err ((l.map nm).take (i+1)) (l.drop (i+1)) (i+1):=by
 rw[List.drop_eq_getElem_cons h];have ht:(l.map nm).take (i+1)=(l.map nm).take i++[nm l[i]]:=zdH (by rw[List.getElem?_map,List.getElem?_eq_getElem h];rfl);simp only[za6,ht]
 by_cases k1:nmE ((l.map nm).take i) (nm l[i])≠0
 ·simp only[if_pos k1]
 ·simp only[if_neg k1]
theorem zx3 (O:List Heap) (m:Mdl) (hm:mdlOk m):zao Tryz.prog 15 [mdlD m] O (plcD (mdlE m)) [] O:=by
 have h0:=fun O=>zdv O m.name hm.nm;have hev:=hm.ev;have hen:=hm.evn;have htl:=hm.tp;have hxl:=hm.ex;have hcl:=hm.cn;have h50:=fun O i hi=>zpp O m i hi hm;have h51:=fun O=>zlq O m hm;have h52:=fun O i hi h=>zlC O m i hi hm h;have h53:=fun O i hi=>zkI O m i hi hm;have hti:(chkI m).2=0→∀c∈m.comps,∃t,zb4 m c=some t:=fun h c hc=>by
  obtain⟨t,h1,_⟩:=ziZ (zlV h c hc);exact⟨t,h1⟩
 rw[zlj];generalize chkI m=cI at *;unfold chkT chkC;generalize hRT:za6 Tpl.name tplE [] m.tpls 0=RT;generalize hRX:za6 NEx.name (excE m) [] m.excs 0=RX;generalize hRC:za6 NCn.name (conE m) [] m.cons 0=RC;generalize hRE:evsP [] m.evs 0=RE;generalize zaW m.name=nb at *;have hA:∀O i,i<m.evs.length→zao Tryz.prog 46 [.i (.sl 5 (IntKind.i64.wrap ((i:Int)+1)).toNat ((m.evs.map evtI).take (IntKind.i64.wrap ((i:Int)+1)).toNat))] O (ii (zjo (m.evs.take (i+1)))) [] O:=fun O i hi=>by
  rw[zaC (i:=i) (n:=1000001) (by omega) (by decide),Int.toNat_natCast,←zdI evtI 5 hi];exact ztv O (m.evs.take (i+1)) (by rw[List.length_take];omega) fun x hx=>hen x (List.mem_of_mem_take hx)
 clear hm hen;obtain⟨⟨i1,i2⟩,i3⟩:=cI;simp only at hti ⊢;refine zaa Tk Tryz.func15 rfl Tryz.call15 Tryz.ntmps15 (Nat.le_of_ble_eq_true rfl) fun E=>?_;refine zai Tk Tryz.func15 ?_;refine zaj Tk Tryz.func15 (h0 _) rfl rfl rfl rfl rfl ?_;refine zae Tk Tryz.func15 rfl (fun c1=>?_) (fun c1=>?_)
 ·have c1:nb=false:=by simpa using c1
  rw[if_pos c1];refine zag Tk (r:=plcD ((0,0),7)) rfl rfl rfl trivial rfl rfl ?_;rfl
 have c1:¬nb=false:=by simpa using c1
 rw[if_neg c1];clear h0;refine zah ?_;refine zak (fun i:Nat=>[(1,.own 0 1 0 0),(2,.own 0 2 0 0),(4,ii i)]) (fun i=>[(1,.box (mdlC m)),(2,plcN)]) (fun _=>O) 107
  (fun i=>i≤m.evs.length∧evsP (m.evs.take i) (m.evs.drop i) i=RE) (fun i=>m.evs.length-i) 0 ⟨Nat.zero_le _,hRE⟩ ⟨rfl,rfl,rfl,trivial⟩ rfl ⟨rfl,rfl,trivial⟩ rfl rfl ?_
 clear hRE;rintro i ⟨hi,hno⟩ ih;refine zai Tk Tryz.func15 ?_;refine zae Tk Tryz.func15 rfl (fun g1=>?_) (fun g1=>?_)
 ·have g1:i<m.evs.length:=by simpa using g1
  have hw:IntKind.i64.wrap ((i:Int)+1)=((i+1:Nat):Int):=zaC (n:=1000001) (by omega) (by decide);have ht:m.evs.take (i+1)=m.evs.take i++[m.evs[i]]:=List.take_succ_eq_append_getElem g1;have hA':=fun O=>hA O i g1;rw[List.drop_eq_getElem_cons g1] at hno;simp only[evsP,←ht] at hno;generalize zjo (m.evs.take (i+1))=e1 at *;refine zad Tk Tryz.func15 (by exact⟨by rw[hw];omega,by rw[hw];show ((i+1:Nat):Int)≤(m.evs.length:Int);omega⟩) ?_;refine zaj Tk Tryz.func15 (hA' _) rfl rfl rfl rfl rfl ?_;refine zae Tk Tryz.func15 rfl (fun c2=>?_) (fun c2=>?_)
  ·have c2:e1≠0:=bneT c2;rw[if_pos c2] at hno;subst hno;refine zag Tk (r:=plcD ((1,i),e1)) rfl rfl rfl trivial rfl rfl ?_;rfl
  have c2:¬e1≠0:=fun h=>h (bneF c2);rw[if_neg c2] at hno;refine zah ?_;exact ih (i+1) _ _ ⟨g1,hno⟩ (by omega) ⟨rfl,rfl,congrArg ii hw,trivial⟩ rfl ⟨rfl,rfl,trivial⟩ rfl rfl
 have g1:m.evs.length≤i:=by simpa using g1
 rw[List.drop_eq_nil_of_le g1] at hno;have hno:none=RE:=hno;subst hno;rw[show ∀V:Plc×Int,plc 1 none V id=V from fun _=>rfl];clear ih hA g1 hi;refine zae Tk Tryz.func15 rfl (fun c3=>?_) (fun c3=>?_)
 ·have c3:m.tpls.length>16:=by have:(m.tpls.length:Int)>16:=of_decide_eq_true c3;omega
  rw[if_pos c3];refine zag Tk (r:=plcD ((2,16),3)) rfl rfl rfl trivial rfl rfl ?_;rfl
 have c3:¬m.tpls.length>16:=by have:¬(m.tpls.length:Int)>16:=of_decide_eq_false c3;omega
 rw[if_neg c3];refine zah ?_;refine zak (fun i:Nat=>[(1,.own 0 1 0 0),(2,.own 0 2 0 0),(6,ii i)]) (fun i=>[(1,.box (mdlC m)),(2,plcN)]) (fun _=>O) 107
  (fun i=>i≤m.tpls.length∧za6 Tpl.name tplE ((m.tpls.map (·.name)).take i) (m.tpls.drop i) i=RT) (fun i=>m.tpls.length-i) 0 ⟨Nat.zero_le _,hRT⟩ ⟨rfl,rfl,rfl,trivial⟩ rfl ⟨rfl,rfl,trivial⟩ rfl rfl ?_
 clear hRT;rintro i ⟨hi,hno⟩ ih;refine zai Tk Tryz.func15 ?_;refine zae Tk Tryz.func15 rfl (fun g1=>?_) (fun g1=>?_)
 ·have g1:i<m.tpls.length:=by simpa using g1
  have hj1:ii (IntKind.i64.wrap ((i:Int)+1))=ii ((i+1:Nat):Int):=congrArg ii (zaC (n:=1000001) (by omega) (by decide));have h50':=fun O=>h50 O i g1;rw[zjb g1] at hno;generalize (if nmE ((m.tpls.map (·.name)).take i) m.tpls[i].name≠0 then nmE ((m.tpls.map (·.name)).take i) m.tpls[i].name else tplE m.tpls[i])=e at *;refine zaj Tk Tryz.func15 (h50' _) rfl rfl rfl rfl rfl ?_;refine zae Tk Tryz.func15 rfl (fun c4=>?_) (fun c4=>?_)
  ·have c4:e≠0:=bneT c4;rw[if_pos c4] at hno;subst hno;have c4':((plc 2 (some (i,e)) ((0,0),0) id:Plc×Int)).2≠0:=c4;rw[if_pos c4'];refine zag Tk (r:=plcD ((2,i),e)) rfl rfl rfl trivial rfl rfl ?_;rfl
  have c4:¬e≠0:=fun h=>h (bneF c4);rw[if_neg c4] at hno;refine zah ?_;exact ih (i+1) _ _ ⟨g1,hno⟩ (by omega) ⟨rfl,rfl,hj1,trivial⟩ rfl ⟨rfl,rfl,trivial⟩ rfl rfl
 have g1:m.tpls.length≤i:=by simpa using g1
 rw[List.drop_eq_nil_of_le g1] at hno;have hno:none=RT:=hno;subst hno;rw[if_neg (show ¬((plc 2 none ((0,0),0) id:Plc×Int)).2≠0 from fun h=>h rfl)];clear ih h50 g1 hi;refine zaj Tk Tryz.func15 (h51 _) rfl rfl rfl rfl rfl ?_;refine zae Tk Tryz.func15 rfl (fun c5=>?_) (fun c5=>?_)
 ·have c5:i3≠0:=bneT c5;rw[if_pos c5];refine zag Tk (r:=plcD ((i1,i2),i3)) rfl rfl rfl trivial rfl rfl ?_;rfl
 have c5:i3=0:=bneF c5;rw[if_neg (fun h=>h c5)];have hti:=hti c5;clear h51;refine zae Tk Tryz.func15 rfl (fun c6=>?_) (fun c6=>?_)
 ·have c6:m.excs.length>32:=by have:(m.excs.length:Int)>32:=of_decide_eq_true c6;omega
  rw[if_pos c6];refine zag Tk (r:=plcD ((5,32),3)) rfl rfl rfl trivial rfl rfl ?_;rfl
 have c6:¬m.excs.length>32:=by have:¬(m.excs.length:Int)>32:=of_decide_eq_false c6;omega
 rw[if_neg c6];refine zah ?_;refine zak (fun i:Nat=>[(1,.own 0 1 0 0),(2,.own 0 2 0 0),(10,ii i)]) (fun i=>[(1,.box (mdlC m)),(2,plcN)]) (fun _=>O) 107
  (fun i=>i≤m.excs.length∧za6 NEx.name (excE m) ((m.excs.map (·.name)).take i) (m.excs.drop i) i=RX) (fun i=>m.excs.length-i) 0 ⟨Nat.zero_le _,hRX⟩ ⟨rfl,rfl,rfl,trivial⟩ rfl ⟨rfl,rfl,trivial⟩ rfl rfl ?_
 clear hRX;rintro i ⟨hi,hno⟩ ih;refine zai Tk Tryz.func15 ?_;refine zae Tk Tryz.func15 rfl (fun g1=>?_) (fun g1=>?_)
 ·have g1:i<m.excs.length:=by simpa using g1
  have hj1:ii (IntKind.i64.wrap ((i:Int)+1))=ii ((i+1:Nat):Int):=congrArg ii (zaC (n:=1000001) (by omega) (by decide));have h52':=fun O=>h52 O i g1 hti;rw[zjb g1] at hno;generalize (if nmE ((m.excs.map (·.name)).take i) m.excs[i].name≠0 then nmE ((m.excs.map (·.name)).take i) m.excs[i].name else excE m m.excs[i])=e at *;refine zaj Tk Tryz.func15 (h52' _) rfl rfl rfl rfl rfl ?_;refine zae Tk Tryz.func15 rfl (fun c4=>?_) (fun c4=>?_)
  ·have c4:e≠0:=bneT c4;rw[if_pos c4] at hno;subst hno;refine zag Tk (r:=plcD ((5,i),e)) rfl rfl rfl trivial rfl rfl ?_;rfl
  have c4:¬e≠0:=fun h=>h (bneF c4);rw[if_neg c4] at hno;refine zah ?_;exact ih (i+1) _ _ ⟨g1,hno⟩ (by omega) ⟨rfl,rfl,hj1,trivial⟩ rfl ⟨rfl,rfl,trivial⟩ rfl rfl
 have g1:m.excs.length≤i:=by simpa using g1
 rw[List.drop_eq_nil_of_le g1] at hno;have hno:none=RX:=hno;subst hno;rw[show ∀V:Plc×Int,plc 5 none V id=V from fun _=>rfl];clear ih h52 g1 hi;refine zae Tk Tryz.func15 rfl (fun c7=>?_) (fun c7=>?_)
 ·have c7:m.cons.length>32:=by have:(m.cons.length:Int)>32:=of_decide_eq_true c7;omega
  rw[if_pos c7];refine zag Tk (r:=plcD ((6,32),3)) rfl rfl rfl trivial rfl rfl ?_;rfl
 have c7:¬m.cons.length>32:=by have:¬(m.cons.length:Int)>32:=of_decide_eq_false c7;omega
 rw[if_neg c7];refine zah ?_;refine zak (fun i:Nat=>[(1,.own 0 1 0 0),(2,.own 0 2 0 0),(12,ii i)]) (fun i=>[(1,.box (mdlC m)),(2,plcN)]) (fun _=>O) 107
  (fun i=>i≤m.cons.length∧za6 NCn.name (conE m) ((m.cons.map (·.name)).take i) (m.cons.drop i) i=RC) (fun i=>m.cons.length-i) 0 ⟨Nat.zero_le _,hRC⟩ ⟨rfl,rfl,rfl,trivial⟩ rfl ⟨rfl,rfl,trivial⟩ rfl rfl ?_
 clear hRC;rintro i ⟨hi,hno⟩ ih;refine zai Tk Tryz.func15 ?_;refine zae Tk Tryz.func15 rfl (fun g1=>?_) (fun g1=>?_)
 ·have g1:i<m.cons.length:=by simpa using g1
  have hj1:ii (IntKind.i64.wrap ((i:Int)+1))=ii ((i+1:Nat):Int):=congrArg ii (zaC (n:=1000001) (by omega) (by decide));have h53':=fun O=>h53 O i g1;rw[zjb g1] at hno;generalize (if nmE ((m.cons.map (·.name)).take i) m.cons[i].name≠0 then nmE ((m.cons.map (·.name)).take i) m.cons[i].name else conE m m.cons[i])=e at *;refine zaj Tk Tryz.func15 (h53' _) rfl rfl rfl rfl rfl ?_;refine zae Tk Tryz.func15 rfl (fun c4=>?_) (fun c4=>?_)
  ·have c4:e≠0:=bneT c4;rw[if_pos c4] at hno;subst hno;refine zag Tk (r:=plcD ((6,i),e)) rfl rfl rfl trivial rfl rfl ?_;rfl
  have c4:¬e≠0:=fun h=>h (bneF c4);rw[if_neg c4] at hno;refine zah ?_;exact ih (i+1) _ _ ⟨g1,hno⟩ (by omega) ⟨rfl,rfl,hj1,trivial⟩ rfl ⟨rfl,rfl,trivial⟩ rfl rfl
 have g1:m.cons.length≤i:=by simpa using g1
 rw[List.drop_eq_nil_of_le g1] at hno;have hno:none=RC:=hno;subst hno;refine zag Tk (r:=plcD ((0,0),0)) rfl rfl rfl trivial rfl rfl ?_;rfl
theorem zaY {c:Cx} {s s':St} {k:List Item} {ops:Array Oper} {rest:List Nat} {o:Oper} {i:Nat} (hw:Wk c s s') (h:GM c (.pause ops i rest o s' k)):GM c (.pause ops i rest o s k):=
 ⟨fun K ρ a w hi=>by obtain⟨K',ρ',hi'⟩:=hw K ρ a w hi;exact h.h K' ρ' a w hi'⟩
structure expOk (m:Mdl) (og:List (List Sta)) (x:NEx):Prop where
 cl:m.comps.length≤8
 nd:(m.comps.map (·.name)).Nodup
 gl:og.length=m.comps.length
 gs:∀s∈og,s.length≤4096
 ll:x.locals.length≤12
 nl:(x.locals.map (·.1)).Nodup
 li:∀y∈x.locals,y.1∈m.comps.map (·.name)
 tp:∀c∈m.comps,∃t,zb4 m c=some t
 xn:x.name.size≤1000
instance staDec:DecidableEq Sta:=fun a b=>decidable_of_iff (a.loc=b.loc∧a.vals=b.vals) ⟨fun ⟨h1,h2⟩=>by cases a;cases b;cases h1;cases h2;rfl,fun h=>by subst h;exact⟨rfl,rfl⟩⟩
end Go.AI
set_option maxRecDepth 20000
namespace Go.AI
open Go.Proofs
end Go.AI
namespace Go.AI
open Go.Proofs
set_option maxRecDepth 20000
def zge (a:Ext) (c:Int):Ext:=⟨a.alpha,a.locs,c,a.marked,a.vars,a.moves⟩
structure itmOk (x:Itm):Prop where
 al:x.aut.alpha.length≤zar
 ma:x.aut.marked.length≤zar
 ed:x.aut.edges.length≤zar
structure celOk (c:Cel):Prop where
 ev:c.evs.length≤zar
 co:c.comps.length≤zar
 cok:∀x∈c.comps,itmOk x
 rq:c.reqs.length≤zar
 rok:∀x∈c.reqs,itmOk x
 ex:c.excs.length≤zar
 xok:∀x∈c.excs,x.locals.length≤zar
 cn:c.cons.length≤zar
 nok:∀x∈c.cons,x.terms.length≤zar
theorem zjL (O:List Heap):zao Tryz.prog 66 [.i (zhG []),.i (.v (.slice none 0 0))] O (bb true) [] O:=by
 refine zaa Tk Tryz.func66 rfl Tryz.call66 Tryz.ntmps66 (Nat.le_of_ble_eq_true rfl) fun E=>?_;refine zai Tk Tryz.func66 ?_;refine gcF Tk Tryz.func66 rfl ?_;refine zah ?_;refine zak (fun _:Nat=>[(0,.i (zhG [])),(1,.i (.v (.slice none 0 0))),(5,ii 0)]) (fun _=>[]) (fun _=>O) 42 (fun _=>True) (fun _=>0) 0 trivial ⟨rfl,rfl,rfl,trivial⟩ rfl trivial rfl rfl ?_;intro _ _ ih;clear ih;refine zai Tk Tryz.func66 ?_;refine gcF Tk Tryz.func66 rfl ?_;refine zag Tk (r:=bb true) rfl rfl rfl trivial rfl rfl ?_;rfl
theorem zk7 (O:List Heap):zao Tryz.prog 21 [celD zCel,.agg zin] O (bb true) [] O:=by
 have h1:=fun O=>zjL O;refine zaa Tk Tryz.func21 rfl Tryz.call21 Tryz.ntmps21 (Nat.le_of_ble_eq_true rfl) fun E=>?_;refine zai Tk Tryz.func21 ?_
 repeat (first|refine gcT Tk Tryz.func21 rfl ?_|refine gkT Tk Tryz.func21 rfl ?_|refine skT Tk ?_|refine gcF Tk Tryz.func21 rfl ?_|refine gkF Tk Tryz.func21 rfl ?_|refine skF Tk ?_)
 refine zah ?_;refine zak (fun _:Nat=>[(2,.own 0 2 0 0),(3,.own 0 3 0 0),(5,ii 0)]) (fun _=>[(2,.box (celC zCel)),(3,.box zin)]) (fun _=>O) 192 (fun _=>True) (fun _=>0) 0 trivial ⟨rfl,rfl,rfl,trivial⟩ rfl ⟨rfl,rfl,trivial⟩ rfl rfl ?_;intro _ _ ih;clear ih;refine zai Tk Tryz.func21 ?_;refine gcF Tk Tryz.func21 rfl ?_;refine zah ?_;refine zak (fun _:Nat=>[(2,.own 0 2 0 0),(3,.own 0 3 0 0),(6,ii 0)]) (fun _=>[(2,.box (celC zCel)),(3,.box zin)]) (fun _=>O) 192 (fun _=>True) (fun _=>0) 0 trivial ⟨rfl,rfl,rfl,trivial⟩ rfl ⟨rfl,rfl,trivial⟩ rfl rfl ?_;intro _ _ ih;clear ih;refine zai Tk Tryz.func21 ?_;refine gcF Tk Tryz.func21 rfl ?_;refine zah ?_;refine zak (fun _:Nat=>[(2,.own 0 2 0 0),(3,.own 0 3 0 0),(10,ii 0)]) (fun _=>[(2,.box (celC zCel)),(3,.box zin)]) (fun _=>O) 192 (fun _=>True) (fun _=>0) 0 trivial ⟨rfl,rfl,rfl,trivial⟩ rfl ⟨rfl,rfl,trivial⟩ rfl rfl ?_
 intro _ _ ih;clear ih;refine zai Tk Tryz.func21 ?_;refine gcF Tk Tryz.func21 rfl ?_;refine zaj Tk Tryz.func21 (h1 _) rfl rfl rfl rfl rfl ?_;refine gkT Tk Tryz.func21 rfl ?_;refine zaj Tk Tryz.func21 (h1 _) rfl rfl rfl rfl rfl ?_;refine zag Tk (r:=bb true) rfl rfl rfl trivial rfl rfl ?_;rfl
section
variable {σ:Type} {eq:σ→σ→Bool} {step:σ→Int→σ×Bool×Int} {mkd:σ→Bool}
end
theorem zto {g:Nat} {tab:Obj} {P:Program} {f:FuncId} {args args':List D} {O O':List Heap} {res:D} {Hr:Heap} (hc:CoDL args' args) (h:za3 g tab P f args O res Hr O'):za3 g tab P f args' O res Hr O':=fun E K ρ w vs hi ht hr=>h E K ρ w vs hi ht (hc.rep hr)
theorem zwz (O:List Heap) {m:Mdl} {e1 e2 e3 a b:Int} (h14:∀O,zao Tryz.prog 14 [mdlD m] O (.tup [.agg [ii e1,ii e2],ii e3]) [] O) (hne:e3≠0):zao Tryz.prog 17 [mdlD m,.agg [ii a,ii b]] O (.tup [.i (.v (.slice none 0 0)),ii e3]) [] O:=by
 refine zaM [] Tk Tryz.func17 rfl Tryz.call17 Tryz.ntmps17 (Nat.le_of_ble_eq_true rfl) fun E=>?_;refine zai Tk Tryz.func17 ?_;refine zaj Tk Tryz.func17 (h14 _) rfl rfl rfl rfl rfl ?_;refine zae Tk Tryz.func17 rfl (fun _=>?_) (fun h=>absurd h (by simpa using hne));refine zag Tk (r:=.tup [.i (.v (.slice none 0 0)),ii e3]) rfl rfl rfl trivial rfl rfl ?_;rfl
theorem zpO (O:List Heap) {m:Mdl} {e3 a b:Int} (h18:∀O,zao Tryz.prog 18 [mdlD m,.agg [ii a,ii b]] O (.tup [extD zExt,ii e3]) [] O) (hne:e3≠0):zao Tryz.prog 19 [mdlD m,.agg [ii a,ii b]] O (.tup [.i (.v (.slice none 0 0)),ii e3]) [] O:=by
 refine zaM [] Tk Tryz.func19 rfl Tryz.call19 Tryz.ntmps19 (Nat.le_of_ble_eq_true rfl) fun E=>?_;refine zai Tk Tryz.func19 ?_;refine zaj Tk Tryz.func19 (h18 _) rfl rfl rfl rfl rfl ?_;refine zae Tk Tryz.func19 rfl (fun _=>?_) (fun h=>absurd h (by simpa using hne));refine zag Tk (r:=.tup [.i (.v (.slice none 0 0)),ii e3]) rfl rfl rfl trivial rfl rfl ?_;rfl
theorem zqh {g:Nat} (hg:zda g) {ty:TypeId} {fr:Nat×Nat} (O:List Heap) (k:Sk22) (sl:List D) (n:Mdl) (hk:sk22Ok k) (hm:mdlOk n) (hmv:∀t∈n.tpls,t.mach.moves.length≤19)
  (hch:∀O,za3 g (ptab ty fr) Tryz.prog 12 [mdlD (zcn k),.agg sl] O (mdlD n) [] O) (hsl:∃a b c d,sl=[.i (.v (.int .u8 a)),.i (.v (.int .u8 b)),.i (.v (.int .u8 c)),.i (.v (.int .u8 d))]) :
  za3 g (ptab ty fr) Tryz.prog 3 [zuz k,.agg sl] O (bb true) [] O:=by
 have hkn:=fun O=>zxy hg (ty:=ty) (fr:=fr) O;have hmk:=fun O=>zyF hg (ty:=ty) (fr:=fr) O k hk;obtain⟨b0,b1,b2,b3,rfl⟩:=hsl;clear hk;generalize zcn k=m at *;have h14:=fun O=>znc O n hm;have h15:=fun O=>zx3 O n hm
 by_cases hv:(mdlE n).2=0
 ·generalize mdlE n=E at *;obtain⟨⟨q1,q2⟩,f⟩:=E;simp only at hv;subst hv;have h14:∀O,zao Tryz.prog 14 [mdlD n] O (.tup [.agg [ii q1,ii q2],ii 0]) [] O:=h14;have h15:∀O,zao Tryz.prog 15 [mdlD n] O (.tup [.agg [ii q1,ii q2],ii 0]) [] O:=h15;refine zaN [] Tk Tryz.func3 rfl Tryz.call3 Tryz.ntmps3 (Nat.le_of_ble_eq_true rfl) fun E hE=>?_;refine zai Tk Tryz.func3 ?_;refine zbB Tk Tryz.func3 hE (hkn _) rfl rfl rfl rfl rfl rfl ?_;refine gcF Tk Tryz.func3 rfl ?_;refine zav Tk Tryz.func3 zaz rfl ?_;refine zcg Tk hE (hmk _) rfl rfl rfl rfl ?_;refine zcg Tk hE (hch _) rfl rfl rfl rfl ?_;refine zdc Tk rfl rfl rfl ?_;refine zaB Tk Tryz.func3 (by kernel_rfl) ?_;refine zaj Tk Tryz.func3 (h14 _) rfl rfl rfl rfl rfl ?_;refine zaj Tk Tryz.func3 (h15 _) rfl rfl rfl rfl rfl ?_;refine zaK Tk Tryz.func3 rfl (fun h=>absurd h (by simp)) (fun _=>?_)
  repeat (first|refine gcT Tk Tryz.func3 rfl ?_|refine gkT Tk Tryz.func3 rfl ?_|refine skT Tk ?_|refine gcF Tk Tryz.func3 rfl ?_|refine gkF Tk Tryz.func3 rfl ?_|refine skF Tk ?_)
  refine zag Tk (r:=bb true) rfl rfl rfl trivial rfl rfl ?_;rfl
 have hc:celR n=(zCel,mdlE n):=by unfold celR;rw[if_pos hv]
 have hma:mchA n (3,0)=(zExt,(mdlE n).2):=by unfold mchA;rw[if_pos hv]
 have hla:labR n (3,0) ⟨0,[]⟩=(⟨#[]⟩,(mdlE n).2):=by unfold labR;rw[if_pos hv]
 have h16:=fun O=>zws hg (ty:=ty) (fr:=fr) O n hm hmv;have h18:=fun O=>zkV O n (3,0) hm hmv;have h20:=fun O=>zug hg (ty:=ty) (fr:=fr) O n (3,0) ⟨0,[]⟩ hm hmv;have h21:=fun O=>zk7 O;rw[hc] at h16;rw[hma] at h18;rw[hla] at h20;clear hc hma hla hm hmv;generalize mdlE n=E at *;obtain⟨⟨q1,q2⟩,f⟩:=E;simp only at hv;have h14:∀O,zao Tryz.prog 14 [mdlD n] O (.tup [.agg [ii q1,ii q2],ii f]) [] O:=h14;have h15:∀O,zao Tryz.prog 15 [mdlD n] O (.tup [.agg [ii q1,ii q2],ii f]) [] O:=h15;have h16:∀O,za3 g (ptab ty fr) Tryz.prog 16 [mdlD n] O (.tup [celD zCel,.agg [ii q1,ii q2],ii f]) [] O:=h16;have h18:∀O,zao Tryz.prog 18 [mdlD n,.agg [ii 3,ii 0]] O (.tup [extD zExt,ii f]) [] O:=h18;have h17:=fun O=>zwz (a:=3) (b:=0) O h14 hv;have h19:=fun O=>zpO O h18 hv
 have h20:∀O,za3 g (ptab ty fr) Tryz.prog 20 [mdlD n,.agg [ii 3,ii 0],.agg [ii 0,.i (.v (.slice none 0 0))]] O (.tup [.i (strI ⟨#[]⟩),ii f]) [] O:=fun O=>zto (.cons (.refl _) (.cons (.refl _) (.cons (zbu (.cons (.refl _) (.cons (zcv zbd) .nil))) .nil))) (h20 O);refine zaN [] Tk Tryz.func3 rfl Tryz.call3 Tryz.ntmps3 (Nat.le_of_ble_eq_true rfl) fun E hE=>?_;refine zai Tk Tryz.func3 ?_;refine zbB Tk Tryz.func3 hE (hkn _) rfl rfl rfl rfl rfl rfl ?_;refine gcF Tk Tryz.func3 rfl ?_;refine zav Tk Tryz.func3 zaz rfl ?_;refine zcg Tk hE (hmk _) rfl rfl rfl rfl ?_;refine zcg Tk hE (hch _) rfl rfl rfl rfl ?_;refine zdc Tk rfl rfl rfl ?_;refine zaB Tk Tryz.func3 (by kernel_rfl) ?_;refine zaj Tk Tryz.func3 (h14 _) rfl rfl rfl rfl rfl ?_;refine zaj Tk Tryz.func3 (h15 _) rfl rfl rfl rfl rfl ?_;refine zaK Tk Tryz.func3 rfl (fun h=>absurd h (by simp)) (fun _=>?_)
 refine zae Tk Tryz.func3 rfl (fun h=>absurd h (by simp)) (fun _=>?_);refine zae Tk Tryz.func3 rfl (fun h=>absurd h (by simpa using hv)) (fun _=>?_);refine zbB Tk Tryz.func3 hE (h16 _) rfl rfl rfl rfl rfl rfl ?_;refine zaj Tk Tryz.func3 (h17 _) rfl rfl rfl rfl rfl ?_;refine zaj Tk Tryz.func3 (h18 _) rfl rfl rfl rfl rfl ?_;refine zaj Tk Tryz.func3 (h19 _) rfl rfl rfl rfl rfl ?_;refine zbB Tk Tryz.func3 hE (h20 _) rfl rfl rfl rfl rfl rfl ?_;refine zaj Tk Tryz.func3 (h21 _) rfl rfl rfl rfl rfl ?_
 repeat (first|refine zae Tk Tryz.func3 rfl (fun _=>?_) (fun h=>absurd h (by simp[zExt]))|refine zaK Tk Tryz.func3 rfl (fun _=>?_) (fun h=>absurd h (by simp[zExt]))|refine zbS Tk (fun _=>?_) (fun h=>absurd h (by simp[zExt])))
 refine zag Tk (r:=bb (f==f)) rfl rfl rfl trivial rfl rfl ?_;simp
noncomputable def eqQ {α:Type} (a b:α):Bool:=@decide (a=b) (Classical.propDecidable _)
structure Slp where
 kind:Int
 k:Int
 how:Int
 name:Int
abbrev slC (s:Slp):List D:=[.i (.v (.int .u8 s.kind)),.i (.v (.int .u8 s.k)),.i (.v (.int .u8 s.how)),.i (.v (.int .u8 s.name))]
abbrev slD (s:Slp):D:=.agg (slC s)
structure slOk (s:Slp):Prop where
 kind:0≤s.kind∧s.kind≤255
 k:0≤s.k∧s.k≤255
 how:0≤s.how∧s.how≤255
 name:0≤s.name∧s.name≤255
structure chgOk (m:Mdl):Prop where
 ok:mdlOk m
 mv:∀t∈m.tpls,t.mach.moves.length≤19
 ev:0<m.evs.length
 tl:∀t∈m.tpls,0<t.locs.length∧0<t.evs.length∧t.evs.length≤1000
 cl:∀x∈m.comps,0<x.evs.length
 rl:∀x∈m.reqs,0<x.evs.length
 xl:∀x∈m.excs,0<x.locals.length∧x.locals.length≤1000
 nl:∀x∈m.cons,0<x.terms.length
structure chgR (m n:Mdl):Prop where
 ok:mdlOk n
 mv:∀t∈n.tpls,t.mach.moves.length≤19
 ma:∀(i:Nat) x y,m.tpls[i]? = some x→n.tpls[i]? = some y→∃c,y.mach=zge x.mach c
theorem zdB {m n:Mdl} (h:chgOk m) (ok:mdlOk n) (ht:n.tpls=m.tpls):chgR m n:=by
 refine⟨ok,by rw[ht];exact h.mv,fun i x y hx hy=>⟨x.mach.init,?_⟩⟩;rw[ht,hx] at hy
 cases hy
 rfl
def chgN:List ByteArray:=[⟨#[]⟩,⟨#[120,32,121]⟩,⟨#[109]⟩,⟨#[105,48]⟩,⟨#[116,48]⟩,⟨#[101,49]⟩,⟨#[97]⟩,⟨#[115,48]⟩,⟨#[110,111,98,111,100,121]⟩,⟨#[97,95,110,97,109,101,95,116,104,97,116,95,105,115,95,51,51,95,98,121,116,101,115,95,108,111,110,103,95,104,101,114,101]⟩]
theorem zx0:∀s∈chgN,s.size≤33:=by decide
theorem zek {d:Int} (hd:0≤d∧d≤255):∃s:ByteArray,s.size≤33∧(chgN.map fun s=>[strI s])[((IntKind.i64.wrap d).tmod (10:Int)).toNat]? = some [strI s]∧(0≤(IntKind.i64.wrap d).tmod (10:Int)∧(IntKind.i64.wrap d).tmod (10:Int)<10):=by
 have hw:IntKind.i64.wrap d=d:=w64 (by omega) (by omega);have h1:=Int.emod_nonneg d (show (10:Int)≠0 by decide);have h2:=Int.emod_lt_of_pos d (show (0:Int)<10 by decide);rw[hw,Int.tmod_eq_emod_of_nonneg hd.1];have hl:(d%10).toNat<chgN.length:=by show _<10;omega
 refine⟨chgN[(d%10).toNat],zx0 _ (List.getElem_mem hl),?_,h1,h2⟩;rw[List.getElem?_map,List.getElem?_eq_getElem hl];rfl
section
variable {c:Cx} {s:St} {k:List Item} {ops:Array Oper} {rest:List Nat} {o:Oper}
theorem zeh (hT:TOk c.P c.T) (hfn:c.P.funcs[c.f]? = some c.fn) {i:Nat} (A:Ask) (ho:ops[i]? = some o) (hg:o.guard=none) (hx:exec c.T s o=A) (h:GM c (cont c.T c.stop ops rest s o A k)):GM c (.pause ops i rest o s k):=by
 subst hx;exact zcP hT hfn ho hg (fun K ρ a w hi=>⟨K,ρ,hi⟩) h
end
theorem zy8 {g:Nat} (hg:zda g) {ty:TypeId} {fr:Nat×Nat} (m:Mdl) (s:Slp) (hm:chgOk m) (hs:slOk s) (h0:s.kind.tmod 7=0) :
  ∃n,chgR m n∧∀O,za3 g (ptab ty fr) Tryz.prog 12 [mdlD m,slD s] O (mdlD n) [] O:=by
 obtain⟨nm,hz,hge,hgi⟩:=zek hs.name;refine⟨⟨nm,m.evs,m.tpls,m.comps,m.reqs,m.excs,m.cons⟩,zdB hm {hm.ok with nm:=by simp only[zar];omega} rfl,fun O=>?_⟩;obtain⟨b0,b1,b2,b3⟩:=s;obtain⟨a0,a1,a2,a3,a4,a5,a6⟩:=m;clear hm hs;simp only at h0 hge hgi;refine zaN [200014] Tk Tryz.func12 rfl Tryz.call12 Tryz.ntmps12 (Nat.le_of_ble_eq_true rfl) fun E hE=>?_;refine zai Tk Tryz.func12 ?_;refine zeh Tk Tryz.func12 (.alt (.new [(14,.arr 9 1 10 (chgN.map fun s=>[strI s]) true)] (.osl 0 14)) (.new [] (.i (.sl 1 10 (chgN.map fun s=>[strI s]))))) rfl rfl (by kernel_rfl) ?_;refine zad Tk Tryz.func12 (by decide) ?_;refine zad Tk Tryz.func12 (by exact hgi) ?_;refine zap Tk Tryz.func12 (hge) ?_;refine zad Tk Tryz.func12 (by decide) ?_;refine zae Tk Tryz.func12 rfl (fun _=>?_) (fun h=>absurd h (by simpa using h0))
 refine zag Tk (r:=mdlD ⟨nm,a1,a2,a3,a4,a5,a6⟩) rfl rfl rfl trivial rfl rfl ?_;rfl
end Go.AI
namespace Go.Proofs.YtnojpbbaohoadaaGreatDoor
open Go.ChangeShapes Go.WideShapes Go.ChangeAt Go.RowKit Go.Deep Go.WideElems
set_option maxRecDepth 100000
section
variable {H:Type} {enc:TypeId×Value→H} {W:World}
theorem zrW {r:Reach} {b0:Nat} {v:Value} {d:DataW H} {p:List MemPlace} (hv:Value.okWide Tryz.prog W r b0 29 v) (h:DataW.Trod enc Tryz.prog W 0 (fun _=>true) true 29 v d p) :
  ∃s:AI.Slp,AI.slOk s∧∀ρ sh,AI.RepD (KW W) ρ sh v (AI.slD s):=by
 obtain⟨cs,rfl,_⟩:=okWide_struct Tryz.underlying29 hv;obtain⟨n,hn⟩:=h;obtain⟨is,hr,a,b,c,e,rfl,⟨t,rfl,ht⟩,⟨u,rfl,hu⟩,⟨x,rfl,hx⟩,⟨z,rfl,hz⟩⟩:=zeG Tryz.underlying29 (z0:=1) (z1:=1) (z2:=1) (z3:=1) (by kernel_rfl) (by kernel_rfl) (by kernel_rfl) (by kernel_rfl) (by kernel_rfl) rfl rfl rfl rfl
  (zcw Tryz.underlying5) (zcw Tryz.underlying5) (zcw Tryz.underlying5) (zcw Tryz.underlying5) n _ _ hn
 refine⟨⟨t,u,x,z⟩,⟨wf_u8 ht,wf_u8 hu,wf_u8 hx,wf_u8 hz⟩,fun ρ sh=>?_⟩;have:=AI.RepD.agg (AI.RepDL.ofL (ρ:=ρ) (sh:=sh) hr);simpa [Value.cells] using this
end
end Go.Proofs.YtnojpbbaohoadaaGreatDoor
namespace Go.AI
open Go.Proofs
set_option maxRecDepth 20000
theorem zfn {d:Int} (hd:0≤d∧d≤255) {n:Nat} (hn:0<n):∃q:Nat,q<n∧(IntKind.i64.wrap d).tmod (n:Int)=(q:Int):=by
 have hw:IntKind.i64.wrap d=d:=w64 (by omega) (by omega);have h1:=Int.emod_nonneg d (show (n:Int)≠0 by omega);have h2:=Int.emod_lt_of_pos d (show (0:Int)<(n:Int) by omega);rw[hw,Int.tmod_eq_emod_of_nonneg hd.1];exact⟨(d%(n:Int)).toNat,by omega,by omega⟩
theorem zeD {α:Type} {P:α→Prop} {l:List α} {q:Nat} {y:α} (h:∀x∈l,P x) (hy:P y):∀x∈l.set q y,P x:=fun x hx=>by
 rcases List.mem_or_eq_of_mem_set hx with h1|h1
 ·exact h x h1
 ·rw[h1];exact hy
theorem zjD (l:List ByteArray) (k:Nat):I.sl 1 (l.length-k) ((l.map fun s=>[strI s]).drop k)=zhB (l.drop k):=by
 rw[←List.map_drop,←List.length_drop]
theorem zxU {m:Mdl} (hm:chgOk m) {q:Nat} (hq:q<m.tpls.length) {t:Tpl} (ht:tplOk t) (hma:∃c,t.mach=zge m.tpls[q].mach c) :
  chgR m ⟨m.name,m.evs,m.tpls.set q t,m.comps,m.reqs,m.excs,m.cons⟩:=by
 refine⟨{hm.ok with tp:=by simp;exact hm.ok.tp,tpk:=zeD hm.ok.tpk ht},zeD hm.mv (by obtain⟨c,hc⟩:=hma;rw[hc];exact hm.mv _ (List.getElem_mem hq)),fun i x y hx hy=>?_⟩;have hy:(m.tpls.set q t)[i]? = some y:=hy;rw[List.getElem?_set] at hy
 by_cases e:q=i
 ·subst e;rw[if_pos rfl,if_pos hq] at hy;rw[List.getElem?_eq_getElem hq] at hx
  cases hx
  cases hy
  exact hma
 ·rw[if_neg e,hx] at hy
  cases hy
  exact⟨x.mach.init,rfl⟩
theorem znm {α:Type} {l:List α} {i:Nat} {x:α} (h:l[i]? = some x):l.set i x=l:=by
 obtain⟨h1,h2⟩:=List.getElem?_eq_some_iff.1 h;subst h2;exact List.set_getElem_self h1
def chgB:List Int:=[0,65536,65537,-65536,-65537]
theorem zxW {d:Int} (hd:0≤d∧d≤255):∃v:Int,(chgB.map fun v=>[vi v])[((IntKind.i64.wrap d).tmod (5:Int)).toNat]? = some [vi v]∧(0≤(IntKind.i64.wrap d).tmod (5:Int)∧(IntKind.i64.wrap d).tmod (5:Int)<5):=by
 have hw:IntKind.i64.wrap d=d:=w64 (by omega) (by omega);have h1:=Int.emod_nonneg d (show (5:Int)≠0 by decide);have h2:=Int.emod_lt_of_pos d (show (0:Int)<5 by decide);rw[hw,Int.tmod_eq_emod_of_nonneg hd.1];have hl:(d%5).toNat<chgB.length:=by show _<5;omega
 refine⟨chgB[(d%5).toNat],?_,h1,h2⟩;rw[List.getElem?_map,List.getElem?_eq_getElem hl];rfl
end Go.AI
namespace Go.AI
structure RowU (E0 E:Env) (O:List Heap) (ty es b n cap:Nat) (xs:List (List I)):Prop where
 base:Base E0 E O
 hn:xs.length=n
 hd:∀d∈xs,d.length=es
 hp:E.pr b
 hp0:¬E0.pr b
 ho:∀dep nm ob,zab O dep nm=some ob→zaA (E0.ρ0 dep nm) ob→(E0.ρ0 dep nm).block≠b
 hc:∃c,E.w0.heap[b]? = some (.cells c ty (0,0))∧c.size=cap*es∧RepL E.K0 (c.toList.take (n*es)) xs.flatten
 hcap:n≤cap
 hm:cap≤maxLen
 hk:∀o,E.K0 b o=none
section
variable {P:Program} {E0 E:Env} {K:Kn} {ρ:Nat→Nat→Loc} {s:St} {a:Act} {w:World} {H:Heap} {O:List Heap} {ty es b n cap:Nat} {xs:List (List I)}
theorem zyT {nm t:Nat} (hi:Inv E K ρ s a w) (hS:s.S=H::O) (ho:look H nm=some (.arr ty es n xs true)) (ht:look s.σ t=some (.osl 0 nm)) (hn:0<n) (hb:Base E0 E O) :
  ∃E' b cap,RowU E0 E' O ty es b n cap xs∧Inv E' K ρ {σ:=(t,.i (.v (.slice (some ⟨b,0,none⟩) n cap)))::zdS nm s.σ,S:=zbp nm H::O,n:=s.n} a w:=by
 have hh:=hi.h;rw[hS] at hh;have ho':zab (H::O) 0 nm=some (.arr ty es n xs true):=by simpa [zab] using ho
 have e0:(fun d n=>ρ (0+d) n)=ρ:=by funext d n;rw[Nat.zero_add]
 have hown:=hh.own 0 nm _ ho';rw[e0,List.drop_zero] at hown;obtain⟨h1,h2,h3,h4,h5⟩:=hown;rcases h5 with ⟨c0,c1⟩|⟨c1,cl,h6,h7,h8,h9,h10,h11⟩
 ·omega
 have hbk:(ρ 0 nm).base≠none:=by rw[c1];simp
 have hD:=hh.dropNm nm;have hlt:∀b,b=(ρ 0 nm).block→b<w.heap.size:=by
  rintro b rfl;exact (hh.own 0 nm _ ho').lt hbk
 have hfree:∀nm' ob b,b=(ρ 0 nm).block→zab (zbp nm H::O) 0 nm'=some ob→zaA (ρ 0 nm') ob→(ρ 0 nm').block≠b:=by
  rintro nm' ob b rfl e hbk' hbe;obtain⟨o0,a1,a2,a3,_⟩:=zcm e;exact a2 (hh.inj _ _ _ _ _ _ a1 ho' ((a3 _).1 hbk') hbk hbe)
 have hI:=hD.rebase hlt hfree;have hB:=zl1 hD hb hlt;refine⟨_,(ρ 0 nm).block,(ρ 0 nm).cap,⟨hB,h2,h1,.inr rfl,fun hp=>hh.loc nm _ ho' hbk (hb.pr _ hp),fun dep nm' ob e hbk' hbe=>?_,⟨cl,h6,h7,h8⟩,h3,h4,h9 rfl⟩,hI,hi.defers,hi.size,fun t' d e=>?_⟩
 ·have e2:ρ (dep+1)=E0.ρ0 dep:=by rw[hh.outer,hb.ρ]
  have:=hh.inj (dep+1) nm' ob 0 nm _ (by simpa [zab] using e) ho' (by rw[e2];exact hbk') hbk (by rw[e2];exact hbe);omega
 ·have hsl:∀t' d0,look s.σ t'=some d0→RepD K ρ (shape (zbp nm H::O)) (a.tmps.getD t' undef) (d0.kill nm):=by
   intro t' d0 e0;have h1:=hi.slots t' d0 e0;rw[hS] at h1;exact RepD.kill (zjl (ρ:=ρ) (H:=H) (O:=O) nm) h1
  simp only[zac] at e
  split at e
  ·rename_i e2;subst e2;simp only[Option.some.injEq] at e;subst e;have h1:=hi.slots t _ ht;rw[hS] at h1;have:=zcO (es:=es) (len:=n) h1 (by simp[shape,zab,ho,Ob.sh]);rw[this,c1];exact .i (.v rfl)
  ·rw[zcH] at e
   cases hl:look s.σ t' with
   |none=>simp[hl] at e
   |some d0=>
    simp only[hl,Option.map_some,Option.some.injEq] at e;subst e;exact hsl _ _ hl
theorem znn (hh:HInv E K ρ (H::O) w) (hR:RowU E0 E O ty es b n cap xs):(∀o,K b o=none)∧(∀dep nm ob,zab (H::O) dep nm=some ob→zaA (ρ dep nm) ob→(ρ dep nm).block≠b)∧w.heap[b]? = E.w0.heap[b]?:=by
 refine⟨fun o=>?_,fun dep nm ob e hbk=>?_,hh.old b hR.hp (hh.outerNe hR.base hR.ho)⟩
 ·cases hk:K b o with
  |none=>rfl
  |some x=>
   rcases hh.Knew b o x hk with h1|h1
   ·rw[hR.hk] at h1;cases h1
   ·exact absurd hR.hp h1
 ·cases dep with
  |zero=>intro e2;exact hh.loc nm ob e hbk (by rw[e2];exact hR.hp)
  |succ dep=>exact hh.outerNe hR.base hR.ho dep nm ob (by simpa [zab] using e) hbk
theorem zwF (hi:Inv E K ρ s a w) (hS:s.S=H::O) (hR:RowU E0 E O ty es b n cap xs) {t:Nat} {ti:TI} (hok:TIok P t ti) {j off:Nat} {d l:List I} (hd:xs[j]? = some d) (hoff:off+ti.size≤es) {v:Value} (hv:RepL K v.cells.toList l) (hl:l.length=ti.size) :
  ∃w' E',(Instr.storeAt t (.pointer (some ⟨b,j*es+off,none⟩)) v).run P w=.ok () w'∧Inv E' K ρ s a w'∧RowU E0 E' O ty es b n cap (xs.set j (zbO d off l)):=by
 have hh:=hi.h;rw[hS] at hh;obtain⟨hKb,hbO,hwb⟩:=znn hh hR;obtain⟨c,hc,hcs,hr⟩:=hR.hc;have hg:w.heap[b]? = some (.cells c ty (0,0)):=hwb.trans hc;have hjl:=(List.getElem?_eq_some_iff.1 hd).1;rw[hR.hn] at hjl;have hmul:(j+1)*es≤n*es:=Nat.mul_le_mul_right _ hjl;have hmul2:n*es≤cap*es:=Nat.mul_le_mul_right _ hR.hcap;rw[Nat.add_mul,Nat.one_mul] at hmul;have hvl:v.cells.toList.length=ti.size:=by rw[hv.length,hl]
 have hvs:v.cells.size=ti.size:=by simpa using hvl
 have hrun:=zgI (P:=P) (w:=w) (o:=j*es+off) hok hg hvs (by omega) hv.one;have hheap:=setRow_heap w b c (c.toList.take (j*es+off)++v.cells.toList++c.toList.drop (j*es+off+v.cells.toList.length)).toArray ty (0,0) hg;have hne:∀b',b' ≠ b→(w.setRow b (c.toList.take (j*es+off)++v.cells.toList++c.toList.drop (j*es+off+v.cells.toList.length)).toArray).heap[b']? = w.heap[b']?:=fun b' h=>setRow_other _ _ _ _ h;have hsz:(w.setRow b (c.toList.take (j*es+off)++v.cells.toList++c.toList.drop (j*es+off+v.cells.toList.length)).toArray).heap.size=w.heap.size:=by simp
 have hrest:=zeE w b (c.toList.take (j*es+off)++v.cells.toList++c.toList.drop (j*es+off+v.cells.toList.length)).toArray;generalize hw':w.setRow b (c.toList.take (j*es+off)++v.cells.toList++c.toList.drop (j*es+off+v.cells.toList.length)).toArray=w' at hrun hheap hne hsz hrest;have hbb0:∀b',E0.pr b' → b' ≠ b:=fun b' hp e=>hR.hp0 (e ▸ hp)
 let E':Env:={ K0:=K,ρ0:=E.ρ0,w0:=w',pr:=E.pr,lt:=fun b' hp=>by rw[hsz];exact Nat.lt_of_lt_of_le (E.lt b' hp) hh.size}
 have hI:HInv E' K ρ (H::O) w':=by
  refine⟨fun b' o x e=>?_,fun dep nm ob e=>?_,hh.inj,Nat.le_refl _,fun _ _ _=>rfl,hh.loc,hh.outer,Kn.le_refl _,fun _ _ _ e=>.inl e,⟨rfl,rfl,rfl⟩⟩
  ·have hb':b' ≠ b:=by rintro rfl;rw[hKb] at e;cases e
   rw[World.cell?,hne b' hb'];exact hh.holds _ _ _ e
  ·exact (hh.own dep nm ob e).stays ⟨Kn.le_refl _,fun _ _ _ e=>e,fun _ _ _ _=>rfl⟩ (fun hbk=>hne _ (hbO dep nm ob e (by simpa using hbk))) (fun _ _=>rfl)
 refine⟨w',E',hrun,⟨by rw[hS];exact hI,hi.defers,hi.size,hi.slots⟩,⟨Kn.le_trans hR.base.K hh.Kle,hR.base.ρ,fun b' hp=>hR.base.pr b' hp,fun b' o x e=>?_,?_,fun b' hp ho=>?_,?_⟩,by simp[hR.hn],fun d2 hd2=>?_,hR.hp,hR.hp0,hR.ho,⟨_,hheap,?_,?_⟩,hR.hcap,hR.hm,hKb⟩
 ·rcases hh.Knew b' o x e with h1|h1
  ·exact hR.base.new b' o x h1
  ·exact .inr fun hp=>h1 (hR.base.pr b' hp)
 ·show E0.w0.heap.size≤w'.heap.size;rw[hsz];exact Nat.le_trans hR.base.size hh.size
 ·show w'.heap[b']? = _;rw[hne b' (hbb0 b' hp),hh.old b' (hR.base.pr b' hp) (hh.outerNe hR.base ho)];exact hR.base.old b' hp ho
 ·show w'.tape=_∧w'.os=_∧w'.output=_;exact⟨hrest.1.trans (hh.rest.1.trans hR.base.rest.1),hrest.2.1.trans (hh.rest.2.1.trans hR.base.rest.2.1),hrest.2.2.trans (hh.rest.2.2.trans hR.base.rest.2.2)⟩
 ·rcases List.mem_or_eq_of_mem_set hd2 with h2|h2
  ·exact hR.hd d2 h2
  ·subst h2;have:=hR.hd d (List.mem_of_getElem? hd);simp only[zbO,List.length_append,List.length_take,List.length_drop];omega
 ·simp only[List.size_toArray,List.length_append,List.length_take,List.length_drop,Array.length_toList,hvl];omega
 ·rw[zi4 xs j hR.hd hd (by omega)];have:=zgD (j*es+off) (RepL.mono hh.Kle hr) hv;refine cast ?_ this;show RepL K _ _=RepL K _ _;congr 1;rw[hvl]
  apply List.ext_getElem?
  intro k;simp only[List.getElem?_append,List.getElem?_take,List.getElem?_drop,List.length_append,List.length_take,List.length_drop,hvl,Array.length_toList,List.size_toArray];have e1:min (j*es+off) c.size=j*es+off:=by omega
  have e2:min (n*es) c.size=n*es:=by omega
  have e3:min (j*es+off) (n*es)=j*es+off:=by omega
  simp only[e1,e2,e3]
  by_cases hk1:k<j*es+off
  ·simp[hk1,show k<j*es+off+ti.size by omega,show k<n*es by omega]
  ·by_cases hk2:k<j*es+off+ti.size
   ·simp[hk1,hk2,show k<n*es by omega]
   ·by_cases hk3:k<n*es
    ·simp[hk1,hk2,hk3,show j*es+off+ti.size+(k-(j*es+off+ti.size))=k by omega]
    ·simp[hk1,hk2,hk3,show ¬(j*es+off+ti.size+(k-(j*es+off+ti.size))<n*es) by omega]
theorem zxx (hi:Inv E K ρ s a w) (hS:s.S=H::O) (hR:RowU E0 E O ty es b n cap xs):∃E' K',Inv E' K' ρ s a w∧Base E0 E' O∧Rep E'.K0 (.slice (some ⟨b,0,none⟩) n cap) (.sl es n xs):=by
 have hh:=hi.h;rw[hS] at hh;obtain⟨hKb,hbO,hwb⟩:=znn hh hR;obtain⟨c,hc,hcs,hr⟩:=hR.hc;have hg:w.heap[b]? = some (.cells c ty (0,0)):=hwb.trans hc;have hcell:=cell_of_heap hg;have hle:K.le (frz K w b (n*es)):=by
  intro b' o x e;unfold frz
  split
  ·exact hh.holds _ _ _ e
  ·exact e
 have hKne:∀b',b' ≠ b→∀o,frz K w b (n*es) b' o=K b' o:=fun b' h o=>by
  unfold frz;rw[if_neg (fun h'=>h h'.1)]
 let E':Env:={ K0:=frz K w b (n*es),ρ0:=E.ρ0,w0:=w,pr:=E.pr,lt:=fun b' hp=>Nat.lt_of_lt_of_le (E.lt b' hp) hh.size}
 have hI:HInv E' (frz K w b (n*es)) ρ (H::O) w:=by
  refine⟨fun b' o x e=>?_,fun dep nm ob e=>?_,hh.inj,Nat.le_refl _,fun _ _ _=>rfl,hh.loc,hh.outer,Kn.le_refl _,fun _ _ _ e=>.inl e,⟨rfl,rfl,rfl⟩⟩
  ·unfold frz at e
   split at e
   ·exact e
   ·exact hh.holds _ _ _ e
  ·exact (hh.own dep nm ob e).stays ⟨hle,fun _ _ _ e=>e,fun _ _ _ _=>rfl⟩ (fun _=>rfl) (fun hbk o=>hKne _ (hbO dep nm ob e (by simpa using hbk)) o)
 refine⟨E',_,⟨by rw[hS];exact hI,hi.defers,hi.size,fun t d e=>(hi.slots t d e).stays ⟨hle,fun _ _ _ e=>e,fun _ _ _ _=>rfl⟩⟩,⟨Kn.le_trans hR.base.K (Kn.le_trans hh.Kle hle),hR.base.ρ,fun b' hp=>hR.base.pr b' hp,fun b' o x e=>?_,Nat.le_trans hR.base.size hh.size,fun b' hp ho=>?_,?_⟩,?_⟩
 ·by_cases hbe:b'=b
  ·subst hbe;exact .inr hR.hp0
  ·have e:frz K w b (n*es) b' o=some x:=e;rw[hKne b' hbe] at e;rcases hh.Knew b' o x e with h1|h1
   ·exact hR.base.new b' o x h1
   ·exact .inr fun hp=>h1 (hR.base.pr b' hp)
 ·show w.heap[b']? = _;rw[hh.old b' (hR.base.pr b' hp) (hh.outerNe hR.base ho)];exact hR.base.old b' hp ho
 ·show w.tape=_∧w.os=_∧w.output=_;exact⟨hh.rest.1.trans hR.base.rest.1,hh.rest.2.1.trans hR.base.rest.2.1,hh.rest.2.2.trans hR.base.rest.2.2⟩
 ·refine .sl (RepL.mono (Kn.le_trans hh.Kle hle) hr) hR.hd (fun j c' hc'=>?_) hR.hcap hR.hn;rw[List.getElem?_take] at hc'
  split at hc'
  ·rename_i hj;show frz K w b (n*es) b (0+j)=_;unfold frz;rw[Nat.zero_add,if_pos ⟨rfl,hj⟩,hcell];simpa using hc'
  ·cases hc'
end
section
variable {c:Cx} {s:St} {k:List Item} {ops:Array Oper} {rest:List Nat} {o:Oper} {E0:Env} {H:Heap} {O:List Heap} {ty es b n cap:Nat} {xs:List (List I)}
theorem zsF {i nm:Nat} (t:Nat) (hb:Base E0 c.E O) (hS:s.S=H::O) (ho:look H nm=some (.arr ty es n xs true)) (ht:look s.σ t=some (.osl 0 nm)) (hn:0<n)
  (h:∀E' b cap,RowU E0 E' O ty es b n cap xs→GM {c with E:=E' } (.pause ops i rest o {σ:=(t,.i (.v (.slice (some ⟨b,0,none⟩) n cap)))::zdS nm s.σ,S:=zbp nm H::O,n:=s.n} k)):GM c (.pause ops i rest o s k):=by
 refine⟨fun K ρ a w hi=>?_⟩;obtain⟨E',b,cap,hR',hi'⟩:=zyT hi hS ho ht hn hb;exact (h E' b cap hR').h K ρ a w hi'
theorem zpG {todo:List Item} (hR:RowU E0 c.E O ty es b n cap xs) (hS:s.S=H::O) (h:∀E',Base E0 E' O→Rep E'.K0 (.slice (some ⟨b,0,none⟩) n cap) (.sl es n xs)→Rch {c with E:=E' } todo s):Rch c todo s:=by
 intro K ρ a w fr cs hi h1 h2;obtain⟨E',K',hi',hB,hr⟩:=zxx hi hS hR;exact h E' hB hr K' ρ a w fr cs hi' h1 h2
theorem g_rg {i:Nat} (h:RG c ops (i::rest) s k):GM c (.pause ops i rest o s k):=⟨h⟩
theorem zyt (hT:TOk c.P c.T) (hfn:c.P.funcs[c.f]? = some c.fn) (h:GM c (run c.T c.stop 1000 (.inRegion ops rest::k) s)):RG c ops rest s k:=za5 hT hfn 1000 (.inRegion ops rest::k) s h.h
theorem zys {i t:Nat} {v':Value} (ho:ops[i]? = some o) (hg:o.guard=none) (hd:o.dst=some t) (hv:v'.oneCell'=true) (hn:Nat.ble (t+1) s.n=true) (hrun:∀K ρ a w,Inv c.E K ρ s a w→(execOp a.eval o).run c.P w=.ok (.value v') w)
  (h:RG c ops rest (setM s t (.i (.v v'))) k):RG c ops (i::rest) s k:=by
 intro K ρ a w hi;simp only[wpOps,ho,zb5 hi (show zaR ops s o=some true by unfold zaR;rw[hg]),if_true];refine .inl ?_;simp only[Oper.wp,hrun K ρ a w hi,Oper.upon];rw[zdL] at h;refine h K ρ _ w ?_;rw[hd];exact zdw hi (Nat.le_of_ble_eq_true hn) hi.h (Stays.refl _ _ _) (.i (.v hv))
theorem zk9 (hT:TOk c.P c.T) {i t t1 f off o1 z:Nat} {ag:Bool} {x:Operand} {ti1:TI} {fs:List (Nat×Nat×Bool)} (ho:ops[i]? = some o) (hg:o.guard=none) (hd:o.dst=some t) (hop:o.op=.fieldAddr t1 x f) (h1:look c.T t1=some ti1) (hk1:ti1.k=.struct fs) (hf:fs[f]? = some (o1,z,ag))
  (hx:evD s x=.i (.v (.pointer (some ⟨b,off,none⟩)))) (hn:Nat.ble (t+1) s.n=true)
  (h:RG c ops rest (setM s t (.i (.v (.pointer (some ⟨b,off+o1,none⟩))))) k):RG c ops (i::rest) s k:=by
 refine zys ho hg hd rfl hn (fun K ρ a w hi=>?_) h;have hok:=(hT _ _ h1).kind;rw[hk1] at hok;obtain⟨fields,hu,hs,hf'⟩:=hok;obtain⟨fl,inf,g1,g2,g3,g4,g5,g6⟩:=hf' _ _ hf;simp only at g2 g4 g5;have h0:inf.size≠0:=by rw[g4];exact g5
 have hr:=hi.ev x;rw[hx] at hr;have:(Instr.fieldAt t1 (.pointer (some ⟨b,off,none⟩)) f).run c.P w=.ok (.pointer (some ⟨b,off+fl.offset,none⟩)) w:=by
  simp[Instr.fieldAt,run_underlying hu,g1,Instr.sureAddr,zes (t:=t1) (w:=w) g3 h0]
 rw[g2] at this;simp[execOp,hop,zaT hr,this,Sem.run_bind,Sem.run_pure]
theorem ze3 (hT:TOk c.P c.T) {i t j off:Nat} {x y:Operand} {ti:TI} {d:List I} {v:D} {l:List I} (hR:RowU E0 c.E O ty es b n cap xs) (ho:ops[i]? = some o) (hg:o.guard=none) (hd:o.dst=none) (hop:o.op=.store t x y) (h1:look c.T t=some ti)
  (hx:evD s x=.i (.v (.pointer (some ⟨b,j*es+off,none⟩)))) (hy:evD s y=v) (hv:D.ones v.cells=true) (hvl:D.toIs v.cells=some l) (hl:l.length=ti.size) (he:xs[j]? = some d) (hoff:off+ti.size≤es) (hS:s.S=H::O)
  (h:∀E',RowU E0 E' O ty es b n cap (xs.set j (zbO d off l))→RG {c with E:=E' } ops rest s k):RG c ops (i::rest) s k:=by
 intro K ρ a w hi;simp only[wpOps,ho,zb5 hi (show zaR ops s o=some true by unfold zaR;rw[hg]),if_true];refine .inl ?_;have hr:=hi.ev x;rw[hx] at hr;have hr2:=hi.ev y;rw[hy] at hr2;have hl1:=zd6 (hr2.cells hv) hvl;obtain⟨w',E',hrun,hi',hR'⟩:=zwF (P:=c.P) hi hS hR (hT _ _ h1) he hoff hl1 hl;have hexec:(execOp a.eval o).run c.P w=.ok .skip w':=by
  simp only[execOp,hop,zaT hr,hrun,Sem.run_bind,Result.andThen_ok,Sem.run_pure]
 simp only[Oper.wp,hexec,Oper.upon];have hput:a.put o.dst undef=a:=by rw[hd];rfl
 rw[hput];exact h E' hR' K ρ _ _ hi'
theorem zgd (nm:Nat) {tya esa na:Nat} {ca ys:List (List I)} {wr:Bool} (hS:s.S=H::O) (ho:look H nm=some (.arr tya esa na ca wr)) (hl:ys.length=ca.length) (he:∀d∈ys,d.length=esa) (hco:∀K vs,c.E.K0.le K→RepL K vs ca.flatten→RepL K vs ys.flatten) :
  Wk c s {σ:=s.σ,S:=((nm,.arr tya esa na ys wr)::H)::O,n:=s.n}:=by
 intro K ρ a w hi;have hh:=hi.h;rw[hS] at hh;have hsh:shape (((nm,Ob.arr tya esa na ys wr)::H)::O)=shape (H::O):=za7 ho rfl;refine⟨K,ρ,hh.reob ho rfl (fun h=>h) fun h=>?_,hi.defers,hi.size,fun t d e=>?_⟩
 ·obtain⟨h1,h2,h3,h4,h5⟩:=h;refine⟨he,by rw[hl];exact h2,h3,h4,?_⟩;rcases h5 with h5|⟨h5,c',h6,h7,h8,h9⟩
  ·exact .inl h5
  ·exact .inr ⟨h5,c',h6,h7,hco _ _ hh.Kle h8,h9⟩
 ·show RepD K ρ (shape (((nm,Ob.arr tya esa na ys wr)::H)::O)) _ _;rw[hsh,←hS];exact hi.slots t d e
end
end Go.AI
namespace Go.AI
open Go.Proofs
theorem RowOf.form {E0 E:Env} {O:List Heap} {ty es:Nat} {v:Value} {xs:List (List I)} (h:RowOf E0 E O ty es v xs) (hx:0<xs.length):∃b cap,v=.slice (some ⟨b,0,none⟩) xs.length cap:=by
 cases h with
 |nil=>simp at hx
 |row hn=>exact⟨_,_,by rw[hn]⟩
theorem zrE (E:Env) (O:List Heap) (ty es:Nat):RowsO E E O ty es [] []:=⟨.refl _ _,rfl,fun j v xs h1 _=>by simp at h1,fun i j v v' b _ h1 _ _=>by simp at h1⟩
section
variable {E:Env} {K:Kn} {ρ:Nat→Nat→Loc} {s:St} {a:Act} {w:World} {H:Heap} {O:List Heap} {ty es n:Nat} {xs:List (List I)}
theorem zkn {nm t:Nat} {wr:Bool} (hi:Inv E K ρ s a w) (hS:s.S=H::O) (ho:look H nm=some (.arr ty es n xs wr)) (ht:look s.σ t=some (.osl 0 nm)) :
  ∃E1 E2 K' v,Base E E1 O∧RowsO E1 E2 O ty es [v] [xs]∧Rep E1.K0 v (.sl es n xs)∧Inv E2 K' ρ {σ:=(t,.i (.v v))::zdS nm s.σ,S:=zbp nm H::O,n:=s.n} a w∧E1.K0.le K' ∧
   (∀tx i off,look s.σ tx=some (.own 0 nm i off)→Rep E1.K0 (a.tmps.getD tx undef) (.ptr es xs i off)):=by
 have hh:=hi.h;rw[hS] at hh;obtain⟨K1,hle,hF⟩:=hh.freeze ho;have hsh:shape (((nm,Ob.arr ty es n xs false)::H)::O)=shape (H::O):=za7 ho rfl;have e0:(fun d n=>ρ (0+d) n)=ρ:=by funext d n;rw[Nat.zero_add]
 have hown:=hF.own 0 nm (.arr ty es n xs false) (by simp[zab,zac]);have hF1:=hF.rebase (q:=fun _=>False) (fun _ h=>h.elim) (fun _ _ _ h=>h.elim);have hB:=zl1 hF (Base.refl E O) (q:=fun _=>False) (fun _ h=>h.elim);have hs1:∀t d,look s.σ t=some d→RepD K1 ρ (shape (((nm,Ob.arr ty es n xs false)::H)::O)) (a.tmps.getD t undef) d:=fun t' d e=>by
  have h1:=hi.slots _ _ e;rw[hS] at h1;rw[hsh];exact h1.stays ⟨hle,fun _ _ _ e=>e,fun _ _ _ _=>rfl⟩
 have hi1:Inv (reE E K1 w (fun _=>False) (fun _ h=>h.elim) hF.size) K1 ρ {σ:=s.σ,S:=((nm,.arr ty es n xs false)::H)::O,n:=s.n} a w:=⟨hF1,hi.defers,hi.size,hs1⟩;have ho1:look ((nm,Ob.arr ty es n xs false)::H) nm=some (.arr ty es n xs false):=by simp[zac]
 obtain⟨E2,K2,v,hR,hi2⟩:=zvm hi1 rfl ho1 ht (zrE _ O ty es);have ek:zbp nm ((nm,.arr ty es n xs false)::H)=zbp nm H:=by simp[zbp]
 rw[ek] at hi2;have hv1:=zcO (es:=es) (len:=n) (hs1 _ _ ht) (by simp[shape,zab,zac,Ob.sh]);have hv2:=zaT (hi2.slots t (.i (.v v)) (by simp[zac]));refine⟨_,E2,K2,v,hB,hR,?_,hi2,Kn.le_trans hR.base.K hi2.h.Kle,fun tx i off htx=>?_⟩
 ·rw[←hv2,hv1];exact zcG hown
 ·obtain⟨hil,hv⟩:=zsn (es:=es) (len:=n) (hs1 _ _ htx) (by simp[shape,zab,zac,Ob.sh]);rw[hv];obtain⟨g1,g2,g3,g4,g5⟩:=hown;rcases g5 with ⟨g5,_⟩|⟨g5,cl,g6,g7,g8,g9,g10,g11⟩
  ·omega
  ·have:Rep K1 (.pointer (some ⟨(ρ 0 nm).block,0+i*es+off,none⟩)) (.ptr es xs i off):=by
    refine .ptr g8 g1 fun j c' hc'=>?_;rw[List.getElem?_take] at hc'
    split at hc'
    ·rename_i hj;rw[Nat.zero_add,g11 rfl j hj];simpa using hc'
    ·cases hc'
   show Rep K1 _ _;simpa using this
end
section
variable {c:Cx} {s:St} {k:List Item} {ops:Array Oper} {rest:List Nat} {o:Oper} {H:Heap} {O:List Heap} {ty es n:Nat} {xs:List (List I)}
theorem zvo {i nm:Nat} {wr:Bool} (t:Nat) (hS:s.S=H::O) (ho:look H nm=some (.arr ty es n xs wr)) (ht:look s.σ t=some (.osl 0 nm))
  (h:∀E1 E2 v,Base c.E E1 O→RowsO E1 E2 O ty es [v] [xs]→Rep E1.K0 v (.sl es n xs)→GM {c with E:=E2} (.pause ops i rest o {σ:=(t,.i (.v v))::zdS nm s.σ,S:=zbp nm H::O,n:=s.n} k)):GM c (.pause ops i rest o s k):=by
 refine⟨fun K ρ a w hi=>?_⟩;obtain⟨E1,E2,K',v,hB,hR',hv,hi',_,_⟩:=zkn hi hS ho ht;exact (h E1 E2 v hB hR' hv).h K' ρ a w hi'
theorem zrH {todo:List Item} {nm i off:Nat} {wr:Bool} (t tx:Nat) (hS:s.S=H::O) (ho:look H nm=some (.arr ty es n xs wr)) (ht:look s.σ t=some (.osl 0 nm)) (htx:look s.σ tx=some (.own 0 nm i off)) (hne:Nat.beq tx t=false)
  (h:∀E1 E2 v,Base c.E E1 O→RowsO E1 E2 O ty es [v] [xs]→Rep E1.K0 v (.sl es n xs)→Rch {c with E:=E2} todo {σ:=(tx,.i (.ptr es xs i off))::(t,.i (.v v))::zdS nm s.σ,S:=zbp nm H::O,n:=s.n}):Rch c todo s:=by
 intro K ρ a w b cs hi h1 h2;obtain⟨E1,E2,K',v,hB,hR',hv,hi',hle,hp⟩:=zkn hi hS ho ht;refine h E1 E2 v hB hR' hv K' ρ a w b cs ⟨hi'.h,hi'.defers,hi'.size,fun t' d e=>?_⟩ h1 h2;have e':look ((tx,D.i (.ptr es xs i off))::(t,.i (.v v))::zdS nm s.σ) t'=some d:=e;rw[zac] at e'
 split at e'
 ·rename_i e2;subst e2;simp only[Option.some.injEq] at e';subst e';exact .i ((hp _ _ _ htx).mono hle)
 ·exact hi'.slots t' d e'
variable {n':Nat} {F:SH→List Pl→Prop}
theorem zk4 {o:Oper} {x:SH} {t j:Nat} {ca:List (List I)} {d0:List I} {gk:List I→Ask} {v:Value} {d:I} (hT:TOk c.P c.T) (hw:zaR ops (St.of O n' (zaH ops o x)) o=some true) (ht:o.dst=some t) (hn:Nat.ble (t+1) n'=true) (hro:roB o=true)
  (hx:exec c.T (St.of O n' (zaH ops o x)) o=.elem ca j gk) (he:ca[j]? = some d0) (hg:gk d0=.val (.i (.v v))) (hv:Rep c.E.K0 v d):zc5 c ops O n' o (zaH ops o x) (.one t (.i d)):=by
 refine .inr ⟨hw,fun E hE K ρ a w hi next Qe hnx=>?_⟩;have hs:Stp {c with E:=E} o (St.of O n' (zaH ops o x)) (fun s'=>s'.S=(zaH ops o x).2::O∧s'.n=n'∧look s'.σ t=some (.i (.v v))):=by
  refine zbI (c:={ c with E:=E}) hT ?_;show Does {c with E:=E} o _ _ (exec c.T _ o);rw[hx];refine⟨d0,he,?_⟩;rw[hg];show Does _ _ _ _ (.val _);simp only[Does,ht];exact⟨Nat.le_of_ble_eq_true hn,rfl,rfl,by simp[St.set,zac]⟩
 refine hs K ρ a w hi next Qe fun val w' s' K' ρ' hle hk hi' hq=>?_
 obtain⟨h1,h2,h3⟩:=hq;have hh:=hi'.h;rw[h1] at hh hk;have hgo:zbw (St.of O n' (zaH ops o x)) o=none:=zhh hro;refine hnx val w' [(t,.i d)] K' ρ' hle (fun d' n' x' e1 e2=>hk d' n' x' (by rw[hgo];exact e1) e2) ⟨hh,hi'.defers,by rw[hi'.size,h2],fun t' d' e=>?_⟩ fun t' d' e=>.inr e;obtain⟨rfl,rfl⟩:=zaV e;have h4:=hi'.slots t _ h3;rw[zaT h4];exact .i (hv.mono (Kn.le_trans hE.kn hi'.h.Kle))
theorem zy2 {o:Oper} {rest:List Oper} {x:SH} {acc:List Pl} {l:List Oper} {t j i N:Nat} {ca:List (List I)} {d0:List I} {gk:List I→Ask} {v:Value} {d:I} (hT:TOk c.P c.T) (hl:l=o::rest) (hN:acc.length=N) (hw:zaR ops (St.of O n' (zaH ops o x)) o=some true) (ht:o.dst=some t) (hn:Nat.ble (t+1) n'=true) (hro:roB o=true)
  (hx:exec c.T (St.of O n' (zaH ops o x)) o=.elem ca j gk) (he:ca[j]? = some d0) (hg:gk d0=.val (.i (.v v))) (hv:Rep c.E.K0 v d)
  (h:GE c ops O n' F (runS c.T ops O n' i rest (setX x t (.i d)) (acc++[.one t (.i d)]))):GE c ops O n' (SegF c ops O n' F N l) (.done x acc):=by
 subst hl;refine⟨⟨hN,zdV (zk4 hT hw ht hn hro hx he hg hv) ?_⟩⟩;exact zbc hT rest i _ _ h.h
end
theorem zlx {c:Cx} {s:St} {k:List Item} {ops:Array Oper} (hT:TOk c.P c.T) (E0:Env) (m m2:Nat) {id:Nat} {O:List Heap} {H:Heap} (hS:s.S=H::O) (hml:m≤m2) (hm2:m2≤ops.size)
  (h:GE {c with E:=E0} ops O s.n (SegF {c with E:=E0} ops O s.n (FDR c E0 id ops O s.n (s.σ,H) k) m ((ops.toList.take m2).drop m)) (runS c.T ops O s.n 0 (ops.toList.take m) (s.σ,H) [])):GM c (.drawn id ops s k):=by
 have h0:=zwc (c:={ c with E:=E0}) (by simp;omega) (zbc (c:={ c with E:=E0}) hT _ _ _ _ h.h);have e:ops.toList.take m++(ops.toList.take m2).drop m=ops.toList.take m2:=by
  have:=List.take_append_drop m (ops.toList.take m2);rwa [List.take_take,Nat.min_eq_left hml] at this
 rw[e] at h0;obtain⟨qs,h1,h2⟩:=h0;rw[List.nil_append] at h2;have hs:s=St.of O s.n (s.σ,H):=by
  cases s
  simp only at hS;subst hS;rfl
 refine⟨?_⟩;show Rch c (.code (.region id ops true)::k) s;rw[hs];exact h2 rfl (zel h1)
theorem zvA {c:Cx} {ops:Array Oper} {k:List Item} {i:Nat} {o:Oper} {rest:List Oper} {O:List Heap} {n:Nat} {x:SH} {acc:List Pl} {x0:SH} (l:List Nat) (hok:okT ops acc x0=true) (hl:List.range' acc.length (ops.size-acc.length)=l) (h:RG c ops l (St.of O n x) k) :
  GE c ops O n (FD c ops O n x0 k) (.old i o rest x acc):=⟨fun _=>⟨[],trivial,by rw[List.append_nil];exact⟨hok,by rw[hl];exact h⟩⟩⟩
end Go.AI
