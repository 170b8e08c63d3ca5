/- The layer of abstract runs, part 32. -/
import Derived.Test.YtnojpbbaohoadaaGreatDoorGnuZE
set_option linter.unusedSimpArgs false
set_option linter.unusedVariables false
set_option linter.all false
set_option maxHeartbeats 4000000
namespace Go.AI
open Go.Proofs
set_option maxRecDepth 20000
abbrev obs (l:List Bool):Ob:=.arr 4 1 l.length (l.map fun b=>[bI b]) true
theorem zfe (l:List Bool) (b:Bool):Ob.arr 4 1 (l.length+1) ((l.map fun b=>[bI b])++[[bI b]]) true=obs (l++[b]):=by simp[obs]
theorem zlf (O:List Heap) (m:Mdl) (w:Int) {α:Type} (L:List α) (f:α→ByteArray) (g:α→Bool) (hm:mdlOk m) (hl:L.length≤1000000) :
  zan Tryz.prog 130 [mdlD m,ssD (L.map f),.i (.sl 1 (L.map g).length ((L.map g).map fun b=>[bI b])),ii w] O (ii (if (L.map fun y=>(f y,g y)).length=0 then 12 else cpE m w [] (L.map fun y=>(f y,g y)))) [] O:=by
 have h:=zjH O m w (L.map fun y=>(f y,g y)) hm (by rw[List.length_map];exact hl);simp only[List.map_map,List.length_map] at h ⊢;have e:ssD (L.map f)=.i (.sl 1 L.length (L.map fun y=>[strI (f y)])):=by
  show D.i (.sl 1 (L.map f).length ((L.map f).map fun s=>[strI s]))=_;rw[List.map_map,List.length_map];rfl
 rw[e];exact h
theorem zmd (O:List Heap) (m:Mdl) (i:Nat) (hi:i<m.excs.length) (hm:mdlOk m) (ht:∀c∈m.comps,∃t,zbL m c=some t) :
  zan Tryz.prog 52 [mdlD m,ii i] O (ii (if nmE ((m.excs.map (·.name)).take i) m.excs[i].name≠0 then nmE ((m.excs.map (·.name)).take i) m.excs[i].name else excE m m.excs[i])) [] O:=by
 have hex:=hm.ex;have hx:=hm.exk m.excs[i] (List.getElem_mem hi);have hn:=fun O=>zsV O m hex;have hf:=fun O=>zfp O (m.excs.map (·.name)) i (by rw[List.length_map];exact hi) (by rw[List.length_map];exact hex) (fun s hs=>by
  obtain⟨t,ht,rfl⟩:=List.mem_map.1 hs;exact (hm.exk t ht).1)
 rw[List.getElem_map] at hf;have gt:(m.excs.map nexI)[(i:Int).toNat]? = some (nexI m.excs[i]):=zal (f:=nexI) hi;have hw:IntKind.i64.wrap ((i:Int)+1)=((i+1:Nat):Int):=zav (n:=1000001) (by omega) (by decide);have h4:=fun O=>zkt O m hm.co;have h5:=fun O s=>zb8 O (m.comps.map (·.name)) s (by rw[List.length_map];exact hm.co);have hT:=fun O x t h=>zdN O m x t hm.toszOk h;have h130:=fun O=>zlf O m 9 m.excs[i].locals (·.1) (zb0 m) hm hx.2;have hlocs:∀c t,zbL m c=some t→t.locs.length≤1000000:=fun c t h=>(hm.tpk t (List.mem_of_find?_eq_some h)).ll;have hco:=hm.co;have hxl:=hx.2;rw[zyJ];have hNl:(m.excs.map (·.name)).length=m.excs.length:=List.length_map _;generalize nmE ((m.excs.map (·.name)).take i) m.excs[i].name=e0 at *;generalize m.excs[i]=x at *;generalize m.excs.map (·.name)=N at *;obtain⟨xn,L⟩:=x;simp only at h130 hxl gt ⊢
 generalize (if (L.map fun y=>(y.1,zb0 m y)).length=0 then (12:Int) else cpE m 9 [] (L.map fun y=>(y.1,zb0 m y)))=R at *;clear hx hm;refine zaN [13] Tk Tryz.func52 rfl Tryz.call52 Tryz.ntmps52 (Nat.le_of_ble_eq_true rfl) fun E=>?_;refine zai Tk Tryz.func52 ?_;refine zak Tk Tryz.func52 (hn _) rfl rfl rfl rfl rfl ?_;refine zah Tk Tryz.func52 (by exact⟨by rw[hw];omega,by show IntKind.i64.wrap ((i:Int)+1)≤(N.length:Int);rw[hw];omega⟩) ?_;refine zak Tk Tryz.func52 (hf _) rfl rfl rfl rfl rfl ?_;refine zaf Tk Tryz.func52 rfl (fun c0=>?_) (fun c0=>?_)
 ·have c0:e0≠0:=bneT c0;rw[if_pos c0];refine zaj Tk (r:=ii e0) rfl rfl rfl trivial rfl rfl ?_;rfl
 have c0:¬e0≠0:=fun h=>h (bneF c0);rw[if_neg c0];refine zah Tk Tryz.func52 (by exact⟨by omega,by show (i:Int)<(m.excs.length:Int);omega⟩) ?_;refine zaq Tk Tryz.func52 (gt) ?_;refine g_wk (zbk 6 40 9 1 rfl rfl rfl) ?_;refine g_wk (zbk 7 60 4 1 rfl rfl rfl) ?_;refine zad ?_;refine zag (fun j:Nat=>[(2,.own 0 2 0 0),(6,.osl 0 40),(7,.osl 0 60),(25,.i (.sl 2 L.length (L.map nlcI))),(26,ii L.length),(27,ii j)]) (fun j=>[(2,.box (mdlC m)),(40,oss ((L.take j).map (·.1))),(60,obs ((L.take j).map (zb0 m)))]) (fun _=>O) 66
  (fun j=>j≤L.length) (fun j=>L.length-j) 0 (Nat.zero_le _) ⟨rfl,rfl,rfl,rfl,rfl,rfl,trivial⟩ rfl ⟨rfl,rfl,rfl,trivial⟩ rfl rfl ?_
 intro j hj ih;have hj:j≤L.length:=hj;have hll:((L.take j).map (·.1)).length≤1000000:=by rw[List.length_map,List.length_take];omega
 have hll2:((L.take j).map (zb0 m)).length≤1000000:=by rw[List.length_map,List.length_take];omega
 refine zai Tk Tryz.func52 ?_;refine zaf Tk Tryz.func52 rfl (fun g1=>?_) (fun g1=>?_)
 ·have g1:j<L.length:=by simpa using g1
  have gs:(L.map nlcI)[(j:Int).toNat]? = some (nlcI L[j]):=zal (f:=nlcI) g1;have t1:=zaI (fun y:NLc=>y.1) g1;have t2:=zaI (zb0 m) g1;have hj1:ii (IntKind.i64.wrap ((j:Int)+1))=ii ((j+1:Nat):Int):=congrArg ii (zav (n:=1000001) (by omega) (by decide));have h5':=fun O=>h5 O L[j].1;have hfk:=zdG Ins.name m.comps L[j].1;unfold zb0 at t2;generalize (L.take j).map (·.1)=A at *;change _=((L.take j).map (zb0 m))++_ at t2;change ((L.take (j+1)).map (zb0 m))=_ at t2;generalize (L.take j).map (zb0 m)=B at *;generalize L[j]=y at *;obtain⟨yc,yl⟩:=y;simp only at h5' hfk t1 t2;refine zah Tk Tryz.func52 (by exact⟨by omega,by show (j:Int)<(L.length:Int);omega⟩) ?_;refine zaq Tk Tryz.func52 (gs) ?_;rcases hfk with ⟨f1,f2⟩|⟨k,c,f1,f2,f3⟩
  ·have f2:nmIx (m.comps.map (·.name)) yc = -1:=f2;rw[f2] at h5';rw[f1] at t2;simp only at t2;refine zat Tk Tryz.func52 zax rfl ?_;refine zaF Tk (fun _=>h4 _) rfl rfl rfl ?_;refine zaF Tk (fun _=>h5' _) rfl rfl rfl ?_;refine zaA Tk Tryz.func52 (by kernel_rfl) ?_;refine zah Tk Tryz.func52 (by exact⟨by show (A.length+1)*16≤140737488355328;omega,by show A.length+1≤9223372036854775807;omega⟩) ?_;refine zat Tk Tryz.func52 zax rfl ?_;refine skF Tk ?_;refine zd8 Tk Tryz.func52 ([19,20]) (by kernel_rfl) (by kernel_rfl) ?_;refine zah Tk Tryz.func52 (by exact⟨by show (B.length+1)*1≤140737488355328;omega,by show B.length+1≤9223372036854775807;omega⟩) ?_;refine zad ?_;refine ih (j+1) _ _ g1 (by omega) ⟨rfl,rfl,rfl,rfl,rfl,hj1,trivial⟩ rfl ⟨rfl,?_,?_,trivial⟩ rfl rfl
   ·rw[t1];exact congrArg some (za8 A yc)
   ·rw[t2];exact congrArg some (zfe B _)
  ·have f3:nmIx (m.comps.map (·.name)) yc=(k:Int):=f3;rw[f3] at h5';rw[f2] at t2;simp only at t2;obtain⟨t,htt⟩:=ht c (List.mem_of_getElem? f1);have h35:=fun O=>hT O c t htt;have hloc:=hlocs c t htt;have h39:=fun O=>zb8 O t.locs yl hloc;rw[htt] at t2;simp only at t2;have hk:k<m.comps.length:=(List.getElem?_eq_some_iff.1 f1).1;have gc:(m.comps.map insI)[(if (0:Int)>((k:Nat):Int) then (0:Int) else ((k:Nat):Int)).toNat]? = some (insI c):=by
    rw[if_neg (by omega),Int.toNat_natCast,List.getElem?_map,f1];rfl
   generalize nmIx t.locs yl=q at *;obtain⟨cn,ct,ce⟩:=c;obtain⟨tn,tl,te,⟨tal,tlo,tini,tmk,tvr,tmo⟩⟩:=t;simp only at h39;refine zat Tk Tryz.func52 zax rfl ?_;refine zaF Tk (fun _=>h4 _) rfl rfl rfl ?_;refine zaF Tk (fun _=>h5' _) rfl rfl rfl ?_;refine zaA Tk Tryz.func52 (by kernel_rfl) ?_;refine zah Tk Tryz.func52 (by exact⟨by show (A.length+1)*16≤140737488355328;omega,by show A.length+1≤9223372036854775807;omega⟩) ?_;refine zat Tk Tryz.func52 zax rfl ?_;refine zbU Tk (fun _=>?_) (fun h=>absurd h (by simpa using h));refine zar Tk (by exact⟨by rw[if_neg (by omega)];omega,by rw[if_neg (by omega)];show ((k:Nat):Int)<(m.comps.length:Int);omega⟩) ?_;refine zay Tk (gc) ?_;refine zaF Tk (fun _=>h35 _) rfl rfl rfl ?_;refine zaF Tk (fun _=>h39 _) rfl rfl rfl ?_;refine zd8 Tk Tryz.func52 ([19,20]) (by kernel_rfl) (by kernel_rfl) ?_
   refine zah Tk Tryz.func52 (by exact⟨by show (B.length+1)*1≤140737488355328;omega,by show B.length+1≤9223372036854775807;omega⟩) ?_;refine zad ?_;refine ih (j+1) _ _ g1 (by omega) ⟨rfl,rfl,rfl,rfl,rfl,hj1,trivial⟩ rfl ⟨rfl,?_,?_,trivial⟩ rfl rfl
   ·rw[t1];exact congrArg some (za8 A yc)
   ·rw[t2];exact congrArg some (zfe B _)
 ·have g1:L.length≤j:=by simpa using g1
  rw[List.take_of_length_le g1];refine zaB ?_;refine zas (zao 40 rfl rfl) ?_;refine zas (zaY rfl) ?_;refine zas (zao 60 rfl rfl) ?_;refine zas (zaY rfl) ?_;refine zai Tk Tryz.func52 ?_;refine g_go Tk Tryz.func52 ?_;refine zak Tk Tryz.func52 (h130 _) rfl rfl rfl rfl rfl ?_;refine zaj Tk (r:=ii R) rfl rfl rfl trivial rfl rfl ?_;rfl
theorem zle (O:List Heap) (m:Mdl) (i:Nat) (hi:i<m.cons.length) (hm:mdlOk m) :
  zan Tryz.prog 53 [mdlD m,ii i] O (ii (if nmE ((m.cons.map (·.name)).take i) m.cons[i].name≠0 then nmE ((m.cons.map (·.name)).take i) m.cons[i].name else conE m m.cons[i])) [] O:=by
 have hex:=hm.cn;have hx:=hm.cnk m.cons[i] (List.getElem_mem hi);have hn:=fun O=>zsU O m hex;have hf:=fun O=>zfp O (m.cons.map (·.name)) i (by rw[List.length_map];exact hi) (by rw[List.length_map];exact hex) (fun s hs=>by
  obtain⟨t,ht,rfl⟩:=List.mem_map.1 hs;exact (hm.cnk t ht).1)
 rw[List.getElem_map] at hf;have gt:(m.cons.map ncnI)[(i:Int).toNat]? = some (ncnI m.cons[i]):=zal (f:=ncnI) hi;have hw:IntKind.i64.wrap ((i:Int)+1)=((i+1:Nat):Int):=zav (n:=1000001) (by omega) (by decide);have h130:=fun O=>zlf O m 2 m.cons[i].terms (·.1) zbG hm hx.2;have hxl:=hx.2;have hE:conE m m.cons[i]=if (if (m.cons[i].terms.map fun y=>(y.1,zbG y)).length=0 then (12:Int) else cpE m 2 [] (m.cons[i].terms.map fun y=>(y.1,zbG y)))≠0 then (if (m.cons[i].terms.map fun y=>(y.1,zbG y)).length=0 then (12:Int) else cpE m 2 [] (m.cons[i].terms.map fun y=>(y.1,zbG y))) else if bigB m.cons[i].bound=true then 2 else 0:=by
  unfold conE;rw[zsa,List.length_map]
  by_cases h:m.cons[i].terms.length=0
  ·rw[if_pos h,if_pos h,if_pos (by decide)]
  ·rw[if_neg h,if_neg h]
 rw[hE];clear hE;have hNl:(m.cons.map (·.name)).length=m.cons.length:=List.length_map _;generalize nmE ((m.cons.map (·.name)).take i) m.cons[i].name=e0 at *;generalize m.cons[i]=x at *;generalize m.cons.map (·.name)=N at *;obtain⟨xn,L,bd⟩:=x;simp only at h130 hxl gt ⊢;generalize (if (L.map fun y=>(y.1,zbG y)).length=0 then (12:Int) else cpE m 2 [] (L.map fun y=>(y.1,zbG y)))=R at *;clear hx hm;refine zaN [12] Tk Tryz.func53 rfl Tryz.call53 Tryz.ntmps53 (Nat.le_of_ble_eq_true rfl) fun E=>?_;refine zai Tk Tryz.func53 ?_;refine zak Tk Tryz.func53 (hn _) rfl rfl rfl rfl rfl ?_;refine zah Tk Tryz.func53 (by exact⟨by rw[hw];omega,by show IntKind.i64.wrap ((i:Int)+1)≤(N.length:Int);rw[hw];omega⟩) ?_;refine zak Tk Tryz.func53 (hf _) rfl rfl rfl rfl rfl ?_;refine zaf Tk Tryz.func53 rfl (fun c0=>?_) (fun c0=>?_)
 ·have c0:e0≠0:=bneT c0;rw[if_pos c0];refine zaj Tk (r:=ii e0) rfl rfl rfl trivial rfl rfl ?_;rfl
 have c0:¬e0≠0:=fun h=>h (bneF c0);rw[if_neg c0];refine zah Tk Tryz.func53 (by exact⟨by omega,by show (i:Int)<(m.cons.length:Int);omega⟩) ?_;refine zaq Tk Tryz.func53 (gt) ?_;refine g_wk (zbk 6 36 9 1 rfl rfl rfl) ?_;refine g_wk (zbk 7 52 4 1 rfl rfl rfl) ?_;refine zad ?_;refine zag (fun j:Nat=>[(1,ii i),(2,.own 0 2 0 0),(6,.osl 0 36),(7,.osl 0 52),(26,.i (.sl 2 L.length (L.map ntmI))),(27,ii L.length),(28,ii j)]) (fun j=>[(2,.box (mdlC m)),(36,oss ((L.take j).map (·.1))),(52,obs ((L.take j).map zbG))]) (fun _=>O) 73
  (fun j=>j≤L.length) (fun j=>L.length-j) 0 (Nat.zero_le _) ⟨rfl,rfl,rfl,rfl,rfl,rfl,rfl,trivial⟩ rfl ⟨rfl,rfl,rfl,trivial⟩ rfl rfl ?_
 intro j hj ih;have hj:j≤L.length:=hj;have hll:((L.take j).map (·.1)).length≤1000000:=by rw[List.length_map,List.length_take];omega
 have hll2:((L.take j).map zbG).length≤1000000:=by rw[List.length_map,List.length_take];omega
 refine zai Tk Tryz.func53 ?_;refine zaf Tk Tryz.func53 rfl (fun g1=>?_) (fun g1=>?_)
 ·have g1:j<L.length:=by simpa using g1
  have gs:(L.map ntmI)[(j:Int).toNat]? = some (ntmI L[j]):=zal (f:=ntmI) g1;have t1:=zaI (fun y:NTm=>y.1) g1;have t2:=zaI zbG g1;have hj1:ii (IntKind.i64.wrap ((j:Int)+1))=ii ((j+1:Nat):Int):=congrArg ii (zav (n:=1000001) (by omega) (by decide));generalize (L.take j).map (·.1)=A at *;generalize (L.take j).map zbG=B at *;generalize L[j]=y at *;obtain⟨yc,yf⟩:=y;simp only at t1;unfold zbG at t2;simp only at t2;refine zah Tk Tryz.func53 (by exact⟨by omega,by show (j:Int)<(L.length:Int);omega⟩) ?_;refine zaq Tk Tryz.func53 (gs) ?_;refine zah Tk Tryz.func53 (by exact⟨by show (A.length+1)*16≤140737488355328;omega,by show A.length+1≤9223372036854775807;omega⟩) ?_;have fin:∀b,(decide (yf≠0)&&decide (yf ≥ -65536)&&decide (yf≤65536))=b→(some (obs (B++[b])):Option Ob)=some (obs ((L.take (j+1)).map zbG)):=by
   intro b hb;rw[←hb,show (L.take (j+1)).map zbG=_ from t2]
  refine zaG Tk Tryz.func53 rfl (fun k1=>?_) (fun k1=>?_)
  ·have k1:yf≠0:=bneT k1;refine zaG Tk Tryz.func53 rfl (fun k2=>?_) (fun k2=>?_)
   ·have k2:yf ≥ -65536:=of_decide_eq_true k2;refine zah Tk Tryz.func53 (by exact⟨by show (B.length+1)*1≤140737488355328;omega,by show B.length+1≤9223372036854775807;omega⟩) ?_;refine zad ?_;refine ih (j+1) _ _ g1 (by omega) ⟨rfl,rfl,rfl,rfl,rfl,rfl,hj1,trivial⟩ rfl ⟨rfl,?_,?_,trivial⟩ rfl rfl
    ·rw[t1];exact congrArg some (za8 A yc)
    ·refine Eq.trans (congrArg some (zfe B _)) (fin _ ?_);simp[k1,k2]
   ·have k2:¬yf ≥ -65536:=of_decide_eq_false k2;refine zah Tk Tryz.func53 (by exact⟨by show (B.length+1)*1≤140737488355328;omega,by show B.length+1≤9223372036854775807;omega⟩) ?_;refine zad ?_;refine ih (j+1) _ _ g1 (by omega) ⟨rfl,rfl,rfl,rfl,rfl,rfl,hj1,trivial⟩ rfl ⟨rfl,?_,?_,trivial⟩ rfl rfl
    ·rw[t1];exact congrArg some (za8 A yc)
    ·refine Eq.trans (congrArg some (zfe B _)) (fin _ ?_);simp[k1,k2]
  ·have k1:yf=0:=bneF k1;refine gkF Tk Tryz.func53 rfl ?_;refine zah Tk Tryz.func53 (by exact⟨by show (B.length+1)*1≤140737488355328;omega,by show B.length+1≤9223372036854775807;omega⟩) ?_;refine zad ?_;refine ih (j+1) _ _ g1 (by omega) ⟨rfl,rfl,rfl,rfl,rfl,rfl,hj1,trivial⟩ rfl ⟨rfl,?_,?_,trivial⟩ rfl rfl
   ·rw[t1];exact congrArg some (za8 A yc)
   ·refine Eq.trans (congrArg some (zfe B _)) (fin _ ?_);simp[k1]
 ·have g1:L.length≤j:=by simpa using g1
  rw[List.take_of_length_le g1];refine zaB ?_;refine zas (zao 36 rfl rfl) ?_;refine zas (zaY rfl) ?_;refine zas (zao 52 rfl rfl) ?_;refine zas (zaY rfl) ?_;refine zai Tk Tryz.func53 ?_;refine g_go Tk Tryz.func53 ?_;refine zak Tk Tryz.func53 (h130 _) rfl rfl rfl rfl rfl ?_;refine zaf Tk Tryz.func53 rfl (fun c1=>?_) (fun c1=>?_)
  ·have c1:R≠0:=bneT c1;rw[if_pos c1];refine zaj Tk (r:=ii R) rfl rfl rfl trivial rfl rfl ?_;rfl
  have c1:¬R≠0:=fun h=>h (bneF c1);rw[if_neg c1];refine zah Tk Tryz.func53 (by exact⟨by omega,by show (i:Int)<(m.cons.length:Int);omega⟩) ?_;refine zaq Tk Tryz.func53 (gt) ?_;unfold bigB;refine zaG Tk Tryz.func53 rfl (fun c2=>?_) (fun c2=>?_)
  ·have c2:bd < -65536:=of_decide_eq_true c2;refine gcT Tk Tryz.func53 rfl ?_;refine zaj Tk (r:=ii 2) rfl rfl rfl trivial rfl rfl ?_;simp[c2]
  ·have c2:¬bd < -65536:=of_decide_eq_false c2;refine zaf Tk Tryz.func53 rfl (fun c3=>?_) (fun c3=>?_)
   ·have c3:bd>65536:=of_decide_eq_true c3;refine zaj Tk (r:=ii 2) rfl rfl rfl trivial rfl rfl ?_;simp[c3]
   ·have c3:¬bd>65536:=of_decide_eq_false c3;refine zaj Tk (r:=ii 0) rfl rfl rfl trivial rfl rfl ?_;simp only[c2,c3,decide_false,Bool.or_self,Bool.false_eq_true,if_false]
end Go.AI
namespace Go.AI
open Go.Proofs
inductive FrzC (nm:Nat) (d:I):List D→List D→Prop
 |nil:FrzC nm d [] []
 |i {x:I} {l m:List D}:FrzC nm d l m→FrzC nm d (.i x::l) (.i x::m)
 |f {k:FuncId} {l m:List D}:FrzC nm d l m→FrzC nm d (.fn (.func k) [] []::l) (.fn (.func k) [] []::m)
 |osl {l m:List D}:FrzC nm d l m→FrzC nm d (.osl 0 nm::l) (.i d::m)
 |agg {a b l m:List D}:FrzC nm d a b→FrzC nm d l m→FrzC nm d (.agg a::l) (.agg b::m)
theorem FrzC.rep {K K':Kn} {ρ:Nat→Nat→Loc} {sh sh':Nat→Nat→Option Sh} {nm es n:Nat} {xs:List (List I)} (hle:K.le K') (hs:sh 0 nm=some (.arr es n)) (hr:Rep K' (.slice (ρ 0 nm).base n (ρ 0 nm).cap) (.sl es n xs)) :
  ∀{a b:List D},FrzC nm (.sl es n xs) a b→∀{vs:List Value},RepDL K ρ sh vs a→RepDL K' ρ sh' vs b:=by
 intro a b h
 induction h with
 |nil=>
  intro vs r
  cases r
  exact .nil
 |i _ ih=>
  intro vs r
  cases r with
  |cons r rs=>cases r with
   |i r=>exact .cons (.i (r.mono hle)) (ih rs)
 |f _ ih=>
  intro vs r
  cases r with
  |cons r rs=>cases r with
   |fn h1 h2=>
    cases h1
    cases h2
    exact .cons (.fn .nil .nil) (ih rs)
 |osl _ ih=>
  intro vs r
  cases r with
  |cons r rs=>
   have:=zc6 r hs;subst this;exact .cons (.i hr) (ih rs)
 |agg _ _ ih1 ih2=>
  intro vs r
  cases r with
  |cons r rs=>cases r with
   |agg r=>exact .cons (.agg (ih1 r)) (ih2 rs)
theorem zgf {c:Cx} {s:St} {o:Oper} {f:FuncId} {args dargs:List D} {res:D} {t nm ty es n:Nat} {xs:List (List I)} {wr:Bool} {H:Heap} {O:List Heap}
  (hspec:zan c.P f dargs [] res [] []) (hsh:Shut res) (ha:FrzC nm (.sl es n xs) args dargs) (ht:o.dst=some t) (hn:t<s.n) (hS:s.S=H::O) (hl:look H nm=some (.arr ty es n xs wr)) :
  Wp c o s f args {σ:=(t,res)::s.σ,S:=s.S,n:=s.n}:=by
 intro K ρ a w hi ⟨vs,hrun,hrep⟩ next Qe hnext
 have hh:=hi.h;rw[hS] at hh hrep;obtain⟨K',hle,hF⟩:=hh.freeze hl;have hown:=hF.own 0 nm (.arr ty es n xs false) (by simp[zab,zac]);have hrd:RepDL K' ρ (shape []) vs dargs:=FrzC.rep hle (by simp[shape,zab,hl,Ob.sh]) (zdb hown) ha hrep;have hE:HInv {K0:=K',ρ0:=fun d=>ρ (d+1),w0:=w,pr:=fun b=>b<w.heap.size,lt:=fun _ h=>h} K' ρ [] w:=
  ⟨hF.holds,fun _ _ _ e=>by simp[zab] at e,fun _ _ _ _ _ _ e=>by simp[zab] at e,Nat.le_refl _,fun _ _ _=>rfl,fun _ _ e=>by simp[zab] at e,fun _=>rfl,K'.le_refl,fun _ _ _ h=>.inl h,⟨rfl,rfl,rfl⟩⟩
 have fin:∀v w',(∃K2 ρ2,HInv (.of K' ρ w) K2 ρ2 ([]::[]) w'∧RepD K2 ρ2 (shape ([]::[])) v res)→next (a.put o.dst v) w':=by
  intro v w' ⟨K2,ρ2,h1,h2⟩;have hold:∀b,b<w.heap.size→w'.heap[b]? = w.heap[b]?:=fun b hb=>h1.old b hb fun d n ob e=>by simp[zab] at e
  have hg:Grow K ρ s.S w [] K ρ w':=by
   refine⟨K.le_refl,fun _ _ _ h=>.inl h,h1.size,hold,h1.rest,fun _ _ _=>rfl,fun b o x hx=>?_,fun _ _ h=>by simp[look] at h,fun _ _ _ _ h=>by simp[look] at h⟩;have h3:=hh.holds _ _ _ hx;have hb:b<w.heap.size:=by
    rcases Nat.lt_or_ge b w.heap.size with h|h
    ·exact h
    ·rw[hh.K_fresh h] at hx;cases hx
   rw[World.cell?,hold b hb];exact h3
  have hi0:=hi.h;obtain⟨hI,hst⟩:=HInv.grow (S:=s.S) hS hi0 (fun _ _ _ e=>e) (fun _ h=>by simp[look] at h) hg;have e0:addS s.S []=s.S:=by rw[hS];rfl
  rw[e0] at hI hst;refine hnext v w' K ρ ?_;rw[ht];refine⟨hI,hi.defers,by simp[Act.put];exact hi.size,fun t' d' e'=>?_⟩;rw[zcB (by rw[hi.size];exact hn)];simp only[zac] at e'
  split at e'
  ·rename_i e2;simp only[Option.some.injEq] at e';subst e';rw[if_pos e2];exact hsh _ _ _ _ _ _ _ h2
  ·rename_i e2;rw[if_neg e2];exact hi.slots _ _ e'
 rcases hspec _ K' ρ w vs hE hrd with ⟨h1,h2⟩|⟨v,w',h1,h2⟩
 ·rw[h1] at hrun;simp only[Oper.wp,hrun,Oper.upon];refine h2.mono ?_;rintro e w' ⟨v,rfl,hR⟩;exact fin v w' hR
 ·rw[h1] at hrun;simp only[Oper.wp,hrun,Oper.upon];exact fin v w' h2
end Go.AI
namespace Go.AI
open Go.Proofs
set_option maxRecDepth 20000
theorem zxb (O:List Heap) (m:Mdl) (k:Nat) (x:Ins) (h:m.comps[k]? = some x):zan Tryz.prog 31 [mdlD m,.agg [ii 3,ii k]] O (insD x) [] O:=by
 have hk:k<m.comps.length:=(List.getElem?_eq_some_iff.1 h).1;have gx:(m.comps.map insI)[(k:Int).toNat]? = some (insI x):=by rw[Int.toNat_natCast,List.getElem?_map,h];rfl
 obtain⟨xn,xt,xe⟩:=x;refine zaa Tk Tryz.func31 rfl Tryz.call31 Tryz.ntmps31 (Nat.le_of_ble_eq_true rfl) fun E=>?_;refine zai Tk Tryz.func31 ?_;refine gcT Tk Tryz.func31 rfl ?_;refine zah Tk Tryz.func31 (by exact⟨by omega,by show (k:Int)<(m.comps.length:Int);omega⟩) ?_;refine zaq Tk Tryz.func31 (gx) ?_;refine zaj Tk (r:=insD ⟨xn,xt,xe⟩) rfl rfl rfl trivial rfl rfl ?_;rfl
theorem zxa (O:List Heap) (m:Mdl) (a:Int) (k:Nat) (x:Ins) (ha:a≠3) (h:m.reqs[k]? = some x):zan Tryz.prog 31 [mdlD m,.agg [ii a,ii k]] O (insD x) [] O:=by
 have hk:k<m.reqs.length:=(List.getElem?_eq_some_iff.1 h).1;have gx:(m.reqs.map insI)[(k:Int).toNat]? = some (insI x):=by rw[Int.toNat_natCast,List.getElem?_map,h];rfl
 obtain⟨xn,xt,xe⟩:=x;refine zaa Tk Tryz.func31 rfl Tryz.call31 Tryz.ntmps31 (Nat.le_of_ble_eq_true rfl) fun E=>?_;refine zai Tk Tryz.func31 ?_;refine zaf Tk Tryz.func31 rfl (fun c=>?_) (fun c=>?_)
 ·exact absurd (beqT c) ha
 refine zah Tk Tryz.func31 (by exact⟨by omega,by show (k:Int)<(m.reqs.length:Int);omega⟩) ?_;refine zaq Tk Tryz.func31 (gx) ?_;refine zaj Tk (r:=insD ⟨xn,xt,xe⟩) rfl rfl rfl trivial rfl rfl ?_;rfl
def zbQ (m:Mdl):List ByteArray:=(m.comps++m.reqs).map (·.name)
def zbS (m:Mdl) (i:Nat):Plc×Int:=plc 3 (za6 Ins.name (insE m) ((zbQ m).take i) (m.comps.drop i) i) (plc 4 (za6 Ins.name (reqE m) ((zbQ m).take (max i m.comps.length)) (m.reqs.drop (i-m.comps.length)) (i-m.comps.length)) ((0,0),0) id) id
theorem zv6 (m:Mdl):(zbQ m).take m.comps.length=m.comps.map (·.name):=by
 unfold zbQ;rw[List.map_append,List.take_append_of_le_length (by rw[List.length_map];exact Nat.le_refl _),List.take_of_length_le (by rw[List.length_map];exact Nat.le_refl _)]
theorem zts (m:Mdl):zbS m 0=plc 3 (za6 Ins.name (insE m) [] m.comps 0) (plc 4 (za6 Ins.name (reqE m) (m.comps.map (·.name)) m.reqs 0) ((0,0),0) id) id:=by
 unfold zbS;rw[Nat.zero_max,zv6,Nat.zero_sub];rfl
theorem zqY (m:Mdl):(zbQ m).length=m.comps.length+m.reqs.length:=by simp[zbQ]
theorem zos {m:Mdl} {i:Nat} (h:i<m.comps.length):(zbQ m)[i]? = some m.comps[i].name:=by
 unfold zbQ;rw[List.getElem?_map,List.getElem?_append_left h,List.getElem?_eq_getElem h];rfl
theorem zor {m:Mdl} {i:Nat} (h:m.comps.length≤i) (h2:i-m.comps.length<m.reqs.length):(zbQ m)[i]? = some m.reqs[i-m.comps.length].name:=by
 unfold zbQ;rw[List.getElem?_map,List.getElem?_append_right h,List.getElem?_eq_getElem h2];rfl
theorem zcJ {α:Type} {l:List α} {i:Nat} {x:α} (h:l[i]? = some x):l.take (i+1)=l.take i++[x]:=by
 obtain⟨h1,h2⟩:=List.getElem?_eq_some_iff.1 h;rw[←h2];exact List.take_succ_eq_append_getElem h1
theorem ztr {m:Mdl} {i:Nat} (h:i<m.comps.length):zbS m i=if nmE ((zbQ m).take i) m.comps[i].name≠0 then ((3,(i:Int)),nmE ((zbQ m).take i) m.comps[i].name) else if insE m m.comps[i]≠0 then ((3,(i:Int)),insE m m.comps[i]) else zbS m (i+1):=by
 unfold zbS;rw[List.drop_eq_getElem_cons h];simp only[za6,←zcJ (zos h)];have e1:max i m.comps.length=max (i+1) m.comps.length:=by omega
 have e2:i-m.comps.length=i+1-m.comps.length:=by omega
 rw[e1,e2]
 by_cases h1:nmE ((zbQ m).take i) m.comps[i].name≠0
 ·rw[if_pos h1,if_pos h1];rfl
 rw[if_neg h1,if_neg h1]
 by_cases h2:insE m m.comps[i]≠0
 ·rw[if_pos h2,if_pos h2];rfl
 ·rw[if_neg h2,if_neg h2]
theorem ztp {m:Mdl} {i:Nat} (h:m.comps.length≤i) (h2:i-m.comps.length<m.reqs.length):zbS m i=if nmE ((zbQ m).take i) m.reqs[i-m.comps.length].name≠0 then ((4,((i-m.comps.length:Nat):Int)),nmE ((zbQ m).take i) m.reqs[i-m.comps.length].name) else if reqE m m.reqs[i-m.comps.length]≠0 then ((4,((i-m.comps.length:Nat):Int)),reqE m m.reqs[i-m.comps.length]) else zbS m (i+1):=by
 unfold zbS;rw[List.drop_eq_nil_of_le h,List.drop_eq_nil_of_le (show m.comps.length≤i+1 by omega),List.drop_eq_getElem_cons h2,Nat.max_eq_left h,Nat.max_eq_left (show m.comps.length≤i+1 by omega),show i+1-m.comps.length=i-m.comps.length+1 by omega];simp only[za6,←zcJ (zor h h2)]
 by_cases h1:nmE ((zbQ m).take i) m.reqs[i-m.comps.length].name≠0
 ·rw[if_pos h1,if_pos h1];rfl
 rw[if_neg h1,if_neg h1]
 by_cases h2:reqE m m.reqs[i-m.comps.length]≠0
 ·rw[if_pos h2,if_pos h2];rfl
 ·rw[if_neg h2,if_neg h2]
theorem ztq {m:Mdl} {i:Nat} (h:m.comps.length+m.reqs.length≤i):zbS m i=((0,0),0):=by
 unfold zbS;rw[List.drop_eq_nil_of_le (by omega),List.drop_eq_nil_of_le (by omega)];rfl
theorem zkG (O:List Heap) (m:Mdl) (x:Ins) (b:List ByteArray) (rq:Bool) (hm:mdlOk m) (hx:insOk x) (hb:b.length≤1000000) :
  zan Tryz.prog 129 [mdlD m,insD x,.i (.sl 1 (b.length+1) ((b.map fun s=>[strI s])++[[strI x.name]])),bb rq] O (ii (if nmE b x.name≠0 then nmE b x.name else if rq=true then reqE m x else insE m x)) [] O:=by
 have e:ssD (b++[x.name])=.i (.sl 1 (b.length+1) ((b.map fun s=>[strI s])++[[strI x.name]])):=by simp
 rw[←e];exact zl5 O m x b rq hm hx hb
theorem zl4 (O:List Heap) (m:Mdl) (hm:mdlOk m):zan Tryz.prog 51 [mdlD m] O (plcD (chkI m)) [] O:=by
 have hcl:=hm.co;have hrl:=hm.rq;have hck:=hm.cok;have hrk:=hm.rqk;have h129:=fun x b rq hx hb=>zkG [] m x b rq hm hx hb;have hgc:=fun O k x h=>zxb O m k x h;have hgr:=fun O k x h=>zxa O m 4 k x (by decide) h;have hfc:=fun i h=>ztr (m:=m) (i:=i) h;have hfr:=fun i h h2=>ztp (m:=m) (i:=i) h h2;have hfe:=fun i h=>ztq (m:=m) (i:=i) h;unfold chkI;rw[←zts];refine zaN [200063] Tk Tryz.func51 rfl Tryz.call51 Tryz.ntmps51 (Nat.le_of_ble_eq_true rfl) fun E=>?_;refine zai Tk Tryz.func51 ?_;refine zaf Tk Tryz.func51 rfl (fun c1=>?_) (fun c1=>?_)
 ·have c1:m.comps.length=0:=by simpa using c1
  rw[if_pos c1];refine zaj Tk (r:=plcD ((3,0),12)) rfl rfl rfl trivial rfl rfl ?_;rfl
 have c1:¬m.comps.length=0:=by simpa using c1
 rw[if_neg c1];refine zaf Tk Tryz.func51 rfl (fun c2=>?_) (fun c2=>?_)
 ·have c2:m.comps.length>8:=by have:(m.comps.length:Int)>8:=of_decide_eq_true c2;omega
  rw[if_pos c2];refine zaj Tk (r:=plcD ((3,8),3)) rfl rfl rfl trivial rfl rfl ?_;rfl
 have c2:¬m.comps.length>8:=by have:¬(m.comps.length:Int)>8:=of_decide_eq_false c2;omega
 rw[if_neg c2];have w1:IntKind.i64.wrap ((m.comps.length:Int)+(m.reqs.length:Int))=(m.comps.length:Int)+(m.reqs.length:Int):=w64 (by omega) (by omega);have w2:IntKind.i64.wrap (12-(m.comps.length:Int))=12-(m.comps.length:Int):=w64 (by omega) (by omega);refine zaf Tk Tryz.func51 rfl (fun c3=>?_) (fun c3=>?_)
 ·have c3:m.comps.length+m.reqs.length>12:=by have:IntKind.i64.wrap ((m.comps.length:Int)+(m.reqs.length:Int))>12:=of_decide_eq_true c3;rw[w1] at this;omega
  rw[if_pos c3];refine zaj Tk (r:=plcD ((4,IntKind.i64.wrap (12-(m.comps.length:Int))),3)) rfl rfl rfl trivial rfl rfl ?_;rw[w2]
 have c3:¬m.comps.length+m.reqs.length>12:=by have:¬IntKind.i64.wrap ((m.comps.length:Int)+(m.reqs.length:Int))>12:=of_decide_eq_false c3;rw[w1] at this;omega
 rw[if_neg c3];generalize hR:zbS m 0=R;refine g_wk (zbk 5 56 9 1 rfl rfl rfl) ?_;refine zad ?_;refine zag (fun i:Nat=>[(1,.own 0 1 0 0),(2,.own 0 2 0 0),(4,ii m.comps.length),(5,.osl 0 56),(6,ii i)]) (fun i=>[(1,.box (mdlC m)),(2,plcN),(56,oss ((zbQ m).take i))]) (fun _=>O) 69
  (fun i=>i≤m.comps.length+m.reqs.length∧zbS m i=R) (fun i=>m.comps.length+m.reqs.length-i) 0 ⟨Nat.zero_le _,hR⟩ ⟨rfl,rfl,rfl,rfl,rfl,trivial⟩ rfl ⟨rfl,rfl,rfl,trivial⟩ rfl rfl ?_
 clear hR;rintro i ⟨hi,hno⟩ ih;have hL:((zbQ m).take i).length=i:=by rw[List.length_take,zqY];omega
 refine zai Tk Tryz.func51 ?_;refine zaf Tk Tryz.func51 rfl (fun g1=>?_) (fun g1=>?_);rotate_left
 ·have g1:¬(i:Int)<IntKind.i64.wrap ((m.comps.length:Int)+(m.reqs.length:Int)):=of_decide_eq_false g1;rw[w1] at g1;rw[hfe i (by omega)] at hno;subst hno;refine zaj Tk (r:=plcD ((0,0),0)) rfl rfl rfl trivial rfl rfl ?_;rfl
 have g1:(i:Int)<IntKind.i64.wrap ((m.comps.length:Int)+(m.reqs.length:Int)):=of_decide_eq_true g1;rw[w1] at g1;have hj1:ii (IntKind.i64.wrap ((i:Int)+1))=ii ((i+1:Nat):Int):=congrArg ii (zav (n:=1000001) (by omega) (by decide));refine zaf Tk Tryz.func51 rfl (fun g2=>?_) (fun g2=>?_)
 ·have g2:m.comps.length≤i:=by simpa using g2
  have g3:i-m.comps.length<m.reqs.length:=by omega
  have w3:IntKind.i64.wrap ((i:Int)-(m.comps.length:Int))=((i-m.comps.length:Nat):Int):=by rw[w64 (by omega) (by omega)];omega
  rw[hfr i g2 g3] at hno;have ht:=zcJ (zor g2 g3);have hx:=hrk _ (List.getElem_mem g3);have hg:=fun O=>hgr O _ _ (List.getElem?_eq_getElem g3);rw[←w3] at hg;generalize m.reqs[i-m.comps.length]=x at *;have h1:=h129 x ((zbQ m).take i) true hx (by omega);generalize (zbQ m).take i=b at *;obtain⟨xn,xt,xe⟩:=x;simp only[if_true] at h1 ht hno;have hres:(if nmE b xn≠0 then ((4,((i-m.comps.length:Nat):Int)),nmE b xn) else if reqE m ⟨xn,xt,xe⟩≠0 then ((4,((i-m.comps.length:Nat):Int)),reqE m ⟨xn,xt,xe⟩) else zbS m (i+1))=if (if nmE b xn≠0 then nmE b xn else reqE m ⟨xn,xt,xe⟩)≠0 then ((4,((i-m.comps.length:Nat):Int)),if nmE b xn≠0 then nmE b xn else reqE m ⟨xn,xt,xe⟩) else zbS m (i+1):=by
   by_cases k1:nmE b xn≠0
   ·simp only[if_pos k1]
   ·simp only[if_neg k1]
  rw[hres] at hno;clear hres;generalize (if nmE b xn≠0 then nmE b xn else reqE m ⟨xn,xt,xe⟩)=e at *;refine zak Tk Tryz.func51 (hg _) rfl rfl rfl rfl rfl ?_;refine zah Tk Tryz.func51 (by exact⟨by show (b.length+1)*16≤140737488355328;omega,by show b.length+1≤9223372036854775807;omega⟩) ?_;have h1:zan Tryz.prog 129 [mdlD m,insD ⟨xn,xt,xe⟩,.i (.sl 1 (b.length+1) ((b.map fun s=>[strI s])++[[strI xn]])),bb (decide ((i:Int)≥(m.comps.length:Int)))] [] (ii e) [] []:=by
   rw[decide_eq_true (by omega)];exact h1
  refine zb1 Tk Tryz.func51 rfl rfl rfl rfl (zgf h1 (zex _) (.agg (.i (.i (.i (.i (.i (.i (.i .nil))))))) (.agg (.i (.i (.i .nil))) (.osl (.i .nil)))) rfl (show 63<69 by decide) rfl rfl) ?_;refine zaf Tk Tryz.func51 rfl (fun c4=>?_) (fun c4=>?_)
  ·have c4:e≠0:=bneT c4;rw[if_pos c4] at hno;subst hno;refine zaj Tk (r:=plcD ((4,IntKind.i64.wrap ((i:Int)-(m.comps.length:Int))),e)) rfl rfl rfl trivial rfl rfl ?_;rw[w3]
  have c4:¬e≠0:=fun h=>h (bneF c4);rw[if_neg c4] at hno;refine zad ?_;refine ih (i+1) _ _ ⟨by omega,hno⟩ (by omega) ⟨rfl,rfl,rfl,rfl,hj1,trivial⟩ rfl ⟨rfl,rfl,?_,trivial⟩ rfl rfl;rw[ht];exact congrArg some (za8 b xn)
 ·have g2:i<m.comps.length:=by simpa using g2
  rw[hfc i g2] at hno;have ht:=zcJ (zos g2);have hx:=hck _ (List.getElem_mem g2);have hg:=fun O=>hgc O _ _ (List.getElem?_eq_getElem g2);generalize m.comps[i]=x at *;have h1:=h129 x ((zbQ m).take i) false hx (by omega);generalize (zbQ m).take i=b at *;obtain⟨xn,xt,xe⟩:=x;simp only[Bool.false_eq_true,if_false] at h1 ht hno;have hres:(if nmE b xn≠0 then ((3,(i:Int)),nmE b xn) else if insE m ⟨xn,xt,xe⟩≠0 then ((3,(i:Int)),insE m ⟨xn,xt,xe⟩) else zbS m (i+1))=if (if nmE b xn≠0 then nmE b xn else insE m ⟨xn,xt,xe⟩)≠0 then ((3,(i:Int)),if nmE b xn≠0 then nmE b xn else insE m ⟨xn,xt,xe⟩) else zbS m (i+1):=by
   by_cases k1:nmE b xn≠0
   ·simp only[if_pos k1]
   ·simp only[if_neg k1]
  rw[hres] at hno;clear hres;generalize (if nmE b xn≠0 then nmE b xn else insE m ⟨xn,xt,xe⟩)=e at *;refine zak Tk Tryz.func51 (hg _) rfl rfl rfl rfl rfl ?_;refine zah Tk Tryz.func51 (by exact⟨by show (b.length+1)*16≤140737488355328;omega,by show b.length+1≤9223372036854775807;omega⟩) ?_;have h1:zan Tryz.prog 129 [mdlD m,insD ⟨xn,xt,xe⟩,.i (.sl 1 (b.length+1) ((b.map fun s=>[strI s])++[[strI xn]])),bb (decide ((i:Int)≥(m.comps.length:Int)))] [] (ii e) [] []:=by
   rw[decide_eq_false (by omega)];exact h1
  refine zb1 Tk Tryz.func51 rfl rfl rfl rfl (zgf h1 (zex _) (.agg (.i (.i (.i (.i (.i (.i (.i .nil))))))) (.agg (.i (.i (.i .nil))) (.osl (.i .nil)))) rfl (show 63<69 by decide) rfl rfl) ?_;refine zaf Tk Tryz.func51 rfl (fun c4=>?_) (fun c4=>?_)
  ·have c4:e≠0:=bneT c4;rw[if_pos c4] at hno;subst hno;refine zaj Tk (r:=plcD ((3,i),e)) rfl rfl rfl trivial rfl rfl ?_;rfl
  have c4:¬e≠0:=fun h=>h (bneF c4);rw[if_neg c4] at hno;refine zad ?_;refine ih (i+1) _ _ ⟨by omega,hno⟩ (by omega) ⟨rfl,rfl,rfl,rfl,hj1,trivial⟩ rfl ⟨rfl,rfl,?_,trivial⟩ rfl rfl;rw[ht];exact congrArg some (za8 b xn)
theorem zjE {α:Type} {nm:α→ByteArray} {err:α→Int} {l:List α} {i:Nat} (h:i<l.length):za6 nm err ((l.map nm).take i) (l.drop i) i=if (if nmE ((l.map nm).take i) (nm l[i])≠0 then nmE ((l.map nm).take i) (nm l[i]) else err l[i])≠0 then some (i,if nmE ((l.map nm).take i) (nm l[i])≠0 then nmE ((l.map nm).take i) (nm l[i]) else err l[i]) else za6 nm err ((l.map nm).take (i+1)) (l.drop (i+1)) (i+1):=by
 rw[List.drop_eq_getElem_cons h];have ht:(l.map nm).take (i+1)=(l.map nm).take i++[nm l[i]]:=zcJ (by rw[List.getElem?_map,List.getElem?_eq_getElem h];rfl);simp only[za6,ht]
 by_cases k1:nmE ((l.map nm).take i) (nm l[i])≠0
 ·simp only[if_pos k1]
 ·simp only[if_neg k1]
theorem zyW (O:List Heap) (m:Mdl) (hm:mdlOk m):zan Tryz.prog 15 [mdlD m] O (plcD (mdlE m)) [] O:=by
 have h0:=fun O=>zdy O m.name hm.nm;have hev:=hm.ev;have hen:=hm.evn;have htl:=hm.tp;have hxl:=hm.ex;have hcl:=hm.cn;have h50:=fun O i hi=>zqg O m i hi hm;have h51:=fun O=>zl4 O m hm;have h52:=fun O i hi h=>zmd O m i hi hm h;have h53:=fun O i hi=>zle O m i hi hm;have hti:(chkI m).2=0→∀c∈m.comps,∃t,zbL m c=some t:=fun h c hc=>by
  obtain⟨t,h1,_⟩:=zgz (zjL h c hc);exact⟨t,h1⟩
 rw[zlV];generalize chkI m=cI at *;unfold chkT chkC;generalize hRT:za6 Tpl.name tplE [] m.tpls 0=RT;generalize hRX:za6 NEx.name (excE m) [] m.excs 0=RX;generalize hRC:za6 NCn.name (conE m) [] m.cons 0=RC;generalize hRE:evsP [] m.evs 0=RE;generalize zaT m.name=nb at *;have hA:∀O i,i<m.evs.length→zan Tryz.prog 46 [.i (.sl 5 (IntKind.i64.wrap ((i:Int)+1)).toNat ((m.evs.map evtI).take (IntKind.i64.wrap ((i:Int)+1)).toNat))] O (ii (zjP (m.evs.take (i+1)))) [] O:=fun O i hi=>by
  rw[zav (i:=i) (n:=1000001) (by omega) (by decide),Int.toNat_natCast,←zdO evtI 5 hi];exact zus O (m.evs.take (i+1)) (by rw[List.length_take];omega) fun x hx=>hen x (List.mem_of_mem_take hx)
 clear hm hen;obtain⟨⟨i1,i2⟩,i3⟩:=cI;simp only at hti ⊢;refine zaa Tk Tryz.func15 rfl Tryz.call15 Tryz.ntmps15 (Nat.le_of_ble_eq_true rfl) fun E=>?_;refine zai Tk Tryz.func15 ?_;refine zak Tk Tryz.func15 (h0 _) rfl rfl rfl rfl rfl ?_;refine zaf Tk Tryz.func15 rfl (fun c1=>?_) (fun c1=>?_)
 ·have c1:nb=false:=by simpa using c1
  rw[if_pos c1];refine zaj Tk (r:=plcD ((0,0),7)) rfl rfl rfl trivial rfl rfl ?_;rfl
 have c1:¬nb=false:=by simpa using c1
 rw[if_neg c1];clear h0;refine zad ?_;refine zag (fun i:Nat=>[(1,.own 0 1 0 0),(2,.own 0 2 0 0),(4,ii i)]) (fun i=>[(1,.box (mdlC m)),(2,plcN)]) (fun _=>O) 107
  (fun i=>i≤m.evs.length∧evsP (m.evs.take i) (m.evs.drop i) i=RE) (fun i=>m.evs.length-i) 0 ⟨Nat.zero_le _,hRE⟩ ⟨rfl,rfl,rfl,trivial⟩ rfl ⟨rfl,rfl,trivial⟩ rfl rfl ?_
 clear hRE;rintro i ⟨hi,hno⟩ ih;refine zai Tk Tryz.func15 ?_;refine zaf Tk Tryz.func15 rfl (fun g1=>?_) (fun g1=>?_)
 ·have g1:i<m.evs.length:=by simpa using g1
  have hw:IntKind.i64.wrap ((i:Int)+1)=((i+1:Nat):Int):=zav (n:=1000001) (by omega) (by decide);have ht:m.evs.take (i+1)=m.evs.take i++[m.evs[i]]:=List.take_succ_eq_append_getElem g1;have hA':=fun O=>hA O i g1;rw[List.drop_eq_getElem_cons g1] at hno;simp only[evsP,←ht] at hno;generalize zjP (m.evs.take (i+1))=e1 at *;refine zah Tk Tryz.func15 (by exact⟨by rw[hw];omega,by rw[hw];show ((i+1:Nat):Int)≤(m.evs.length:Int);omega⟩) ?_;refine zak Tk Tryz.func15 (hA' _) rfl rfl rfl rfl rfl ?_;refine zaf Tk Tryz.func15 rfl (fun c2=>?_) (fun c2=>?_)
  ·have c2:e1≠0:=bneT c2;rw[if_pos c2] at hno;subst hno;refine zaj Tk (r:=plcD ((1,i),e1)) rfl rfl rfl trivial rfl rfl ?_;rfl
  have c2:¬e1≠0:=fun h=>h (bneF c2);rw[if_neg c2] at hno;refine zad ?_;exact ih (i+1) _ _ ⟨g1,hno⟩ (by omega) ⟨rfl,rfl,congrArg ii hw,trivial⟩ rfl ⟨rfl,rfl,trivial⟩ rfl rfl
 have g1:m.evs.length≤i:=by simpa using g1
 rw[List.drop_eq_nil_of_le g1] at hno;have hno:none=RE:=hno;subst hno;rw[show ∀V:Plc×Int,plc 1 none V id=V from fun _=>rfl];clear ih hA g1 hi;refine zaf Tk Tryz.func15 rfl (fun c3=>?_) (fun c3=>?_)
 ·have c3:m.tpls.length>16:=by have:(m.tpls.length:Int)>16:=of_decide_eq_true c3;omega
  rw[if_pos c3];refine zaj Tk (r:=plcD ((2,16),3)) rfl rfl rfl trivial rfl rfl ?_;rfl
 have c3:¬m.tpls.length>16:=by have:¬(m.tpls.length:Int)>16:=of_decide_eq_false c3;omega
 rw[if_neg c3];refine zad ?_;refine zag (fun i:Nat=>[(1,.own 0 1 0 0),(2,.own 0 2 0 0),(6,ii i)]) (fun i=>[(1,.box (mdlC m)),(2,plcN)]) (fun _=>O) 107
  (fun i=>i≤m.tpls.length∧za6 Tpl.name tplE ((m.tpls.map (·.name)).take i) (m.tpls.drop i) i=RT) (fun i=>m.tpls.length-i) 0 ⟨Nat.zero_le _,hRT⟩ ⟨rfl,rfl,rfl,trivial⟩ rfl ⟨rfl,rfl,trivial⟩ rfl rfl ?_
 clear hRT;rintro i ⟨hi,hno⟩ ih;refine zai Tk Tryz.func15 ?_;refine zaf Tk Tryz.func15 rfl (fun g1=>?_) (fun g1=>?_)
 ·have g1:i<m.tpls.length:=by simpa using g1
  have hj1:ii (IntKind.i64.wrap ((i:Int)+1))=ii ((i+1:Nat):Int):=congrArg ii (zav (n:=1000001) (by omega) (by decide));have h50':=fun O=>h50 O i g1;rw[zjE g1] at hno;generalize (if nmE ((m.tpls.map (·.name)).take i) m.tpls[i].name≠0 then nmE ((m.tpls.map (·.name)).take i) m.tpls[i].name else tplE m.tpls[i])=e at *;refine zak Tk Tryz.func15 (h50' _) rfl rfl rfl rfl rfl ?_;refine zaf Tk Tryz.func15 rfl (fun c4=>?_) (fun c4=>?_)
  ·have c4:e≠0:=bneT c4;rw[if_pos c4] at hno;subst hno;have c4':((plc 2 (some (i,e)) ((0,0),0) id:Plc×Int)).2≠0:=c4;rw[if_pos c4'];refine zaj Tk (r:=plcD ((2,i),e)) rfl rfl rfl trivial rfl rfl ?_;rfl
  have c4:¬e≠0:=fun h=>h (bneF c4);rw[if_neg c4] at hno;refine zad ?_;exact ih (i+1) _ _ ⟨g1,hno⟩ (by omega) ⟨rfl,rfl,hj1,trivial⟩ rfl ⟨rfl,rfl,trivial⟩ rfl rfl
 have g1:m.tpls.length≤i:=by simpa using g1
 rw[List.drop_eq_nil_of_le g1] at hno;have hno:none=RT:=hno;subst hno;rw[if_neg (show ¬((plc 2 none ((0,0),0) id:Plc×Int)).2≠0 from fun h=>h rfl)];clear ih h50 g1 hi;refine zak Tk Tryz.func15 (h51 _) rfl rfl rfl rfl rfl ?_;refine zaf Tk Tryz.func15 rfl (fun c5=>?_) (fun c5=>?_)
 ·have c5:i3≠0:=bneT c5;rw[if_pos c5];refine zaj Tk (r:=plcD ((i1,i2),i3)) rfl rfl rfl trivial rfl rfl ?_;rfl
 have c5:i3=0:=bneF c5;rw[if_neg (fun h=>h c5)];have hti:=hti c5;clear h51;refine zaf Tk Tryz.func15 rfl (fun c6=>?_) (fun c6=>?_)
 ·have c6:m.excs.length>32:=by have:(m.excs.length:Int)>32:=of_decide_eq_true c6;omega
  rw[if_pos c6];refine zaj Tk (r:=plcD ((5,32),3)) rfl rfl rfl trivial rfl rfl ?_;rfl
 have c6:¬m.excs.length>32:=by have:¬(m.excs.length:Int)>32:=of_decide_eq_false c6;omega
 rw[if_neg c6];refine zad ?_;refine zag (fun i:Nat=>[(1,.own 0 1 0 0),(2,.own 0 2 0 0),(10,ii i)]) (fun i=>[(1,.box (mdlC m)),(2,plcN)]) (fun _=>O) 107
  (fun i=>i≤m.excs.length∧za6 NEx.name (excE m) ((m.excs.map (·.name)).take i) (m.excs.drop i) i=RX) (fun i=>m.excs.length-i) 0 ⟨Nat.zero_le _,hRX⟩ ⟨rfl,rfl,rfl,trivial⟩ rfl ⟨rfl,rfl,trivial⟩ rfl rfl ?_
 clear hRX;rintro i ⟨hi,hno⟩ ih;refine zai Tk Tryz.func15 ?_;refine zaf Tk Tryz.func15 rfl (fun g1=>?_) (fun g1=>?_)
 ·have g1:i<m.excs.length:=by simpa using g1
  have hj1:ii (IntKind.i64.wrap ((i:Int)+1))=ii ((i+1:Nat):Int):=congrArg ii (zav (n:=1000001) (by omega) (by decide));have h52':=fun O=>h52 O i g1 hti;rw[zjE g1] at hno;generalize (if nmE ((m.excs.map (·.name)).take i) m.excs[i].name≠0 then nmE ((m.excs.map (·.name)).take i) m.excs[i].name else excE m m.excs[i])=e at *;refine zak Tk Tryz.func15 (h52' _) rfl rfl rfl rfl rfl ?_;refine zaf Tk Tryz.func15 rfl (fun c4=>?_) (fun c4=>?_)
  ·have c4:e≠0:=bneT c4;rw[if_pos c4] at hno;subst hno;refine zaj Tk (r:=plcD ((5,i),e)) rfl rfl rfl trivial rfl rfl ?_;rfl
  have c4:¬e≠0:=fun h=>h (bneF c4);rw[if_neg c4] at hno;refine zad ?_;exact ih (i+1) _ _ ⟨g1,hno⟩ (by omega) ⟨rfl,rfl,hj1,trivial⟩ rfl ⟨rfl,rfl,trivial⟩ rfl rfl
 have g1:m.excs.length≤i:=by simpa using g1
 rw[List.drop_eq_nil_of_le g1] at hno;have hno:none=RX:=hno;subst hno;rw[show ∀V:Plc×Int,plc 5 none V id=V from fun _=>rfl];clear ih h52 g1 hi;refine zaf Tk Tryz.func15 rfl (fun c7=>?_) (fun c7=>?_)
 ·have c7:m.cons.length>32:=by have:(m.cons.length:Int)>32:=of_decide_eq_true c7;omega
  rw[if_pos c7];refine zaj Tk (r:=plcD ((6,32),3)) rfl rfl rfl trivial rfl rfl ?_;rfl
 have c7:¬m.cons.length>32:=by have:¬(m.cons.length:Int)>32:=of_decide_eq_false c7;omega
 rw[if_neg c7];refine zad ?_;refine zag (fun i:Nat=>[(1,.own 0 1 0 0),(2,.own 0 2 0 0),(12,ii i)]) (fun i=>[(1,.box (mdlC m)),(2,plcN)]) (fun _=>O) 107
  (fun i=>i≤m.cons.length∧za6 NCn.name (conE m) ((m.cons.map (·.name)).take i) (m.cons.drop i) i=RC) (fun i=>m.cons.length-i) 0 ⟨Nat.zero_le _,hRC⟩ ⟨rfl,rfl,rfl,trivial⟩ rfl ⟨rfl,rfl,trivial⟩ rfl rfl ?_
 clear hRC;rintro i ⟨hi,hno⟩ ih;refine zai Tk Tryz.func15 ?_;refine zaf Tk Tryz.func15 rfl (fun g1=>?_) (fun g1=>?_)
 ·have g1:i<m.cons.length:=by simpa using g1
  have hj1:ii (IntKind.i64.wrap ((i:Int)+1))=ii ((i+1:Nat):Int):=congrArg ii (zav (n:=1000001) (by omega) (by decide));have h53':=fun O=>h53 O i g1;rw[zjE g1] at hno;generalize (if nmE ((m.cons.map (·.name)).take i) m.cons[i].name≠0 then nmE ((m.cons.map (·.name)).take i) m.cons[i].name else conE m m.cons[i])=e at *;refine zak Tk Tryz.func15 (h53' _) rfl rfl rfl rfl rfl ?_;refine zaf Tk Tryz.func15 rfl (fun c4=>?_) (fun c4=>?_)
  ·have c4:e≠0:=bneT c4;rw[if_pos c4] at hno;subst hno;refine zaj Tk (r:=plcD ((6,i),e)) rfl rfl rfl trivial rfl rfl ?_;rfl
  have c4:¬e≠0:=fun h=>h (bneF c4);rw[if_neg c4] at hno;refine zad ?_;exact ih (i+1) _ _ ⟨g1,hno⟩ (by omega) ⟨rfl,rfl,hj1,trivial⟩ rfl ⟨rfl,rfl,trivial⟩ rfl rfl
 have g1:m.cons.length≤i:=by simpa using g1
 rw[List.drop_eq_nil_of_le g1] at hno;have hno:none=RC:=hno;subst hno;refine zaj Tk (r:=plcD ((0,0),0)) rfl rfl rfl trivial rfl rfl ?_;rfl
theorem zoT:∀(A B:List Chc) (all:List (List Loc2)),chsT (A++B) all=chsT B (chsT A all)
 |[],_,_=>rfl
 |y::A,B,all=>zoT A B (stepT y all [])
theorem zqj {y:Chc} {all:List (List Loc2)} {acc:List (List Loc2)} {j:Nat} (h:j<all.length):stepT y (all.drop j) acc=if (acc++addC y all[j]).length>33 then acc++addC y all[j] else stepT y (all.drop (j+1)) (acc++addC y all[j]):=by
 rw[List.drop_eq_getElem_cons h];rfl
abbrev celO (EV CO RQ CN:D):Ob:=.box [EV,CO,RQ,.osl 0 61,CN]
abbrev hcE (EV CO RQ CN:D) (out:List XEx) (R:Heap):Heap:=(5,celO EV CO RQ CN)::(61,zg6 out)::R
def expN:List XEx→List XEx→List XEx×Int
 |out,[]=>(out,0)
 |out,y::r=>if y.name.size>32 then (out,7) else expN (out++[y]) r
def expO (out new:List XEx):List XEx×Int:=
 if (out.length:Int)+(new.length:Int)>32 then (out,3) else if (expN out new).2≠0 then expN out new else
 match dupX (out.map (·.name)) new with
 |.error _=>(out++new,8)
 |.ok _=>(out++new,0)
theorem ztO:∀{new out:List XEx},(expN out new).2=0→(expN out new).1=out++new∧(new.any fun y=>decide (y.name.size>32))=false
 |[],out,_=>⟨by simp[expN],rfl⟩
 |y::r,out,h=>by
  unfold expN at h ⊢
  by_cases c:y.name.size>32
  ·rw[if_pos c] at h;cases h
  ·rw[if_neg c] at h ⊢;obtain⟨h1,h2⟩:=ztO h;refine⟨by rw[h1,List.append_assoc];rfl,?_⟩;rw[List.any_cons,h2,Bool.or_false];exact decide_eq_false c
theorem zoH:∀{new out:List XEx},(expN out new).2≠0→(expN out new).2=7∧(new.any fun y=>decide (y.name.size>32))=true
 |[],out,h=>absurd rfl h
 |y::r,out,h=>by
  unfold expN at h ⊢
  by_cases c:y.name.size>32
  ·rw[if_pos c];exact⟨rfl,by rw[List.any_cons,decide_eq_true c];rfl⟩
  ·rw[if_neg c] at h ⊢;obtain⟨h1,h2⟩:=zoH h;exact⟨h1,by rw[List.any_cons,h2,Bool.or_true]⟩
theorem zwt (out new:List XEx):(expO out new).2=if (out.length:Int)+(new.length:Int)>32 then 3 else if (new.any fun y=>decide (y.name.size>32))=true then 7 else match dupX (out.map (·.name)) new with
  |.error _=>8
  |.ok _=>0:=by
 unfold expO
 by_cases c1:(out.length:Int)+(new.length:Int)>32
 ·rw[if_pos c1,if_pos c1]
 rw[if_neg c1,if_neg c1]
 by_cases c2:(expN out new).2≠0
 ·obtain⟨h1,h2⟩:=zoH c2;rw[if_pos c2,if_pos h2,h1]
 ·obtain⟨h1,h2⟩:=ztO (Classical.byContradiction c2);rw[if_neg c2,if_neg (by rw[h2];decide)]
  cases dupX (out.map (·.name)) new<;>rfl
theorem zyH {out new:List XEx} (h:(expO out new).2=0):(expO out new).1=out++new:=by
 unfold expO at h ⊢
 by_cases c1:(out.length:Int)+(new.length:Int)>32
 ·rw[if_pos c1] at h;cases h
 rw[if_neg c1] at h ⊢
 by_cases c2:(expN out new).2≠0
 ·rw[if_pos c2] at h;exact absurd h c2
 rw[if_neg c2] at h ⊢
 cases hd:dupX (out.map (·.name)) new with
 |error _=>rw[hd] at h
 |ok _=>rfl
theorem zqE (X:List XEx) (y:XEx):Ob.arr 126 2 (X.length+1) (X.map xexI++[xexI y]) true=zg6 (X++[y]):=by simp[zg6]
theorem zwh {H0 R:Heap} {O0:List Heap} {b d arr:Ob} (hR:zbA 61 R=R):∀k n,zab (H0::((5,b)::(61,arr)::R)::O0) k n=zab (H0::((5,b)::(61,arr)::(5,d)::zbA 61 R)::O0) k n:=by
 intro k n
 match k with
 |0=>rfl
 |1=>
  show look ((5,b)::(61,arr)::R) n=look ((5,b)::(61,arr)::(5,d)::zbA 61 R) n;rw[hR];simp only[zac]
  by_cases h5:5=n
  ·rw[if_pos h5,if_pos h5]
  ·rw[if_neg h5,if_neg h5,if_neg h5]
 |k+2=>rfl
def zdx (m:Mdl) (og:List (List Sta)) (L:List NLc) (k:Nat):List Chc:=(List.range k).flatMap fun k=>(L.filter fun x=>sB x.1 ((m.comps.map (·.name)).getD k ⟨#[]⟩)).map fun x=>chcR m og x
theorem zs7 (m:Mdl) (og:List (List Sta)) (L:List NLc) (k:Nat):zdx m og L (k+1)=zdx m og L k++(L.filter fun x=>sB x.1 ((m.comps.map (·.name)).getD k ⟨#[]⟩)).map fun x=>chcR m og x:=by
 unfold zdx;rw[List.range_succ,List.flatMap_append];simp
theorem zoE {α β:Type} (p:α→Bool) (f:α→β) {L:List α} {j:Nat} (h:j<L.length):((L.take (j+1)).filter p).map f=((L.take j).filter p).map f++if p L[j]=true then [f L[j]] else []:=by
 rw[List.take_succ_eq_append_getElem h,List.filter_append,List.map_append];congr 1
 by_cases c:p L[j]=true
 ·rw[if_pos c,List.filter_cons_of_pos c];rfl
 ·rw[if_neg c,List.filter_cons_of_neg c];rfl
theorem zvp (q:Int) {l:List Sta} {s:Nat} (h:s<l.length):stAt q (l.take (s+1)) 0=stAt q (l.take s) 0++if l[s].loc=q then [(s:Int)] else []:=by
 rw[List.take_succ_eq_append_getElem h,ziZ];congr 1;have e:0+(l.take s).length=s:=by rw[List.length_take];omega
 rw[e]
 by_cases c:l[s].loc=q
 ·rw[if_pos c];simp[stAt,c]
 ·rw[if_neg c];simp[stAt,c]
theorem zoG (x:NEx) (all:List (List Loc2)):(expT x all).length=all.length:=by
 unfold expT;rcases all with _|⟨a,_|⟨b,r⟩⟩
 ·rfl
 ·rfl
 ·exact zgw _ _ _
theorem zoe (nm:ByteArray):∀(l:List (List Loc2)) (i j:Nat) (h:j<l.length),(numX nm l i)[j]? = some ⟨nm++⟨#[95]⟩++zcN ((i+j:Nat):Int),l[j]⟩
 |b::r,i,0,_=>rfl
 |b::r,i,j+1,h=>by
  have:=zoe nm r (i+1) j (by simpa using h);simp only[numX,List.getElem?_cons_succ,List.getElem_cons_succ,this];rw[show i+1+j=i+(j+1) by omega]
theorem zwr (x:NEx) (all:List (List Loc2)) {j:Nat} (h:j<all.length):(expT x all)[j]? = some ⟨if all.length>1 then x.name++⟨#[95]⟩++zcN (j:Int) else x.name,all[j]⟩:=by
 unfold expT;rcases all with _|⟨a,_|⟨b,r⟩⟩
 ·simp at h
 ·have:j=0:=by simpa using h
  subst this;rfl
 ·rw[if_pos (by simp)];have:=zoe x.name (a::b::r) 0 j h;rw[Nat.zero_add] at this;exact this
theorem zyO {A:List XEx} {n:Nat} (h:n<A.length):dupX ((A.map (·.name)).take n) (A.drop n)=if hasB ((A.map (·.name)).take n) A[n].name=true then .error () else dupX ((A.map (·.name)).take (n+1)) (A.drop (n+1)):=by
 rw[List.drop_eq_getElem_cons h];have ht:(A.map (·.name)).take (n+1)=(A.map (·.name)).take n++[A[n].name]:=zcJ (by rw[List.getElem?_map,List.getElem?_eq_getElem h];rfl);simp only[dupX,ht]
def zgn (N evs:List ByteArray) (n:Nat):List Int:=((List.range n).filter fun e=>decide (nmIx evs (N.getD e ⟨#[]⟩)≥0)).map fun e=>((e:Nat):Int)
theorem zs9 (N evs:List ByteArray) (n:Nat):zgn N evs (n+1)=if nmIx evs (N.getD n ⟨#[]⟩)≥0 then zgn N evs n++[(n:Int)] else zgn N evs n:=by
 unfold zgn;rw[List.range_succ,List.filter_append,List.map_append]
 by_cases h:nmIx evs (N.getD n ⟨#[]⟩)≥0
 ·rw[if_pos h,List.filter_cons_of_pos (by simpa using h)];rfl
 ·rw[if_neg h,List.filter_cons_of_neg (by simpa using h)];simp
theorem zta (N evs:List ByteArray) (n:Nat):(zgn N evs n).length≤n:=by
 unfold zgn;rw[List.length_map];exact Nat.le_trans (List.length_filter_le _ _) (by rw[List.length_range];exact Nat.le_refl _)
theorem ziE {α β:Type} {f:α→List β} {k:Nat}:∀{l:List α},(∀x∈l,(f x).length≤k)→(l.flatMap f).length≤l.length*k
 |[],_=>by simp
 |x::r,h=>by
  have h1:=h x (by simp);have h2:=ziE (l:=r) fun y hy=>h y (by simp[hy]);rw[List.flatMap_cons,List.length_append,List.length_cons,Nat.succ_mul];omega
theorem zjl (N evs:List ByteArray) (mv:List Mv) (s e:Int):(lwMv N evs mv s e).length≤mv.length:=by
 unfold lwMv;rw[List.length_map];exact List.length_filter_le _ _
theorem zs6 (N evs:List ByteArray) (mv:List Mv) (al:List Int) (n:Nat):zjk N evs mv al (n+1)=zjk N evs mv al n++al.flatMap fun e=>lwMv N evs mv (n:Int) e:=by
 unfold zjk;rw[List.range_succ,List.flatMap_append];simp
theorem zv3 (N evs:List ByteArray) {mv:List Mv} (s e:Int) {j:Nat} (h:j<mv.length):lwMv N evs (mv.take (j+1)) s e=lwMv N evs (mv.take j) s e++if mv[j].frm=s∧mv[j].ev=lwK N evs e then [{mv[j] with ev:=e}] else []:=by
 rw[List.take_succ_eq_append_getElem h];unfold lwMv;rw[List.filter_append,List.map_append];congr 1
 by_cases c:mv[j].frm=s∧mv[j].ev=lwK N evs e
 ·rw[if_pos c,List.filter_cons_of_pos (by simp[c.1,c.2])];rfl
 ·rw[if_neg c,List.filter_cons_of_neg (by simpa using c)];rfl
theorem zsQ (l:List Mv) (y:Mv):Ob.arr 187 8 (l.length+1) (l.map mvI++[mvI y]) true=zcr (l++[y]):=by simp[zcr]
theorem zs2 (O:List Heap) (m:Mdl) (x:Ins) (t:Tpl) (hm:mdlOk m) (hx:x.evs.length≤1000000) (h:mchOk m x t):zan Tryz.prog 30 [mdlD m,insD x] O (extD (lwM m x t)) [] O:=by
 have h35:=fun O=>zdN O m x t hm.toszOk h.tp;have h39:=fun O s=>zb8 O x.evs s hx;have hel:=hm.ev;have hlo:=h.right.locs;have hml:=h.mvl;generalize hR:lwM m x t=R;unfold lwM at hR;have hN:(m.evs.map (·.name)).length=m.evs.length:=List.length_map _;have hge:∀e (he:e<m.evs.length),(m.evs.map (·.name)).getD e ⟨#[]⟩=m.evs[e].name:=fun e he=>by
  rw[List.getD_eq_getElem?_getD,List.getElem?_map,List.getElem?_eq_getElem he];rfl
 have hal:lwAl (m.evs.map (·.name)) x.evs=zgn (m.evs.map (·.name)) x.evs m.evs.length:=by unfold lwAl zgn;rw[hN]
 have hmem:∀a∈zgn (m.evs.map (·.name)) x.evs m.evs.length,∃e,∃he:e<m.evs.length,a=((e:Nat):Int):=by
  intro a ha;rw[←hal] at ha;obtain⟨e,s,h1,h2,_⟩:=zjm.1 ha;have:=(List.getElem?_eq_some_iff.1 h2).1;rw[hN] at this;exact⟨e,this,h1⟩
 rw[hal] at hR;clear hal h hm;generalize m.evs.map (·.name)=N at *;obtain⟨tn,tl,te,⟨tal,lo,ini,mk,vr,mo⟩⟩:=t;obtain⟨xn,xt,xe⟩:=x;simp only at hR hlo hml hmem h39 hge;refine zaN [8,22] Tk Tryz.func30 rfl Tryz.call30 Tryz.ntmps30 (Nat.le_of_ble_eq_true rfl) fun E=>?_;refine zai Tk Tryz.func30 ?_;refine zak Tk Tryz.func30 (h35 _) rfl rfl rfl rfl rfl ?_;refine g_wk (zaE 6 50 3 1 (pre:=[]) (post:=[ii lo,ii ini,ints mk,vrs vr,.i (.v (.slice none 0 0))]) rfl rfl rfl) ?_;refine zad ?_;refine zag (fun e:Nat=>[(2,.own 0 2 0 0),(3,.own 0 3 0 0),(4,.own 0 4 0 0),(5,.own 0 5 0 0),(6,.own 0 6 0 0),(7,ii e)])
  (fun e=>[(2,.box (mdlC m)),(3,.box [.i (strI xn),.i (strI xt),ssD xe]),(4,.box zhQ),(5,.box (tplC ⟨tn,tl,te,⟨tal,lo,ini,mk,vr,mo⟩⟩)),(6,.box [.osl 0 50,ii lo,ii ini,ints mk,vrs vr,.i (.v (.slice none 0 0))]),(50,zb5 (zgn N xe e))]) (fun _=>O) 111
  (fun e=>e≤m.evs.length) (fun e=>m.evs.length-e) 0 (Nat.zero_le _) ⟨rfl,rfl,rfl,rfl,rfl,rfl,trivial⟩ rfl ⟨rfl,rfl,rfl,rfl,rfl,rfl,trivial⟩ rfl rfl ?_
 intro e he ih;have he:e≤m.evs.length:=he;have hll:=zta N xe e;refine zai Tk Tryz.func30 ?_;refine zaf Tk Tryz.func30 rfl (fun g1=>?_) (fun g1=>?_)
 ·have g1:e<m.evs.length:=by simpa using g1
  have gs:(m.evs.map evtI)[(e:Int).toNat]? = some (evtI m.evs[e]):=zal (f:=evtI) g1;have hs:=zs9 N xe e;rw[hge e g1] at hs;have hj1:ii (IntKind.i64.wrap ((e:Int)+1))=ii ((e+1:Nat):Int):=congrArg ii (zav (n:=1000001) (by omega) (by decide));have h39':=fun O=>h39 O m.evs[e].name;generalize zgn N xe e=A at *;generalize m.evs[e]=y at *;obtain⟨yn,yc,yo,yf,yl⟩:=y;simp only at h39' hs;generalize nmIx xe yn=q at *;refine zat Tk Tryz.func30 zax rfl ?_;refine zar Tk (by exact⟨by omega,by show (e:Int)<(m.evs.length:Int);omega⟩) ?_;refine zay Tk (gs) ?_;refine zaF Tk (fun _=>h39' _) rfl rfl rfl ?_;refine zaA Tk Tryz.func30 (by kernel_rfl) ?_;refine zaf Tk Tryz.func30 rfl (fun c1=>?_) (fun c1=>?_)
  ·have c1:q≥0:=of_decide_eq_true c1;rw[if_pos c1] at hs;refine zah Tk Tryz.func30 (by exact⟨by show (A.length+1)*8≤140737488355328;omega,by show A.length+1≤9223372036854775807;omega⟩) ?_;refine zad ?_;refine ih (e+1) _ _ g1 (by omega) ⟨rfl,rfl,rfl,rfl,rfl,hj1,trivial⟩ rfl ⟨rfl,rfl,rfl,rfl,rfl,?_,trivial⟩ rfl rfl;rw[hs];exact congrArg some (zcs A _)
  ·have c1:¬q≥0:=of_decide_eq_false c1;rw[if_neg c1] at hs;refine zad ?_;refine ih (e+1) _ _ g1 (by omega) ⟨rfl,rfl,rfl,rfl,rfl,hj1,trivial⟩ rfl ⟨rfl,rfl,rfl,rfl,rfl,?_,trivial⟩ rfl rfl;rw[hs];rfl
 have g1:m.evs.length≤e:=by simpa using g1
 have e1:e=m.evs.length:=by omega
 subst e1;clear ih g1 he;generalize zgn N xe m.evs.length=al at *;refine zaB ?_;refine zas (zao 50 rfl rfl) ?_;refine zas (zaY rfl) ?_;refine zas (zaE 6 107 187 8 (pre:=[ints al,ii lo,ii ini,ints mk,vrs vr]) (post:=[]) rfl rfl rfl) ?_;refine zai Tk Tryz.func30 ?_;refine g_go Tk Tryz.func30 ?_;refine zad ?_;refine zag (fun s:Nat=>[(2,.own 0 2 0 0),(3,.own 0 3 0 0),(4,.own 0 4 0 0),(5,.own 0 5 0 0),(6,.own 0 6 0 0),(8,ii s)])
  (fun s=>[(2,.box (mdlC m)),(3,.box [.i (strI xn),.i (strI xt),ssD xe]),(4,.box zhQ),(5,.box (tplC ⟨tn,tl,te,⟨tal,lo,ini,mk,vr,mo⟩⟩)),(6,.box [ints al,ii lo,ii ini,ints mk,vrs vr,.osl 0 107]),(107,zcr (zjk N xe mo al s))]) (fun _=>O) 111
  (fun s=>s≤lo.toNat) (fun s=>lo.toNat-s) 0 (Nat.zero_le _) ⟨rfl,rfl,rfl,rfl,rfl,rfl,trivial⟩ rfl ⟨rfl,rfl,rfl,rfl,rfl,rfl,trivial⟩ rfl rfl ?_
 intro s hs ih;have hs:s≤lo.toNat:=hs;have hal:al.length≤1000000:=by omega
 have hA:(zjk N xe mo al s).length≤64*(1000000*19):=by
  have h1:=ziE (f:=fun s:Nat=>al.flatMap fun e=>lwMv N xe mo (s:Int) e) (k:=1000000*19) (l:=List.range s) fun s' _=>by
   have h2:=ziE (f:=fun e=>lwMv N xe mo (s':Int) e) (k:=19) (l:=al) fun e _=>Nat.le_trans (zjl N xe mo _ e) hml;exact Nat.le_trans h2 (Nat.mul_le_mul_right 19 hal)
  rw[List.length_range] at h1;refine Nat.le_trans h1 (Nat.mul_le_mul_right _ (by omega))
 have hsuc:=zs6 N xe mo al s;refine zai Tk Tryz.func30 ?_;refine zaf Tk Tryz.func30 rfl (fun g2=>?_) (fun g2=>?_)
 ·have g2:s<lo.toNat:=by have:(s:Int)<lo:=of_decide_eq_true g2;omega
  have hs1:ii (IntKind.i64.wrap ((s:Int)+1))=ii ((s+1:Nat):Int):=congrArg ii (zav (n:=1000001) (by omega) (by decide));generalize zjk N xe mo al s=A at *;refine zad ?_;refine zag (fun i:Nat=>[(2,.own 0 2 0 0),(3,.own 0 3 0 0),(4,.own 0 4 0 0),(5,.own 0 5 0 0),(6,.own 0 6 0 0),(8,ii s),(9,ii i)])
   (fun i=>[(2,.box (mdlC m)),(3,.box [.i (strI xn),.i (strI xt),ssD xe]),(4,.box zhQ),(5,.box (tplC ⟨tn,tl,te,⟨tal,lo,ini,mk,vr,mo⟩⟩)),(6,.box [ints al,ii lo,ii ini,ints mk,vrs vr,.osl 0 107]),(107,zcr (A++(al.take i).flatMap fun e=>lwMv N xe mo (s:Int) e))]) (fun _=>O) 111
   (fun i=>i≤al.length) (fun i=>al.length-i) 0 (Nat.zero_le _) ⟨rfl,rfl,rfl,rfl,rfl,rfl,rfl,trivial⟩ rfl ⟨rfl,rfl,rfl,rfl,rfl,congrArg (fun l=>some (zcr l)) (show A=A++(al.take 0).flatMap fun e=>lwMv N xe mo (s:Int) e by simp),trivial⟩ rfl rfl ?_
  intro i hi ih2;have hi:i≤al.length:=hi;have hB:(A++(al.take i).flatMap fun e=>lwMv N xe mo (s:Int) e).length≤65*(1000000*19):=by
   have h2:=ziE (f:=fun e=>lwMv N xe mo (s:Int) e) (k:=19) (l:=al.take i) fun e _=>Nat.le_trans (zjl N xe mo _ e) hml;have h3:(al.take i).length*19≤1000000*19:=Nat.mul_le_mul_right 19 (by rw[List.length_take];omega);rw[List.length_append];omega
  refine zai Tk Tryz.func30 ?_;refine zaf Tk Tryz.func30 rfl (fun g3=>?_) (fun g3=>?_)
  ·have g3:i<al.length:=by simpa using g3
   have ga:(al.map fun x=>[vi x])[(i:Int).toNat]? = some [vi al[i]]:=zal (f:=fun x=>[vi x]) g3;have hst:((al.take (i+1)).flatMap fun e=>lwMv N xe mo (s:Int) e)=((al.take i).flatMap fun e=>lwMv N xe mo (s:Int) e)++lwMv N xe mo (s:Int) al[i]:=by
    rw[List.take_succ_eq_append_getElem g3,List.flatMap_append];simp
   obtain⟨a,ha,hae⟩:=hmem al[i] (List.getElem_mem g3);rw[hae] at ga hst;have hi1:ii (IntKind.i64.wrap ((i:Int)+1))=ii ((i+1:Nat):Int):=congrArg ii (zav (n:=1000001) (by omega) (by decide));have gs:(m.evs.map evtI)[((a:Nat):Int).toNat]? = some (evtI m.evs[a]):=zal (f:=evtI) ha;have hlk:lwK N xe ((a:Nat):Int)=nmIx xe m.evs[a].name:=by unfold lwK;rw[Int.toNat_natCast,hge a ha]
   have h39':=fun O=>h39 O m.evs[a].name;rw[←hlk] at h39';generalize ((al.take i).flatMap fun e=>lwMv N xe mo (s:Int) e)=B at *;generalize m.evs[a]=y at *;obtain⟨yn,yc,yo,yf,yl⟩:=y;simp only at h39';refine zat Tk Tryz.func30 zax rfl ?_;refine zar Tk (by exact⟨by omega,by show (i:Int)<(al.length:Int);omega⟩) ?_;refine zay Tk (ga) ?_;refine zar Tk (by exact⟨by omega,by show ((a:Nat):Int)<(m.evs.length:Int);omega⟩) ?_;refine zay Tk (gs) ?_;refine zaF Tk (fun _=>h39' _) rfl rfl rfl ?_;refine zaA Tk Tryz.func30 (by kernel_rfl) ?_;refine zad ?_;refine zag (fun j:Nat=>[(2,.own 0 2 0 0),(3,.own 0 3 0 0),(4,.own 0 4 0 0),(5,.own 0 5 0 0),(6,.own 0 6 0 0),(8,ii s),(9,ii i),(10,ii (lwK N xe ((a:Nat):Int))),(81,mvs mo),(82,ii mo.length),(83,ii j)])
    (fun j=>[(2,.box (mdlC m)),(3,.box [.i (strI xn),.i (strI xt),ssD xe]),(4,.box zhQ),(5,.box (tplC ⟨tn,tl,te,⟨tal,lo,ini,mk,vr,mo⟩⟩)),(6,.box [ints al,ii lo,ii ini,ints mk,vrs vr,.osl 0 107]),(107,zcr (A++B++lwMv N xe (mo.take j) (s:Int) ((a:Nat):Int)))]) (fun _=>O) 111
    (fun j=>j≤mo.length) (fun j=>mo.length-j) 0 (Nat.zero_le _) ⟨rfl,rfl,rfl,rfl,rfl,rfl,rfl,rfl,rfl,rfl,rfl,trivial⟩ rfl ⟨rfl,rfl,rfl,rfl,rfl,congrArg (fun l=>some (zcr l)) (show A++B=A++B++lwMv N xe (mo.take 0) (s:Int) ((a:Nat):Int) by simp[lwMv]),trivial⟩ rfl rfl ?_
   intro j hj ih3;have hj:j≤mo.length:=hj;have hC:=zjl N xe (mo.take j) (s:Int) ((a:Nat):Int);rw[List.length_take] at hC;refine zai Tk Tryz.func30 ?_;refine zaf Tk Tryz.func30 rfl (fun g4=>?_) (fun g4=>?_)
   ·have g4:j<mo.length:=by simpa using g4
    have gm:(mo.map mvI)[(j:Int).toNat]? = some (mvI mo[j]):=zal (f:=mvI) g4;have hsu:=zv3 N xe (s:Int) ((a:Nat):Int) g4;have hj1:ii (IntKind.i64.wrap ((j:Int)+1))=ii ((j+1:Nat):Int):=congrArg ii (zav (n:=1000001) (by omega) (by decide));generalize lwMv N xe (mo.take j) (s:Int) ((a:Nat):Int)=C at *;generalize lwK N xe ((a:Nat):Int)=k at *;have hl:(A++B++C).length≤70*(1000000*19):=by rw[List.length_append];omega
    generalize hD:A++B++C=D0 at *;generalize mo[j]=y at *;obtain⟨yf,ye,yt,⟨go,gv,gi,ga2⟩,us⟩:=y;simp only at hsu;refine zah Tk Tryz.func30 (by exact⟨by omega,by show (j:Int)<(mo.length:Int);omega⟩) ?_;refine zaq Tk Tryz.func30 (gm) ?_;refine zaG Tk Tryz.func30 rfl (fun k1=>?_) (fun k1=>?_)
    ·have k1:yf=(s:Int):=beqT k1;refine zaf Tk Tryz.func30 rfl (fun k2=>?_) (fun k2=>?_)
     ·have k2:ye=k:=beqT k2;refine zah Tk Tryz.func30 (by exact⟨by omega,by show (i:Int)<(al.length:Int);omega⟩) ?_;refine zaq Tk Tryz.func30 (ga) ?_;refine zah Tk Tryz.func30 (by exact⟨by show (D0.length+1)*96≤140737488355328;omega,by show D0.length+1≤9223372036854775807;omega⟩) ?_;refine zad ?_;refine ih3 (j+1) _ _ g4 (by omega) ⟨rfl,rfl,rfl,rfl,rfl,rfl,rfl,rfl,rfl,rfl,hj1,trivial⟩ rfl ⟨rfl,rfl,rfl,rfl,rfl,?_,trivial⟩ rfl rfl;rw[hsu,if_pos ⟨k1,k2⟩,←List.append_assoc,hD];exact congrArg some (zsQ D0 ⟨yf,((a:Nat):Int),yt,⟨go,gv,gi,ga2⟩,us⟩)
     ·have k2:¬ye=k:=beqF k2;refine zad ?_;refine ih3 (j+1) _ _ g4 (by omega) ⟨rfl,rfl,rfl,rfl,rfl,rfl,rfl,rfl,rfl,rfl,hj1,trivial⟩ rfl ⟨rfl,rfl,rfl,rfl,rfl,?_,trivial⟩ rfl rfl;rw[hsu,if_neg (fun h=>k2 h.2),List.append_nil,hD];rfl
    ·have k1:¬yf=(s:Int):=beqF k1;refine gcF Tk Tryz.func30 rfl ?_;refine zad ?_;refine ih3 (j+1) _ _ g4 (by omega) ⟨rfl,rfl,rfl,rfl,rfl,rfl,rfl,rfl,rfl,rfl,hj1,trivial⟩ rfl ⟨rfl,rfl,rfl,rfl,rfl,?_,trivial⟩ rfl rfl;rw[hsu,if_neg (fun h=>k1 h.1),List.append_nil,hD];rfl
   ·have g4:mo.length≤j:=by simpa using g4
    rw[List.take_of_length_le g4];refine zad ?_;refine ih2 (i+1) _ _ g3 (by omega) ⟨rfl,rfl,rfl,rfl,rfl,rfl,hi1,trivial⟩ rfl ⟨rfl,rfl,rfl,rfl,rfl,?_,trivial⟩ rfl rfl;rw[hst,List.append_assoc];rfl
  ·have g3:al.length≤i:=by simpa using g3
   rw[List.take_of_length_le g3,←hsuc];refine zad ?_;exact ih (s+1) _ _ g2 (by omega) ⟨rfl,rfl,rfl,rfl,rfl,hs1,trivial⟩ rfl ⟨rfl,rfl,rfl,rfl,rfl,rfl,trivial⟩ rfl rfl
 ·have g2:lo.toNat≤s:=by have:¬(s:Int)<lo:=of_decide_eq_false g2;omega
  have e2:s=lo.toNat:=by omega
  subst e2;generalize zjk N xe mo al lo.toNat=A at *;refine zaB ?_;refine zas (zao 107 rfl rfl) ?_;refine zas (zaY rfl) ?_;refine zai Tk Tryz.func30 ?_;refine g_go Tk Tryz.func30 ?_;refine zaj Tk (r:=extD ⟨al,lo,ini,mk,vr,A⟩) rfl rfl rfl trivial rfl rfl ?_;exact congrArg extD hR
theorem ziA {c:Cx} {s s':St} {k:List Item} {ops:Array Oper} {rest:List Nat} {o:Oper} {i:Nat} (hw:Wk c s s') (h:GM c (.pause ops i rest o s' k)):GM c (.pause ops i rest o s k):=
 ⟨fun K ρ a w hi=>by obtain⟨K',ρ',hi'⟩:=hw K ρ a w hi;exact h.h K' ρ' a w hi'⟩
structure expOk (m:Mdl) (og:List (List Sta)) (x:NEx):Prop where
 cl:m.comps.length≤8
 nd:(m.comps.map (·.name)).Nodup
 gl:og.length=m.comps.length
 gs:∀s∈og,s.length≤4096
 ll:x.locals.length≤12
 nl:(x.locals.map (·.1)).Nodup
 li:∀y∈x.locals,y.1∈m.comps.map (·.name)
 tp:∀c∈m.comps,∃t,zbL m c=some t
 xn:x.name.size≤1000
theorem zf6:∀(l:List Chc) (all:List (List Loc2)),(∀y∈l,y.2.length≤4096)→all.length≤5000→(chsT l all).length≤5000
 |[],all,_,h=>h
 |y::r,all,h,h2=>by
  have hs:∀(al acc:List (List Loc2)),acc.length≤33∨(acc.length≤5000∧al=[])→(stepT y al acc).length≤5000:=by
   intro al
   induction al with
   |nil=>intro acc ha;unfold stepT;omega
   |cons b q ih=>
    intro acc ha;have hy:=h y (by simp);have hl:(acc++addC y b).length=acc.length+y.2.length:=by rw[List.length_append,zfG]
    unfold stepT
    by_cases c:(acc++addC y b).length>33
    ·rw[if_pos c];rcases ha with ha|⟨_,ha⟩
     ·omega
     ·cases ha
    ·rw[if_neg c];exact ih _ (.inl (by omega))
  exact zf6 r _ (fun z hz=>h z (by simp[hz])) (hs all [] (.inl (by simp)))
theorem zoS:∀(l:List Chc) {all:List (List Loc2)} {k:Nat},(∀b∈all,b.length≤k)→∀b∈chsT l all,b.length≤k+l.length
 |[],_,k,h=>h
 |y::r,all,k,h=>by
  have hs:∀(al acc:List (List Loc2)),(∀b∈al,b.length≤k)→(∀b∈acc,b.length≤k+1)→∀b∈stepT y al acc,b.length≤k+1:=by
   intro al
   induction al with
   |nil=>intro acc _ ha;exact ha
   |cons b q ih=>
    intro acc hb ha;have ha2:∀z∈acc++addC y b,z.length≤k+1:=by
     intro z hz;rcases List.mem_append.1 hz with hz|hz
     ·exact ha z hz
     ·obtain⟨s,_,rfl⟩:=List.mem_map.1 hz;have:=hb b (by simp);simp;omega
    unfold stepT
    by_cases c:(acc++addC y b).length>33
    ·rw[if_pos c];exact ha2
    ·rw[if_neg c];exact ih _ (fun z hz=>hb z (by simp[hz])) ha2
  intro b hb;have:=zoS r (hs all [] h (by simp)) b hb;rw[List.length_cons];omega
theorem zsg {m:Mdl} {og:List (List Sta)} {x:NLc} (h:∀s∈og,s.length≤4096):(chcR m og x).2.length≤4096:=by
 unfold chcR;refine Nat.le_trans (zef _ _ _) ?_;rw[List.getD_eq_getElem?_getD]
 cases hg:og[(fndI (m.comps.map (·.name)) x.1).toNat]? with
 |none=>simp
 |some s=>exact h s (List.mem_of_getElem? hg)
set_option maxHeartbeats 8000000 in
theorem zwp {g:Nat} (hg:ze2 g) {ty:TypeId} {fr:Nat×Nat} (O0:List Heap) (R:Heap) (EV CO RQ CN:I) (m:Mdl) (og:List (List Sta)) (i:Nat) (x:NEx) (out:List XEx) (hR:zbA 61 R=R) (hm:mdlOk m) (hi:m.excs[i]? = some x) (h:expOk m og x) (hol:out.length≤32) :
  znS g (ptab ty fr) Tryz.prog 78 [mdlD m,.own 0 5 0 0,.i (zeM og),ii i] (hcE (.i EV) (.i CO) (.i RQ) (.i CN) out R::O0) 61 (ii (expO out (expT x (chsT (lwCh m og x.locals) [[]]))).2) []
   (hcE (.i EV) (.i CO) (.i RQ) (.i CN) (expO out (expT x (chsT (lwCh m og x.locals) [[]]))).1 R::O0):=by
 have hil:i<m.excs.length:=(List.getElem?_eq_some_iff.1 hi).1;have gx:(m.excs.map nexI)[(i:Int).toNat]? = some (nexI x):=by rw[Int.toNat_natCast,List.getElem?_map,hi];rfl
 have hexl:=hm.ex;have hT:=fun O x t h=>zdN O m x t hm.toszOk h;have hlocs:∀c t,zbL m c=some t→t.locs.length≤1000000:=fun c t h=>(hm.tpk t (List.mem_of_find?_eq_some h)).ll;have hnm:∀k (hk:k<m.comps.length),(m.comps.map (·.name)).getD k ⟨#[]⟩=m.comps[k].name:=fun k hk=>by
  rw[List.getD_eq_getElem?_getD,List.getElem?_map,List.getElem?_eq_getElem hk];rfl
 have hchc:∀(y:NLc) (k:Nat) (hk:k<m.comps.length) t,y.1=m.comps[k].name→zbL m m.comps[k]=some t→chcR m og y=((k:Int),stAt (nmIx t.locs y.2) (og[k]'(by rw[h.gl];exact hk)) 0):=by
  intro y k hk t e ht;refine zuh (k:=k) (c:=m.comps[k]) ?_ (List.getElem?_eq_getElem hk) ht (List.getElem?_eq_getElem (by rw[h.gl];exact hk));rw[zjc h.nd,List.getElem?_map,List.getElem?_eq_getElem hk,e];rfl
 obtain⟨hcl,hnd,hgl,hgs,hll,hnl,hli,htp,hxn⟩:=h;have hsm:∀y:NLc,(chcR m og y).2.length≤4096:=fun y=>zsg hgs;obtain⟨xn,L⟩:=x;simp only at hll hnl hli hxn ⊢;have hP0:lwCh m og L=zdx m og L m.comps.length:=rfl;rw[hP0];have hPs:=zs7 m og L;have hPm:∀k,∀y∈zdx m og L k,y.2.length≤4096:=by
  intro k y hy;obtain⟨k',_,hy⟩:=List.mem_flatMap.1 hy;obtain⟨z,_,rfl⟩:=List.mem_map.1 hy;exact hsm z
 have hPl:∀k,(zdx m og L k).length≤k*12:=by
  intro k;have:=ziE (f:=fun k=>(L.filter fun x=>sB x.1 ((m.comps.map (·.name)).getD k ⟨#[]⟩)).map fun x=>chcR m og x) (k:=12) (l:=List.range k) fun k' _=>by
   rw[List.length_map];exact Nat.le_trans (List.length_filter_le _ _) hll
  rwa [List.length_range] at this
 clear hP0;generalize hX0:expO out (expT ⟨xn,L⟩ (chsT (zdx m og L m.comps.length) [[]]))=EE;obtain⟨out2,e2⟩:=EE;simp only;refine zlq 61 [2,21,32,200097,200152,200154] Tk Tryz.func78 rfl Tryz.call78 Tryz.ntmps78 (Nat.le_of_ble_eq_true rfl) fun E hTE=>?_;refine zai Tk Tryz.func78 ?_;refine zaB ?_;refine zas (znT 24 (ys:=[[lcsI []]]) rfl rfl rfl (by simp;rfl) fun K vs h=>?_) ?_
 ·have h:RepL K vs [.v (.slice none 0 0)]:=h;show RepL K vs [lcsI []]
  cases h with
  |cons h1 h=>
   cases h
   cases h1
   exact .cons .nil .nil
 refine zas (zao 24 rfl rfl) ?_;refine zai Tk Tryz.func78 ?_;refine g_go Tk Tryz.func78 ?_;refine zad ?_;refine zag (fun k:Nat=>[(1,.own 1 5 0 0),(2,.i (zeM og)),(3,ii i),(4,.own 0 4 0 0),(9,.i (llsI (chsT (zdx m og L k) [[]]))),(10,ii k)]) (fun _=>[(4,.box (mdlC m))]) (fun _=>hcE (.i EV) (.i CO) (.i RQ) (.i CN) out R::O0) 188
  (fun k=>k≤m.comps.length) (fun k=>m.comps.length-k) 0 (Nat.zero_le _) ⟨rfl,rfl,rfl,rfl,rfl,rfl,trivial⟩ rfl ⟨rfl,trivial⟩ rfl rfl ?_
 intro k hk ih;have hk:k≤m.comps.length:=hk;refine zai Tk Tryz.func78 ?_;refine zaf Tk Tryz.func78 rfl (fun g1=>?_) (fun g1=>?_)
 ·have g1:k<m.comps.length:=by simpa using g1
  have hk1:ii (IntKind.i64.wrap ((k:Int)+1))=ii ((k+1:Nat):Int):=congrArg ii (zav (n:=1000001) (by omega) (by decide));have gc:(m.comps.map insI)[(k:Int).toNat]? = some (insI m.comps[k]):=zal (f:=insI) g1;have hsuc:=hPs k;rw[hnm k g1] at hsuc;obtain⟨t,ht⟩:=htp m.comps[k] (List.getElem_mem g1);have h35:=fun O=>hT O m.comps[k] t ht;have hch:=fun y e=>hchc y k g1 t e ht;have hlt:=hlocs m.comps[k] t ht;have hgk:k<og.length:=by omega
  have go:(og.map fun s=>[I.sl 2 s.length (s.map staI)])[(k:Int).toNat]? = some [I.sl 2 og[k].length (og[k].map staI)]:=zal (f:=fun s:List Sta=>[I.sl 2 s.length (s.map staI)]) hgk;have hgkl:=hgs _ (List.getElem_mem hgk);generalize m.comps[k]=c at *;generalize og[k]=sk at *;obtain⟨cn,ct,ce⟩:=c;obtain⟨tn,tl,te,⟨tal,tlo,tini,tmk,tvr,tmo⟩⟩:=t;simp only at hsuc hch hlt;have hPmk:=hPm k;have hPlk:=hPl k;refine zah Tk Tryz.func78 (by exact⟨by omega,by show (i:Int)<(m.excs.length:Int);omega⟩) ?_;refine zaq Tk Tryz.func78 (gx) ?_;refine zad ?_;refine zag (fun j:Nat=>[(1,.own 1 5 0 0),(2,.i (zeM og)),(3,ii i),(4,.own 0 4 0 0),(9,.i (llsI (chsT (zdx m og L k++((L.take j).filter fun x=>sB x.1 cn).map fun x=>chcR m og x) [[]]))),(10,ii k),(37,.i (zkq L)),(38,ii L.length),(39,ii j)]) (fun _=>[(4,.box (mdlC m))]) (fun _=>hcE (.i EV) (.i CO) (.i RQ) (.i CN) out R::O0) 188
   (fun j=>j≤L.length) (fun j=>L.length-j) 0 (Nat.zero_le _) ⟨rfl,rfl,rfl,rfl,congrArg (fun z=>D.i (llsI (chsT z [[]]))) (show zdx m og L k=zdx m og L k++((L.take 0).filter fun x=>sB x.1 cn).map fun x=>chcR m og x by simp),rfl,rfl,rfl,rfl,trivial⟩ rfl ⟨rfl,trivial⟩ rfl rfl ?_
  intro j hj ih2;have hj:j≤L.length:=hj;refine zai Tk Tryz.func78 ?_;refine zaf Tk Tryz.func78 rfl (fun g2=>?_) (fun g2=>?_)
  ·have g2:j<L.length:=by simpa using g2
   have gy:(L.map nlcI)[(j:Int).toNat]? = some (nlcI L[j]):=zal (f:=nlcI) g2;have hj1:ii (IntKind.i64.wrap ((j:Int)+1))=ii ((j+1:Nat):Int):=congrArg ii (zav (n:=1000001) (by omega) (by decide));have hfs:=zoE (fun x:NLc=>sB x.1 cn) (fun x=>chcR m og x) g2;have hQm:∀y∈zdx m og L k++((L.take j).filter fun x=>sB x.1 cn).map fun x=>chcR m og x,y.2.length≤4096:=by
    intro y hy;rcases List.mem_append.1 hy with hy|hy
    ·exact hPmk y hy
    ·obtain⟨z,_,rfl⟩:=List.mem_map.1 hy;exact hsm z
   have hQl:(zdx m og L k++((L.take j).filter fun x=>sB x.1 cn).map fun x=>chcR m og x).length≤200:=by
    rw[List.length_append,List.length_map];have:=List.length_filter_le (fun x:NLc=>sB x.1 cn) (L.take j);rw[List.length_take] at this;omega
   have hal:=zf6 _ [[]] hQm (by simp);have hmem:=zoS (zdx m og L k++((L.take j).filter fun x=>sB x.1 cn).map fun x=>chcR m og x) (all:=[[]]) (k:=0) (by simp);have hnx:chsT (zdx m og L k++((L.take (j+1)).filter fun x=>sB x.1 cn).map fun x=>chcR m og x) [[]]=if sB L[j].1 cn=true then stepT (chcR m og L[j]) (chsT (zdx m og L k++((L.take j).filter fun x=>sB x.1 cn).map fun x=>chcR m og x) [[]]) [] else chsT (zdx m og L k++((L.take j).filter fun x=>sB x.1 cn).map fun x=>chcR m og x) [[]]:=by
    rw[hfs,←List.append_assoc,zoT]
    by_cases c:sB L[j].1 cn=true
    ·rw[if_pos c,if_pos c];rfl
    ·rw[if_neg c,if_neg c];rfl
   have hchy:=hch L[j];generalize hall:chsT (zdx m og L k++((L.take j).filter fun x=>sB x.1 cn).map fun x=>chcR m og x) [[]]=all at *;generalize L[j]=y at *;obtain⟨yc,yl⟩:=y;simp only at hchy hnx;have h39:=fun O=>zb8 O tl yl hlt;refine zah Tk Tryz.func78 (by exact⟨by omega,by show (j:Int)<(L.length:Int);omega⟩) ?_;refine zaq Tk Tryz.func78 (gy) ?_;refine zat Tk Tryz.func78 zax rfl ?_;refine zar Tk (by exact⟨by omega,by show (k:Int)<(m.comps.length:Int);omega⟩) ?_;refine zay Tk (gc) ?_;refine zaA Tk Tryz.func78 (by kernel_rfl) ?_;refine zaf Tk Tryz.func78 rfl (fun c1=>?_) (fun c1=>?_)
   ·have c1:(!(yc.toList==cn.toList))=true:=c1;rw[zaV] at c1;rw[if_neg (by simpa using c1)] at hnx;refine zad ?_;refine ih2 (j+1) _ _ g2 (by omega) ⟨rfl,rfl,rfl,rfl,congrArg (fun z=>D.i (llsI z)) hnx.symm,rfl,rfl,rfl,hj1,trivial⟩ rfl ⟨rfl,trivial⟩ rfl rfl
   have c1:(!(yc.toList==cn.toList))=false:=c1;rw[zaV] at c1;have c1:sB yc cn=true:=by simpa using c1
   rw[if_pos c1,hchy (zbP.1 c1)] at hnx;clear hchy hfs hQm hall;have hstl:=zef (nmIx tl yl) sk 0;generalize nmIx tl yl=q at *;generalize hS:stepT ((k:Int),stAt q sk 0) all []=SS at *;refine zat Tk Tryz.func78 zax rfl ?_;refine zar Tk (by exact⟨by omega,by show (k:Int)<(m.comps.length:Int);omega⟩) ?_;refine zay Tk (gc) ?_;refine zaF Tk (fun _=>h35 _) rfl rfl rfl ?_;refine zaF Tk (fun _=>h39 _) rfl rfl rfl ?_;refine zaA Tk Tryz.func78 (by kernel_rfl) ?_;refine g_wk (zbk 14 98 124 1 rfl rfl rfl) ?_;refine zad ?_;refine zag (fun x:Nat×List (List Loc2)=>[(1,.own 1 5 0 0),(2,.i (zeM og)),(3,ii i),(4,.own 0 4 0 0),(10,ii k),(13,ii q),(14,.osl 0 98),(37,.i (zkq L)),(38,ii L.length),(39,ii j),(63,.i (llsI all)),(64,ii all.length),(65,ii x.1)]) (fun x=>[(4,.box (mdlC m)),(98,olls x.2)]) (fun _=>hcE (.i EV) (.i CO) (.i RQ) (.i CN) out R::O0) 188
    (fun x=>x.1≤all.length∧x.2.length≤33∧stepT ((k:Int),stAt q sk 0) (all.drop x.1) x.2=SS) (fun x=>all.length-x.1) (0,[]) ⟨Nat.zero_le _,Nat.zero_le _,hS⟩ ⟨rfl,rfl,rfl,rfl,rfl,rfl,rfl,rfl,rfl,rfl,rfl,rfl,rfl,trivial⟩ rfl ⟨rfl,rfl,trivial⟩ rfl rfl ?_
   clear hS;rintro ⟨n,acc⟩ ⟨hn,hacc,hno⟩ ih3;simp only at hn hacc hno;refine zai Tk Tryz.func78 ?_;refine zaf Tk Tryz.func78 rfl (fun g3=>?_) (fun g3=>?_);rotate_left
   ·have g3:all.length≤n:=by simpa using g3
    rw[List.drop_eq_nil_of_le g3] at hno;have hno:acc=SS:=hno;subst hno;refine zaB ?_;refine zas (zao 98 rfl rfl) ?_;refine zai Tk Tryz.func78 ?_;refine g_go Tk Tryz.func78 ?_;refine zad ?_;refine ih2 (j+1) _ _ g2 (by omega) ⟨rfl,rfl,rfl,rfl,congrArg (fun z=>D.i (llsI z)) hnx.symm,rfl,rfl,rfl,hj1,trivial⟩ rfl ⟨rfl,trivial⟩ rfl rfl
   have g3:n<all.length:=by simpa using g3
   have gb:(all.map fun b=>[lcsI b])[(n:Int).toNat]? = some [lcsI all[n]]:=zal (f:=fun b=>[lcsI b]) g3;have hn1:ii (IntKind.i64.wrap ((n:Int)+1))=ii ((n+1:Nat):Int):=congrArg ii (zav (n:=1000001) (by omega) (by decide));have hbl:=hmem all[n] (List.getElem_mem g3);rw[zqj g3] at hno;generalize all[n]=b at *;refine zah Tk Tryz.func78 (by exact⟨by omega,by show (n:Int)<(all.length:Int);omega⟩) ?_;refine zaq Tk Tryz.func78 (gb) ?_;refine zad ?_;refine zag (fun s:Nat=>[(1,.own 1 5 0 0),(2,.i (zeM og)),(3,ii i),(4,.own 0 4 0 0),(10,ii k),(13,ii q),(14,.osl 0 98),(16,.i (lcsI b)),(17,ii s),(37,.i (zkq L)),(38,ii L.length),(39,ii j),(63,.i (llsI all)),(64,ii all.length),(65,ii n)]) (fun s=>[(4,.box (mdlC m)),(98,olls (acc++addC ((k:Int),stAt q (sk.take s) 0) b))]) (fun _=>hcE (.i EV) (.i CO) (.i RQ) (.i CN) out R::O0) 188
    (fun s=>s≤sk.length) (fun s=>sk.length-s) 0 (Nat.zero_le _) ⟨rfl,rfl,rfl,rfl,rfl,rfl,rfl,rfl,rfl,rfl,rfl,rfl,rfl,rfl,rfl,trivial⟩ rfl ⟨rfl,congrArg (fun l=>some (olls l)) (show acc=acc++addC ((k:Int),stAt q (sk.take 0) 0) b by simp[addC,stAt]),trivial⟩ rfl rfl ?_
   intro s hs ih4;have hs:s≤sk.length:=hs;have hAl:(acc++addC ((k:Int),stAt q (sk.take s) 0) b).length≤33+4096:=by
    rw[List.length_append,zfG];have:=zef q (sk.take s) 0;rw[List.length_take] at this;simp only;omega
   refine zai Tk Tryz.func78 ?_;refine zah Tk Tryz.func78 (by exact⟨by omega,by show (k:Int)<(og.length:Int);omega⟩) ?_;refine zaq Tk Tryz.func78 (go) ?_;refine zaf Tk Tryz.func78 rfl (fun g4=>?_) (fun g4=>?_);rotate_left
   ·have g4:sk.length≤s:=by simpa using g4
    rw[List.take_of_length_le g4] at hAl ⊢;refine zaf Tk Tryz.func78 rfl (fun c5=>?_) (fun c5=>?_)
    ·have c5:(acc++addC ((k:Int),stAt q sk 0) b).length>33:=by have:(((acc++addC ((k:Int),stAt q sk 0) b).length:Nat):Int)>33:=of_decide_eq_true c5;omega
     rw[if_pos c5] at hno;rw[hno];refine zaB ?_;refine zas (zao 98 rfl rfl) ?_;refine zai Tk Tryz.func78 ?_;refine g_go Tk Tryz.func78 ?_;refine zad ?_;refine ih2 (j+1) _ _ g2 (by omega) ⟨rfl,rfl,rfl,rfl,congrArg (fun z=>D.i (llsI z)) hnx.symm,rfl,rfl,rfl,hj1,trivial⟩ rfl ⟨rfl,trivial⟩ rfl rfl
    ·have c5:¬(acc++addC ((k:Int),stAt q sk 0) b).length>33:=by have:¬(((acc++addC ((k:Int),stAt q sk 0) b).length:Nat):Int)>33:=of_decide_eq_false c5;omega
     rw[if_neg c5] at hno;refine zad ?_;exact ih3 (n+1,acc++addC ((k:Int),stAt q sk 0) b) _ _ ⟨g3,by simp only;omega,hno⟩ (by simp only;omega) ⟨rfl,rfl,rfl,rfl,rfl,rfl,rfl,rfl,rfl,rfl,rfl,rfl,hn1,trivial⟩ rfl ⟨rfl,rfl,trivial⟩ rfl rfl
   have g4:s<sk.length:=by simpa using g4
   have gs:(sk.map staI)[(s:Int).toNat]? = some (staI sk[s]):=zal (f:=staI) g4;have hs1:ii (IntKind.i64.wrap ((s:Int)+1))=ii ((s+1:Nat):Int):=congrArg ii (zav (n:=1000001) (by omega) (by decide));have hst:=zvp q g4;have hAs:acc++addC ((k:Int),stAt q (sk.take (s+1)) 0) b=(acc++addC ((k:Int),stAt q (sk.take s) 0) b)++if sk[s].loc=q then [b++[((k:Int),(s:Int))]] else []:=by
    rw[hst];unfold addC;simp only
    by_cases c:sk[s].loc=q
    ·rw[if_pos c,if_pos c,List.map_append,List.append_assoc];rfl
    ·rw[if_neg c,if_neg c,List.append_nil,List.append_nil]
   generalize acc++addC ((k:Int),stAt q (sk.take s) 0) b=A at *;generalize sk[s]=z at *;obtain⟨zl,zv⟩:=z;simp only at hAs;refine zah Tk Tryz.func78 (by exact⟨by omega,by show (k:Int)<(og.length:Int);omega⟩) ?_;refine zaq Tk Tryz.func78 (go) ?_;refine zah Tk Tryz.func78 (by exact⟨by omega,by show (s:Int)<(sk.length:Int);omega⟩) ?_;refine zaq Tk Tryz.func78 (gs) ?_;refine zaf Tk Tryz.func78 rfl (fun c6=>?_) (fun c6=>?_)
   ·have c6:zl=q:=beqT c6;rw[if_pos c6] at hAs;refine zah Tk Tryz.func78 (by exact⟨by show (0+b.length)*16≤140737488355328;omega,by show 0+b.length≤9223372036854775807;omega⟩) ?_;refine zah Tk Tryz.func78 (by exact⟨by show (0+b.length+1)*16≤140737488355328;omega,by show 0+b.length+1≤9223372036854775807;omega⟩) ?_;refine ziA (zao 96 rfl rfl) ?_;refine ztA Tk Tryz.func78 rfl rfl (fun K ρ a w h=>⟨K,ρ,h⟩) ?_;refine zah Tk Tryz.func78 (by exact⟨by show (A.length+1)*24≤140737488355328;omega,by show A.length+1≤9223372036854775807;omega⟩) ?_;refine zad ?_;refine ih4 (s+1) _ _ g4 (by omega) ⟨rfl,rfl,rfl,rfl,rfl,rfl,rfl,rfl,hs1,rfl,rfl,rfl,rfl,rfl,rfl,trivial⟩ rfl ⟨rfl,?_,trivial⟩ rfl rfl;rw[hAs]
    show some (Ob.arr 124 1 (A.length+1) ((A.map fun b=>[lcsI b])++[[.sl 2 (0+b.length+1) ([]++(b.map zbq)++[[vi (k:Int),vi (s:Int)]])]]) true)=some (olls (A++[b++[((k:Int),(s:Int))]]));simp[olls]
   ·have c6:¬zl=q:=beqF c6;rw[if_neg c6,List.append_nil] at hAs;refine zad ?_;refine ih4 (s+1) _ _ g4 (by omega) ⟨rfl,rfl,rfl,rfl,rfl,rfl,rfl,rfl,hs1,rfl,rfl,rfl,rfl,rfl,rfl,trivial⟩ rfl ⟨rfl,?_,trivial⟩ rfl rfl;rw[hAs];rfl
  ·have g2:L.length≤j:=by simpa using g2
   rw[List.take_of_length_le g2,←hsuc];refine zad ?_;exact ih (k+1) _ _ g1 (by omega) ⟨rfl,rfl,rfl,rfl,rfl,hk1,trivial⟩ rfl ⟨rfl,trivial⟩ rfl rfl
 have g1:m.comps.length≤k:=by simpa using g1
 have e1:k=m.comps.length:=by omega
 subst e1;have hal:=zf6 _ [[]] (hPm m.comps.length) (by simp);clear ih g1 hk hPs hchc hT hlocs hPm hPl;generalize chsT (zdx m og L m.comps.length) [[]]=all at *;have hnl2:=zoG ⟨xn,L⟩ all;have hng:=fun j (hj:j<all.length)=>zwr ⟨xn,L⟩ all hj;generalize expT ⟨xn,L⟩ all=new at *;unfold expO at hX0;rw[hnl2] at hX0;have w1:IntKind.i64.wrap ((out.length:Int)+(all.length:Int))=(out.length:Int)+(all.length:Int):=w64 (by omega) (by omega);refine zbm Tk Tryz.func78 (rfl) ?_;refine zbm Tk Tryz.func78 (rfl) ?_;refine zaf Tk Tryz.func78 rfl (fun c1=>?_) (fun c1=>?_)
 ·have c1:IntKind.i64.wrap ((out.length:Int)+(all.length:Int))>32:=of_decide_eq_true c1;rw[w1] at c1;rw[if_pos c1] at hX0;have h1:out=out2:=congrArg (·.1) hX0;have h2:(3:Int)=e2:=congrArg (·.2) hX0;subst h1;subst h2;exact zox Tk (nm:=61) (r:=ii 3) (Moved.refl _ _) rfl rfl rfl trivial rfl rfl rfl
 have c1:¬IntKind.i64.wrap ((out.length:Int)+(all.length:Int))>32:=of_decide_eq_false c1;rw[w1] at c1;rw[if_neg c1] at hX0;refine zbm Tk Tryz.func78 (rfl) ?_;refine zbm Tk Tryz.func78 (rfl) ?_;refine zad ?_;refine zsB (fun j:Nat=>[(1,.own 1 5 0 0),(3,ii i),(4,.own 0 4 0 0),(9,.i (llsI all)),(18,ii out.length),(119,.i (llsI all)),(120,ii all.length),(121,ii j)]) (fun _=>[(4,.box (mdlC m))]) (fun j=>hcE (.i EV) (.i CO) (.i RQ) (.i CN) (out++new.take j) R::O0) 188
  (fun E1 j=>Moved E E1 61∧TabE g (ptab ty fr) E1 (hcE (.i EV) (.i CO) (.i RQ) (.i CN) (out++new.take j) R::O0)∧j≤all.length∧expN (out++new.take j) (new.drop j)=expN out new) (fun j=>all.length-j) 0 ⟨Moved.refl _ _,by simpa using hTE,Nat.zero_le _,by simp⟩ ⟨rfl,rfl,rfl,rfl,rfl,rfl,rfl,rfl,trivial⟩ (congrArg (fun z=>_::hcE (.i EV) (.i CO) (.i RQ) (.i CN) z R::O0) (show out=out++new.take 0 by simp)) ⟨rfl,trivial⟩ rfl rfl ?_
 rintro E1 j ⟨hM,hE,hj,hno⟩ ih;clear hTE;refine zai Tk Tryz.func78 ?_;refine zaf Tk Tryz.func78 rfl (fun g2=>?_) (fun g2=>?_)
 ·have g2:j<all.length:=by simpa using g2
  have g2n:j<new.length:=by omega
  have gb:(all.map fun b=>[lcsI b])[(j:Int).toNat]? = some [lcsI all[j]]:=zal (f:=fun b=>[lcsI b]) g2;have hj1:ii (IntKind.i64.wrap ((j:Int)+1))=ii ((j+1:Nat):Int):=congrArg ii (zav (n:=1000001) (by omega) (by decide));have hgn:=hng j g2;rw[List.getElem?_eq_getElem g2n] at hgn;have hgn:=Option.some.inj hgn;rw[List.drop_eq_getElem_cons g2n] at hno;simp only[expN] at hno;have hsu:out++new.take (j+1)=(out++new.take j)++[new[j]]:=by rw[List.take_succ_eq_append_getElem g2n,List.append_assoc]
  rw[←hsu] at hno;rw[hgn] at hno hsu;have hit:=fun O=>zkF hg (ty:=ty) (fr:=fr) O (j:Int) (by omega) (by omega);have hsz:=zcH (n:=(j:Int)) (by omega) (by omega);have hXl:(out++new.take j).length≤32+5000:=by rw[List.length_append,List.length_take];omega
  simp only at hno hsu;generalize hnj:(if all.length>1 then xn++⟨#[95]⟩++zcN (j:Int) else xn)=nj at *;generalize all[j]=b at *;generalize hX:out++new.take j=X at *;refine zah Tk Tryz.func78 (by exact⟨by omega,by show (j:Int)<(all.length:Int);omega⟩) ?_;refine zaq Tk Tryz.func78 (gb) ?_;refine zah Tk Tryz.func78 (by exact⟨by omega,by show (i:Int)<(m.excs.length:Int);omega⟩) ?_;refine zaq Tk Tryz.func78 (gx) ?_
  apply zb7 (P:=True) (s6:={ σ:=[(1,.own 1 5 0 0),(3,ii i),(4,.own 0 4 0 0),(9,.i (llsI all)),(18,ii out.length),(20,.i (lcsI b)),(21,sD nj),(119,.i (llsI all)),(120,ii all.length),(121,ii j)],S:=[(4,.box (mdlC m))]::hcE (.i EV) (.i CO) (.i RQ) (.i CN) X R::O0,n:=188})
  ·intro J;refine zaf Tk Tryz.func78 rfl (fun c3=>?_) (fun c3=>?_)
   ·have c3:all.length>1:=by have:((all.length:Nat):Int)>1:=of_decide_eq_true c3;omega
    rw[if_pos c3] at hnj;refine zah Tk Tryz.func78 (by show xn.size+1≤9223372036854775807;omega) ?_;refine zba Tk Tryz.func78 hE (hit _) rfl rfl rfl rfl rfl rfl ?_;refine zah Tk Tryz.func78 (by rw[ByteArray.size_append];show xn.size+1+(zcN (j:Int)).size≤9223372036854775807;omega) ?_;refine zaB ?_;exact zaK (J trivial) ⟨rfl,rfl,rfl,rfl,rfl,rfl,congrArg sD hnj,rfl,rfl,rfl,trivial⟩ rfl ⟨rfl,trivial⟩ rfl rfl
   ·have c3:¬all.length>1:=by have:¬((all.length:Nat):Int)>1:=of_decide_eq_false c3;omega
    rw[if_neg c3] at hnj;refine zaB ?_;exact zaK (J trivial) ⟨rfl,rfl,rfl,rfl,rfl,rfl,congrArg sD hnj,rfl,rfl,rfl,trivial⟩ rfl ⟨rfl,trivial⟩ rfl rfl
  intro _;refine zai Tk Tryz.func78 ?_;refine g_go Tk Tryz.func78 ?_;refine zaf Tk Tryz.func78 rfl (fun c4=>?_) (fun c4=>?_)
  ·have c4:nj.size>32:=by have:((nj.size:Nat):Int)>32:=of_decide_eq_true c4;omega
   rw[if_pos c4] at hno;rw[←hno,if_pos (show (7:Int)≠0 by decide)] at hX0;have h1:X=out2:=congrArg (·.1) hX0;have h2:(7:Int)=e2:=congrArg (·.2) hX0;exact zox Tk (nm:=61) (r:=ii 7) hM rfl rfl rfl trivial rfl (by rw[h1]) (by rw[h2])
  have c4:¬nj.size>32:=by have:¬((nj.size:Nat):Int)>32:=of_decide_eq_false c4;omega
  rw[if_neg c4] at hno;refine zbm Tk Tryz.func78 (rfl) ?_;refine ztC Tk Tryz.func78 (ti1:=zjQ) (ti2:=zjR) (m:=1) (nm:=61) (n:=X.length) (xs:=X.map xexI) ⟨by show (X.length+1)*40≤140737488355328;omega,by omega⟩ rfl rfl rfl rfl rfl rfl rfl rfl rfl rfl rfl rfl rfl rfl rfl ?_;intro E2 hM2;refine zl9 Tk Tryz.func78 (nb:=5) (nm:=61) (off:=3) (ti1:=zjQ) rfl rfl rfl rfl rfl rfl rfl rfl rfl rfl rfl rfl rfl rfl rfl (show 3<5 by decide) rfl ?_;refine zad ?_;refine zas (wk_S (zwh (R:=R) hR)) ?_;change Rch _ _ {σ:=_,S:=_::((5,celO (.i EV) (.i CO) (.i RQ) (.i CN))::(61,Ob.arr 126 2 (X.length+1) (X.map xexI++[xexI ⟨nj,b⟩]) true)::R)::O0,n:=_};have hO:hcE (.i EV) (.i CO) (.i RQ) (.i CN) (out++new.take (j+1)) R=(5,celO (.i EV) (.i CO) (.i RQ) (.i CN))::(61,Ob.arr 126 2 (X.length+1) (X.map xexI++[xexI ⟨nj,b⟩]) true)::R:=by
   rw[hsu];show (5,_)::(61,zg6 (X++[⟨nj,b⟩]))::R=_;rw[←zqE]
  rw[←hO];have hT2:TabE g (ptab ty fr) E2 (hcE (.i EV) (.i CO) (.i RQ) (.i CN) (out++new.take (j+1)) R::O0):=by
   refine zqh hE hM2 (es:=2) (n:=X.length) (by simp[shape,zab,zac,Ob.sh]) ⟨2,(out++new.take (j+1)).length,by simp[shape,zab,zac,Ob.sh]⟩ fun d n hd=>?_
   cases d with
   |succ d=>rfl
   |zero=>
    have hm:n≠61:=by rcases hd with h|h;exact absurd rfl h;exact h
    simp only[shape,zab,List.getElem?_cons_zero,zac]
    by_cases h5:5=n
    ·rw[if_pos h5,if_pos h5]
    ·rw[if_neg h5,if_neg h5,if_neg (Ne.symm hm),if_neg (Ne.symm hm)]
  exact ih E2 (j+1) _ _ ⟨hM.trans hM2,hT2,g2,hno⟩ (by omega) ⟨rfl,rfl,rfl,rfl,rfl,rfl,rfl,hj1,trivial⟩ rfl ⟨rfl,trivial⟩ rfl rfl
 have g2:all.length≤j:=by simpa using g2
 rw[List.drop_eq_nil_of_le (by omega)] at hno;rw[List.take_of_length_le (by omega)] at hno ⊢;have hno:(out++new,(0:Int))=expN out new:=hno;rw[←hno,if_neg (by simp)] at hX0;clear ih hno hE hng;have hA1:((out++new).map (·.name)).take out.length=out.map (·.name):=by
  rw[List.map_append,List.take_append_of_le_length (by rw[List.length_map];exact Nat.le_refl _),List.take_of_length_le (by rw[List.length_map];exact Nat.le_refl _)]
 have hA2:(out++new).drop out.length=new:=by rw[List.drop_append_of_le_length (Nat.le_refl _),List.drop_of_length_le (Nat.le_refl _)];rfl
 have hD:dupX (((out++new).map (·.name)).take out.length) ((out++new).drop out.length)=dupX (out.map (·.name)) new:=by rw[hA1,hA2]
 have hAl:(out++new).length≤32+5000:=by rw[List.length_append];omega
 have hol2:out.length≤(out++new).length:=by rw[List.length_append];omega
 generalize dupX (out.map (·.name)) new=DX at *;generalize out++new=A at *;clear hA1 hA2;refine zad ?_;refine zag (fun n:Nat=>[(1,.own 1 5 0 0),(22,ii n)]) (fun _=>[]) (fun _=>hcE (.i EV) (.i CO) (.i RQ) (.i CN) A R::O0) 188
  (fun n=>n≤A.length∧dupX ((A.map (·.name)).take n) (A.drop n)=DX) (fun n=>A.length-n) out.length ⟨hol2,hD⟩ ⟨rfl,rfl,trivial⟩ rfl trivial rfl rfl ?_
 clear hD;rintro n ⟨hn,hno⟩ ih;refine zai Tk Tryz.func78 ?_;refine zbm Tk Tryz.func78 (rfl) ?_;refine zbm Tk Tryz.func78 (rfl) ?_;refine zaf Tk Tryz.func78 rfl (fun g3=>?_) (fun g3=>?_);rotate_left
 ·have g3:A.length≤n:=by simpa using g3
  rw[List.drop_eq_nil_of_le g3] at hno;have hno:Except.ok ((A.map (·.name)).take n)=DX:=hno;rw[←hno] at hX0;have h1:A=out2:=congrArg (·.1) hX0;have h2:(0:Int)=e2:=congrArg (·.2) hX0;exact zox Tk (nm:=61) (r:=ii 0) hM rfl rfl rfl trivial rfl (by rw[h1]) (by rw[h2])
 have g3:n<A.length:=by simpa using g3
 have ga:(A.map xexI)[(n:Int).toNat]? = some (xexI A[n]):=zal (f:=xexI) g3;have hn1:ii (IntKind.i64.wrap ((n:Int)+1))=ii ((n+1:Nat):Int):=congrArg ii (zav (n:=1000001) (by omega) (by decide));rw[zyO g3] at hno;generalize A[n]=z at *;obtain⟨zn,zl⟩:=z;simp only at hno;refine zad ?_;refine zag (fun q:Nat=>[(1,.own 1 5 0 0),(22,ii n),(23,ii q)]) (fun _=>[]) (fun _=>hcE (.i EV) (.i CO) (.i RQ) (.i CN) A R::O0) 188
  (fun q=>q≤n∧hasB ((A.map (·.name)).take q) zn=false) (fun q=>n-q) 0 ⟨Nat.zero_le _,rfl⟩ ⟨rfl,rfl,rfl,trivial⟩ rfl trivial rfl rfl ?_
 rintro q ⟨hq,hqn⟩ ih2;refine zai Tk Tryz.func78 ?_;refine zaf Tk Tryz.func78 rfl (fun g4=>?_) (fun g4=>?_);rotate_left
 ·have g4:n≤q:=by simpa using g4
  have e4:q=n:=by omega
  subst e4;rw[if_neg (by rw[hqn];decide)] at hno;refine zad ?_;exact ih (q+1) _ _ ⟨g3,hno⟩ (by omega) ⟨rfl,hn1,trivial⟩ rfl trivial rfl rfl
 have g4:q<n:=by simpa using g4
 have gq:(A.map xexI)[(q:Int).toNat]? = some (xexI A[q]):=zal (f:=xexI) (by omega);have hq1:ii (IntKind.i64.wrap ((q:Int)+1))=ii ((q+1:Nat):Int):=congrArg ii (zav (n:=1000001) (by omega) (by decide));have htk:(A.map (·.name)).take (q+1)=(A.map (·.name)).take q++[A[q].name]:=zcJ (by rw[List.getElem?_map,List.getElem?_eq_getElem (by omega)];rfl);have hin:A[q].name=zn→hasB ((A.map (·.name)).take n) zn=true:=fun e=>zfo.2 (by
  have h1:((A.map (·.name)).take n)[q]? = some zn:=by
   rw[List.getElem?_take_of_lt g4,List.getElem?_map,List.getElem?_eq_getElem (by omega),←e];rfl
  exact List.mem_of_getElem? h1)
 have hap:A[q].name≠zn→hasB ((A.map (·.name)).take (q+1)) zn=false:=fun e=>by
  rw[htk];unfold hasB at hqn ⊢;rw[List.any_append,hqn];simp only[List.any_cons,List.any_nil,Bool.or_false,Bool.false_or];exact Bool.eq_false_iff.2 fun h=>e (zbP.1 h)
 generalize A[q]=y at *;obtain⟨yn,yl⟩:=y;simp only at hin hap;clear htk;refine zat Tk Tryz.func78 zax rfl ?_;refine zbR Tk (rfl) ?_;refine zbR Tk (rfl) ?_;refine zar Tk (by exact⟨by omega,by show (q:Int)<(A.length:Int);omega⟩) ?_;refine zbR Tk (rfl) ?_;refine zay Tk (gq) ?_;refine zbR Tk (rfl) ?_;refine zbR Tk (rfl) ?_;refine zar Tk (by exact⟨by omega,by show (n:Int)<(A.length:Int);omega⟩) ?_;refine zbR Tk (rfl) ?_;refine zay Tk (ga) ?_;refine zaA Tk Tryz.func78 (by kernel_rfl) ?_;refine zaf Tk Tryz.func78 rfl (fun c7=>?_) (fun c7=>?_)
 ·have c7:(yn.toList==zn.toList)=true:=c7;rw[zaV,zbP] at c7;rw[if_pos (hin c7)] at hno;rw[←hno] at hX0;have h1:A=out2:=congrArg (·.1) hX0;have h2:(8:Int)=e2:=congrArg (·.2) hX0;exact zox Tk (nm:=61) (r:=ii 8) hM rfl rfl rfl trivial rfl (by rw[h1]) (by rw[h2])
 ·have c7:(yn.toList==zn.toList)=false:=c7;rw[zaV] at c7;refine zad ?_;exact ih2 (q+1) _ _ ⟨by omega,hap fun e=>by rw[zbP.2 e] at c7;cases c7⟩ (by omega) ⟨rfl,rfl,hq1,trivial⟩ rfl trivial rfl rfl
instance staDec:DecidableEq Sta:=fun a b=>decidable_of_iff (a.loc=b.loc∧a.vals=b.vals) ⟨fun ⟨h1,h2⟩=>by cases a;cases b;cases h1;cases h2;rfl,fun h=>by subst h;exact⟨rfl,rfl⟩⟩
end Go.AI
set_option maxRecDepth 20000
namespace Go.AI
open Go.Proofs
end Go.AI
namespace Go.AI
open Go.Proofs
set_option maxRecDepth 20000
end Go.AI
