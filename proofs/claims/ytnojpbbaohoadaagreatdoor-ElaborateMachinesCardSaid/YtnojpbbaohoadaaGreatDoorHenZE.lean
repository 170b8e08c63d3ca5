/- The layer of abstract runs, part 31. -/
import Derived.Test.YtnojpbbaohoadaaGreatDoorHenZD
set_option linter.unusedSimpArgs false
set_option linter.unusedVariables false
set_option linter.all false

set_option maxHeartbeats 4000000
namespace Go.AI
open Go.Proofs
set_option maxRecDepth 20000
theorem znZ (O:List Heap) (b:List ByteArray) (s:ByteArray) (hl:b.length≤1000000) (hs:s.size≤zaq):zan Tryz.prog 127 [ssD (b++[s])] O (ii (nmE b s)) [] O:=by
 have w1:IntKind.i64.wrap (((b++[s]).length:Int) - 1)=(b.length:Int):=by rw[List.length_append,List.length_singleton,w64 (by omega) (by omega)];omega
 have hlen:(b++[s]).length=b.length+1:=by simp
 have gs:((b++[s]).map fun s=>[strI s])[(IntKind.i64.wrap (((b++[s]).length:Int) - 1)).toNat]? = some [strI s]:=by rw[w1];simp
 have eT:I.sl 1 (IntKind.i64.wrap (((b++[s]).length:Int) - 1)).toNat (((b++[s]).map fun s=>[strI s]).take (IntKind.i64.wrap (((b++[s]).length:Int) - 1)).toNat)=zjM b:=by rw[w1];simp[zjM]
 have hn:=fun O=>zdp O s hs
 have hc:∀ O,zan Tryz.prog 39 [.i (.sl 1 (IntKind.i64.wrap (((b++[s]).length:Int) - 1)).toNat (((b++[s]).map fun s=>[strI s]).take (IntKind.i64.wrap (((b++[s]).length:Int) - 1)).toNat)),sD s] O (ii (nmIx b s)) [] O:=fun O=>by
  rw[eT];exact zcc O b s hl
 unfold nmE
 rw[zdT]
 generalize zaQ s=nb at *
 generalize nmIx b s=q at *
 refine zaa Tk Tryz.func127 rfl Tryz.call127 Tryz.ntmps127 (Nat.le_of_ble_eq_true rfl) fun E=>?_
 refine zah Tk Tryz.func127 ?_
 refine zai Tk Tryz.func127 (by rw[w1,hlen];omega) ?_
 refine zar Tk Tryz.func127 (gs) ?_
 refine zak Tk Tryz.func127 (hn _) rfl rfl rfl rfl rfl ?_
 refine zag Tk Tryz.func127 rfl (fun c1=>?_) (fun c1=>?_)
 ·have c1:nb=false:=by simpa using c1
  rw[if_pos c1]
  refine zaf Tk (r:=ii 7) rfl rfl rfl trivial rfl rfl ?_
  rfl
 have c1:¬ nb=false:=by simpa using c1
 rw[if_neg c1]
 refine zas Tk Tryz.func127 zax rfl ?_
 refine zap Tk (by rw[w1,hlen];omega) ?_
 refine zap Tk (by rw[w1,hlen];omega) ?_
 refine zaz Tk (gs) ?_
 refine zaD Tk (fun _=>hc _) rfl rfl rfl ?_
 refine zaA Tk Tryz.func127 (by kernel_rfl) ?_
 refine zag Tk Tryz.func127 rfl (fun c2=>?_) (fun c2=>?_)
 ·have c2:q ≥ 0:=of_decide_eq_true c2
  rw[if_pos (by simpa using c2)]
  refine zaf Tk (r:=ii 8) rfl rfl rfl trivial rfl rfl ?_
  rfl
 have c2:¬ q ≥ 0:=of_decide_eq_false c2
 rw[if_neg (by simpa using c2)]
 refine zaf Tk (r:=ii 0) rfl rfl rfl trivial rfl rfl ?_
 rfl
theorem zfa (O:List Heap) (l:List ByteArray) (i:Nat) (hi:i<l.length) (hl:l.length≤1000000) (hs:∀ s∈l,s.size≤zaq) :
  zan Tryz.prog 127 [.i (.sl 1 (IntKind.i64.wrap ((i:Int)+1)).toNat ((l.map fun s=>[strI s]).take (IntKind.i64.wrap ((i:Int)+1)).toNat))] O (ii (nmE (l.take i) l[i])) [] O:=by
 have h:=znZ O (l.take i) l[i] (by rw[List.length_take];omega) (hs _ (List.getElem_mem hi))
 rw[← List.take_succ_eq_append_getElem hi] at h
 rw[zay (n:=1000001) (by omega) (by decide),Int.toNat_natCast,← zdH (fun s=>[strI s]) 1 (by omega:i+1≤l.length)]
 exact h
theorem zsu (O:List Heap) (l:List ByteArray) (hl:l.length≤1000000) (hs:∀ s∈l,s.size≤zaq):zan Tryz.prog 128 [ssD l] O (ii (nmsE [] l)) [] O:=by
 generalize hR:nmsE [] l=R
 refine zaa Tk Tryz.func128 rfl Tryz.call128 Tryz.ntmps128 (Nat.le_of_ble_eq_true rfl) fun E=>?_
 refine zah Tk Tryz.func128 ?_
 refine zae ?_
 refine zaj (fun i:Nat=>[(0,ssD l),(3,ii i)]) (fun _=>[]) (fun _=>O) 19
  (fun i=>i≤l.length∧nmsE (l.take i) (l.drop i)=R) (fun i=>l.length - i) 0 ⟨Nat.zero_le _,hR⟩ ⟨rfl,rfl,trivial⟩ rfl trivial rfl rfl ?_
 rintro i ⟨hi,hno⟩ ih
 clear hR
 refine zah Tk Tryz.func128 ?_
 refine zag Tk Tryz.func128 rfl (fun g1=>?_) (fun g1=>?_)
 ·have h1:i<l.length:=by simpa using g1
  have ht:l.take (i+1)=l.take i++[l[i]]:=List.take_succ_eq_append_getElem h1
  rw[List.drop_eq_getElem_cons h1] at hno
  simp only[nmsE,← ht] at hno
  have hw:IntKind.i64.wrap ((i:Int)+1)=((i+1:Nat):Int):=zay (n:=1000001) (by omega) (by decide)
  have hf:=fun O=>zfa O l i h1 hl hs
  generalize nmE (l.take i) l[i]=e at *
  refine zai Tk Tryz.func128 (by exact⟨by rw[hw];omega,by show IntKind.i64.wrap ((i:Int)+1)≤(l.length:Int);rw[hw];omega⟩) ?_
  refine zak Tk Tryz.func128 (hf _) rfl rfl rfl rfl rfl ?_
  refine zag Tk Tryz.func128 rfl (fun c1=>?_) (fun c1=>?_)
  ·have c1:e≠0:=bneT c1
   rw[if_pos c1] at hno
   subst hno
   refine zaf Tk (r:=ii e) rfl rfl rfl trivial rfl rfl ?_
   rfl
  have c1:e=0:=bneF c1
  rw[if_neg (fun h=>h c1)] at hno
  refine zae ?_
  exact ih (i+1) _ _ ⟨h1,hno⟩ (by omega) ⟨rfl,congrArg ii hw,trivial⟩ rfl trivial rfl rfl
 ·have h1:l.length≤i:=by simpa using g1
  rw[List.drop_eq_nil_of_le h1] at hno
  have hno:(0:Int)=R:=hno
  subst hno
  refine zaf Tk (r:=ii 0) rfl rfl rfl trivial rfl rfl ?_
  rfl
end Go.AI


namespace Go.AI
open Go.Proofs
set_option maxRecDepth 20000
theorem zpB (O:List Heap) (m:Mdl) (i:Nat) (hi:i<m.tpls.length) (hm:mdlOk m):zan Tryz.prog 50 [mdlD m,ii i] O (ii (if nmE ((m.tpls.map (·.name)).take i) m.tpls[i].name≠0 then nmE ((m.tpls.map (·.name)).take i) m.tpls[i].name else tplE m.tpls[i])) [] O:=by
 have htp:=hm.tp
 have hx:=hm.tpk m.tpls[i] (List.getElem_mem hi)
 have hn:=fun O=>zgR O m htp
 have hf:=fun O=>zfa O (m.tpls.map (·.name)) i (by rw[List.length_map];exact hi) (by rw[List.length_map];exact htp) (fun s hs=>by
  obtain⟨t,ht,rfl⟩:=List.mem_map.1 hs
  exact (hm.tpk t ht).nm)
 rw[List.getElem_map] at hf
 have gt:(m.tpls.map tplI)[(i:Int).toNat]? = some (tplI m.tpls[i]):=zam (f:=tplI) hi
 have hw:IntKind.i64.wrap ((i:Int)+1)=((i+1:Nat):Int):=zay (n:=1000001) (by omega) (by decide)
 have h1:=fun O=>zsu O m.tpls[i].locs hx.ll hx.ls
 have h2:=fun O=>zsu O m.tpls[i].evs hx.el hx.es
 have h3:=fun O=>zjz O m.tpls[i].mach hx.mo
 have hal:=hx.mo.al
 have hel:=hx.el
 clear hx
 unfold tplE
 have hNl:(m.tpls.map (·.name)).length=m.tpls.length:=List.length_map _
 generalize nmE ((m.tpls.map (·.name)).take i) m.tpls[i].name=e0 at *
 generalize nmsE [] m.tpls[i].locs=e1 at *
 generalize nmsE [] m.tpls[i].evs=e2 at *
 generalize chk m.tpls[i].mach=e3 at *
 generalize m.tpls[i]=x at *
 generalize m.tpls.map (·.name)=N at *
 obtain⟨nm,locs,evs,⟨al,lo,ini,mk,vr,mo⟩⟩:=x
 simp only at h1 h2 h3 hal hel ⊢
 refine zaa Tk Tryz.func50 rfl Tryz.call50 Tryz.ntmps50 (Nat.le_of_ble_eq_true rfl) fun E=>?_
 refine zah Tk Tryz.func50 ?_
 refine zai Tk Tryz.func50 (by exact⟨by omega,by show (i:Int)<(m.tpls.length:Int);omega⟩) ?_
 refine zar Tk Tryz.func50 (gt) ?_
 refine zak Tk Tryz.func50 (hn _) rfl rfl rfl rfl rfl ?_
 refine zai Tk Tryz.func50 (by exact⟨by rw[hw];omega,by show IntKind.i64.wrap ((i:Int)+1)≤(N.length:Int);rw[hw];omega⟩) ?_
 refine zak Tk Tryz.func50 (hf _) rfl rfl rfl rfl rfl ?_
 refine zag Tk Tryz.func50 rfl (fun c0=>?_) (fun c0=>?_)
 ·have c0:e0≠0:=bneT c0
  rw[if_pos c0]
  refine zaf Tk (r:=ii e0) rfl rfl rfl trivial rfl rfl ?_
  rfl
 have c0:¬ e0≠0:=fun h=>h (bneF c0)
 rw[if_neg c0]
 refine zag Tk Tryz.func50 rfl (fun c1=>?_) (fun c1=>?_)
 ·have c1:(locs.length:Int)≠lo:=bneT c1
  rw[if_pos c1]
  refine zaf Tk (r:=ii 4) rfl rfl rfl trivial rfl rfl ?_
  rfl
 have c1:¬ (locs.length:Int)≠lo:=fun h=>h (bneF c1)
 rw[if_neg c1]
 refine zak Tk Tryz.func50 (h1 _) rfl rfl rfl rfl rfl ?_
 refine zag Tk Tryz.func50 rfl (fun c2=>?_) (fun c2=>?_)
 ·have c2:e1≠0:=bneT c2
  rw[if_pos c2]
  refine zaf Tk (r:=ii e1) rfl rfl rfl trivial rfl rfl ?_
  rfl
 have c2:¬ e1≠0:=fun h=>h (bneF c2)
 rw[if_neg c2]
 refine zak Tk Tryz.func50 (h2 _) rfl rfl rfl rfl rfl ?_
 refine zag Tk Tryz.func50 rfl (fun c3=>?_) (fun c3=>?_)
 ·have c3:e2≠0:=bneT c3
  rw[if_pos c3]
  refine zaf Tk (r:=ii e2) rfl rfl rfl trivial rfl rfl ?_
  rfl
 have c3:¬ e2≠0:=fun h=>h (bneF c3)
 rw[if_neg c3]
 refine zag Tk Tryz.func50 rfl (fun c4=>?_) (fun c4=>?_)
 ·have c4:(al.length:Int)≠(evs.length:Int):=bneT c4
  rw[if_pos (by omega)]
  refine zaf Tk (r:=ii 6) rfl rfl rfl trivial rfl rfl ?_
  rfl
 have c4:al.length=evs.length:=by have:(al.length:Int)=(evs.length:Int):=bneF c4;omega
 rw[if_neg (by omega)]
 refine zae ?_
 refine zaj (fun k:Nat=>[(5,.own 0 5 0 0),(9,ii k)]) (fun _=>[(5,.box (tplC ⟨nm,locs,evs,⟨al,lo,ini,mk,vr,mo⟩⟩))]) (fun _=>O) 69
  (fun k=>k≤al.length∧∀ j (h:j<al.length),j<k→al[j]=(j:Int)) (fun k=>al.length - k) 0 ⟨Nat.zero_le _,fun j _ h=>absurd h (Nat.not_lt_zero _)⟩ ⟨rfl,rfl,trivial⟩ rfl ⟨rfl,trivial⟩ rfl rfl ?_
 rintro k ⟨hk,hno⟩ ih
 refine zah Tk Tryz.func50 ?_
 refine zag Tk Tryz.func50 rfl (fun g1=>?_) (fun g1=>?_)
 ·have g1:k<evs.length:=by simpa using g1
  have g1:k<al.length:=by omega
  have gx:(al.map fun x=>[vi x])[(k:Int).toNat]? = some [vi al[k]]:=zam (f:=fun x=>[vi x]) g1
  refine zai Tk Tryz.func50 (by exact⟨by omega,by show (k:Int)<(al.length:Int);omega⟩) ?_
  refine zar Tk Tryz.func50 (gx) ?_
  refine zag Tk Tryz.func50 rfl (fun c5=>?_) (fun c5=>?_)
  ·have c5:al[k]≠(k:Int):=bneT c5
   rw[if_pos fun e=>c5 ((ziP c4).1 e k g1)]
   refine zaf Tk (r:=ii 6) rfl rfl rfl trivial rfl rfl ?_
   rfl
  have c5:al[k]=(k:Int):=bneF c5
  refine zae ?_
  refine ih (k+1) _ _ ⟨g1,fun j hj h=>?_⟩ (by omega) ⟨rfl,congrArg ii (zay (n:=zaq) (by omega) (by decide)),trivial⟩ rfl ⟨rfl,trivial⟩ rfl rfl
  by_cases e:j=k
  ·subst e;exact c5
  ·exact hno j hj (by omega)
 ·have g1:evs.length≤k:=by simpa using g1
  rw[if_neg (fun h=>h ((ziP c4).2 fun j hj=>hno j hj (by omega)))]
  refine zak Tk Tryz.func50 (h3 _) rfl rfl rfl rfl rfl ?_
  refine zaf Tk (r:=ii e3) rfl rfl rfl trivial rfl rfl ?_
  rfl
end Go.AI


namespace Go.AI
open Go.Proofs
set_option maxRecDepth 20000
theorem zsR (l:List Ins) (s:ByteArray):hasB (l.flatMap (·.evs)) s=l.any fun x=>decide (nmIx x.evs s ≥ 0):=by
 induction l with
 | nil=>rfl
 | cons x r ih=>
  rw[List.flatMap_cons,List.any_cons,← ih]
  have:decide (nmIx x.evs s ≥ 0)=hasB x.evs s:=(zdT x.evs s).symm
  rw[this]
  unfold hasB
  rw[List.any_append]
theorem zlC (O:List Heap) (m:Mdl) (x:Ins) (b:List ByteArray) (rq:Bool) (hm:mdlOk m) (hx:insOk x) (hb:b.length≤1000000) :
  zan Tryz.prog 129 [mdlD m,insD x,ssD (b++[x.name]),bb rq] O (ii (if nmE b x.name≠0 then nmE b x.name else if rq=true then reqE m x else insE m x)) [] O:=by
 have hcl:=hm.co
 have hce:∀ c∈m.comps,c.evs.length≤1000000:=fun c hc=>(hm.cok c hc).el
 have hel:=hx.el
 have h1:=fun O=>znZ O b x.name hb hx.nm
 have h2:=fun O=>zgR O m hm.tp
 have h3:=fun O=>zcc O (m.tpls.map (·.name)) x.tpl (by rw[List.length_map];exact hm.tp)
 have h4:=fun O=>zsi O m hm.ev
 have h5:=fun O s=>zcc O (m.evs.map (·.name)) s (by rw[List.length_map];exact hm.ev)
 obtain⟨xn,xt,xe⟩:=x
 simp only at h1 h3 hel ⊢
 have hRq:reqE m ⟨xn,xt,xe⟩=if insE m ⟨xn,xt,xe⟩≠0 then insE m ⟨xn,xt,xe⟩ else if xe.any (fun s=>!(m.comps.any fun c=>decide (nmIx c.evs s ≥ 0)))=true then 9 else 0:=by
  unfold reqE
  simp only[zsR]
 rw[hRq]
 clear hRq
 unfold insE
 simp only
 generalize nmE b xn=e0 at *
 refine zaM [16] Tk Tryz.func129 rfl Tryz.call129 Tryz.ntmps129 (Nat.le_of_ble_eq_true rfl) fun E=>?_
 refine zah Tk Tryz.func129 ?_
 refine zak Tk Tryz.func129 (h1 _) rfl rfl rfl rfl rfl ?_
 refine zag Tk Tryz.func129 rfl (fun c0=>?_) (fun c0=>?_)
 ·have c0:e0≠0:=bneT c0
  rw[if_pos c0]
  refine zaf Tk (r:=ii e0) rfl rfl rfl trivial rfl rfl ?_
  rfl
 have c0:¬ e0≠0:=fun h=>h (bneF c0)
 rw[if_neg c0]
 clear h1
 refine zas Tk Tryz.func129 zax rfl ?_
 refine zaD Tk (fun _=>h2 _) rfl rfl rfl ?_
 refine zaD Tk (fun _=>h3 _) rfl rfl rfl ?_
 refine zaA Tk Tryz.func129 (by kernel_rfl) ?_
 rcases zdz Tpl.name m.tpls xt with ⟨f1,f2⟩ | ⟨k,t,f1,f2,f3⟩
 ·rw[f1]
  simp only[ne_eq,show (9:Int)≠0 by decide,not_false_eq_true,if_true,ite_self]
  rw[show nmIx (m.tpls.map (·.name)) xt = -1 from f2]
  refine gcT Tk Tryz.func129 rfl ?_
  refine zaf Tk (r:=ii 9) rfl rfl rfl trivial rfl rfl ?_
  rfl
 rw[f2,f3]
 simp only
 have hk:k<m.tpls.length:=(List.getElem?_eq_some_iff.1 f1).1
 have htl:=hm.tp
 have gt:(m.tpls.map tplI)[(k:Int).toNat]? = some (tplI t):=by rw[Int.toNat_natCast,List.getElem?_map,f1];rfl
 clear f1 f2 f3 h2 h3
 obtain⟨tn,tl,te,⟨tal,tlo,tini,tmk,tvr,tmo⟩⟩:=t
 simp only
 refine zag Tk Tryz.func129 rfl (fun h=>absurd h (by simp)) (fun _=>?_)
 refine zas Tk Tryz.func129 zax rfl ?_
 refine zap Tk (by exact⟨by omega,by show (k:Int)<(m.tpls.length:Int);omega⟩) ?_
 refine zaz Tk (gt) ?_
 refine zaA Tk Tryz.func129 (by kernel_rfl) ?_
 refine zag Tk Tryz.func129 rfl (fun c1=>?_) (fun c1=>?_)
 ·have c1:(xe.length:Int)≠(te.length:Int):=bneT c1
  have c1:xe.length≠te.length:=by omega
  simp only[ne_eq,c1,not_false_eq_true,if_true,show ¬ (4:Int)=0 by decide,ite_self]
  refine zaf Tk (r:=ii 4) rfl rfl rfl trivial rfl rfl ?_
  rfl
 have c1:(xe.length:Int)=(te.length:Int):=bneF c1
 have c1:¬ xe.length≠te.length:=by omega
 rw[if_neg c1]
 clear gt
 generalize hE:zcQ m [] xe=E at *
 generalize hR:(if rq=true then if E≠0 then E else if (xe.any fun s=>!m.comps.any fun c=>decide (nmIx c.evs s ≥ 0))=true then 9 else 0 else E)=R at *
 have hEq:E≠0→R=E:=fun h=>by
  rw[← hR,if_pos h]
  split <;> rfl
 apply zbY (P:=E=0) (s6:={ σ:=[(3,bb rq),(4,.own 0 4 0 0),(5,.own 0 5 0 0)],S:=[(4,.box (mdlC m)),(5,.box [.i (strI xn),.i (strI xt),ssD xe])]::O,n:=100 })
 ·intro J
  refine zae ?_
  refine zaj (fun i:Nat=>[(3,bb rq),(4,.own 0 4 0 0),(5,.own 0 5 0 0),(11,ii i)]) (fun _=>[(4,.box (mdlC m)),(5,.box [.i (strI xn),.i (strI xt),ssD xe])]) (fun _=>O) 100
   (fun i=>i≤xe.length∧zcQ m (xe.take i) (xe.drop i)=E) (fun i=>xe.length - i) 0 ⟨Nat.zero_le _,hE⟩ ⟨rfl,rfl,rfl,rfl,trivial⟩ rfl ⟨rfl,rfl,trivial⟩ rfl rfl ?_
  rintro i ⟨hi,hno⟩ ih
  skip
  refine zah Tk Tryz.func129 ?_
  refine zag Tk Tryz.func129 rfl (fun g1=>?_) (fun g1=>?_)
  ·have g1:i<xe.length:=by simpa using g1
   have gs:(xe.map fun s=>[strI s])[(i:Int).toNat]? = some [strI xe[i]]:=zam (f:=fun s=>[strI s]) g1
   have ht:xe.take (i+1)=xe.take i++[xe[i]]:=List.take_succ_eq_append_getElem g1
   rw[List.drop_eq_getElem_cons g1] at hno
   simp only[zcQ,← ht,zdT] at hno
   have hi1:=fun O=>h5 O xe[i]
   have hi2:∀ O,zan Tryz.prog 39 [.i (.sl 1 (i:Int).toNat ((xe.map fun s=>[strI s]).take (i:Int).toNat)),sD xe[i]] O (ii (nmIx (xe.take i) xe[i])) [] O:=fun O=>by
    rw[Int.toNat_natCast,← zdH (fun s=>[strI s]) 1 hi]
    exact zcc O (xe.take i) xe[i] (by rw[List.length_take];omega)
   generalize nmIx (m.evs.map (·.name)) xe[i]=q1 at *
   generalize nmIx (xe.take i) xe[i]=q2 at *
   generalize xe[i]=s at *
   refine zas Tk Tryz.func129 zax rfl ?_
   refine zaD Tk (fun _=>h4 _) rfl rfl rfl ?_
   refine zap Tk (by exact⟨by omega,by show (i:Int)<(xe.length:Int);omega⟩) ?_
   refine zaz Tk (gs) ?_
   refine zaD Tk (fun _=>hi1 _) rfl rfl rfl ?_
   refine zaA Tk Tryz.func129 (by kernel_rfl) ?_
   refine zag Tk Tryz.func129 rfl (fun c2=>?_) (fun c2=>?_)
   ·have c2:q1<0:=of_decide_eq_true c2
    rw[if_pos (decide_eq_false (by omega))] at hno
    have:=hEq (by rw[← hno];decide)
    rw[← hno] at this
    subst this
    refine zaf Tk (r:=ii 9) rfl rfl rfl trivial rfl rfl ?_
    rfl
   have c2:¬ q1<0:=of_decide_eq_false c2
   rw[if_neg (by simp;omega)] at hno
   refine zas Tk Tryz.func129 zax rfl ?_
   refine zap Tk (by exact⟨by omega,by show (i:Int)≤(xe.length:Int);omega⟩) ?_
   refine zap Tk (by exact⟨by omega,by show (i:Int)<(xe.length:Int);omega⟩) ?_
   refine zaz Tk (gs) ?_
   refine zaD Tk (fun _=>hi2 _) rfl rfl rfl ?_
   refine zaA Tk Tryz.func129 (by kernel_rfl) ?_
   refine zag Tk Tryz.func129 rfl (fun c3=>?_) (fun c3=>?_)
   ·have c3:q2 ≥ 0:=of_decide_eq_true c3
    rw[if_pos (by simpa using c3)] at hno
    have:=hEq (by rw[← hno];decide)
    rw[← hno] at this
    subst this
    refine zaf Tk (r:=ii 8) rfl rfl rfl trivial rfl rfl ?_
    rfl
   have c3:¬ q2 ≥ 0:=of_decide_eq_false c3
   rw[if_neg (by simpa using c3)] at hno
   refine zae ?_
   exact ih (i+1) _ _ ⟨g1,hno⟩ (by omega) ⟨rfl,rfl,rfl,congrArg ii (zay (n:=1000001) (by omega) (by decide)),trivial⟩ rfl ⟨rfl,rfl,trivial⟩ rfl rfl
  ·have g1:xe.length≤i:=by simpa using g1
   rw[List.drop_eq_nil_of_le g1] at hno
   have hno:(0:Int)=E:=hno
   refine zaB ?_
   exact zaE (J hno.symm) ⟨rfl,rfl,rfl,trivial⟩ rfl ⟨rfl,rfl,trivial⟩ rfl rfl
 intro hE0
 subst hE0
 refine zah Tk Tryz.func129 ?_
 refine g_go Tk Tryz.func129 ?_
 simp only[ne_eq,not_true_eq_false,if_false] at hR
 refine zae ?_
 refine zaj (fun i:Nat=>[(3,bb rq),(4,.own 0 4 0 0),(5,.own 0 5 0 0),(12,ii i)]) (fun _=>[(4,.box (mdlC m)),(5,.box [.i (strI xn),.i (strI xt),ssD xe])]) (fun _=>O) 100
  (fun i=>i≤xe.length∧(if rq=true then if ((xe.drop i).any fun s=>!m.comps.any fun c=>decide (nmIx c.evs s ≥ 0))=true then (9:Int) else 0 else 0)=R) (fun i=>xe.length - i) 0 ⟨Nat.zero_le _,hR⟩ ⟨rfl,rfl,rfl,rfl,trivial⟩ rfl ⟨rfl,rfl,trivial⟩ rfl rfl ?_
 rintro i ⟨hi,hno⟩ ih
 clear hE hR hEq
 refine zah Tk Tryz.func129 ?_
 refine zaC Tk Tryz.func129 rfl (fun g1=>?_) (fun g1=>?_)
 rotate_left
 ·have g1:xe.length≤i:=by simpa using g1
  rw[List.drop_eq_nil_of_le g1] at hno
  have hno:(0:Int)=R:=by rw[← hno];cases rq <;> rfl
  subst hno
  refine gcF Tk Tryz.func129 rfl ?_
  refine zaf Tk (r:=ii 0) rfl rfl rfl trivial rfl rfl ?_
  rfl
 have g1:i<xe.length:=by simpa using g1
 refine zag Tk Tryz.func129 rfl (fun g2=>?_) (fun g2=>?_)
 rotate_left
 ·have g2:rq=false:=g2
  subst g2
  have hno:(0:Int)=R:=hno
  subst hno
  refine zaf Tk (r:=ii 0) rfl rfl rfl trivial rfl rfl ?_
  rfl
 have g2:rq=true:=g2
 subst g2
 rw[if_pos rfl,List.drop_eq_getElem_cons g1,List.any_cons] at hno
 have gs:(xe.map fun s=>[strI s])[(i:Int).toNat]? = some [strI xe[i]]:=zam (f:=fun s=>[strI s]) g1
 have hi1:ii (IntKind.i64.wrap ((i:Int)+1))=ii ((i+1:Nat):Int):=congrArg ii (zay (n:=1000001) (by omega) (by decide))
 generalize xe[i]=s at *
 refine zae ?_
 refine zaj (fun j:Nat=>[(3,bb true),(4,.own 0 4 0 0),(5,.own 0 5 0 0),(12,ii i),(13,bb ((m.comps.take j).any fun c=>decide (nmIx c.evs s ≥ 0))),(14,ii j)]) (fun _=>[(4,.box (mdlC m)),(5,.box [.i (strI xn),.i (strI xt),ssD xe])]) (fun _=>O) 100
  (fun j=>j≤m.comps.length) (fun j=>m.comps.length - j) 0 (Nat.zero_le _) ⟨rfl,rfl,rfl,rfl,rfl,rfl,trivial⟩ rfl ⟨rfl,rfl,trivial⟩ rfl rfl ?_
 intro j hj ih2
 have hj:j≤m.comps.length:=hj
 refine zah Tk Tryz.func129 ?_
 refine zag Tk Tryz.func129 rfl (fun g3=>?_) (fun g3=>?_)
 ·have g3:j<m.comps.length:=by simpa using g3
  have gx:(m.comps.map insI)[(j:Int).toNat]? = some (insI m.comps[j]):=zam (f:=insI) g3
  have hidx:=fun O=>zcc O m.comps[j].evs s (hce m.comps[j] (List.getElem_mem g3))
  have hs:((m.comps.take (j+1)).any fun x=>decide (nmIx x.evs s ≥ 0))=(((m.comps.take j).any fun x=>decide (nmIx x.evs s ≥ 0)) || decide (nmIx m.comps[j].evs s ≥ 0)):=by
   rw[List.take_succ_eq_append_getElem g3,List.any_append]
   simp
  have hj1:ii (IntKind.i64.wrap ((j:Int)+1))=ii ((j+1:Nat):Int):=congrArg ii (zay (n:=1000001) (by omega) (by decide))
  generalize ((m.comps.take j).any fun x=>decide (nmIx x.evs s ≥ 0))=B at *
  generalize m.comps[j]=c at *
  obtain⟨cn,ct,ce⟩:=c
  simp only at hidx hs
  generalize nmIx ce s=q at *
  refine zas Tk Tryz.func129 zax rfl ?_
  refine zbL Tk (fun g4=>?_) (fun g4=>?_)
  ·have g4:B=true:=g4
   subst g4
   refine zaA Tk Tryz.func129 (by kernel_rfl) ?_
   refine zae ?_
   refine ih2 (j+1) _ _ g3 (by omega) ⟨rfl,rfl,rfl,rfl,?_,hj1,trivial⟩ rfl ⟨rfl,rfl,trivial⟩ rfl rfl
   rw[hs];rfl
  ·have g4:B=false:=g4
   subst g4
   refine zap Tk (by exact⟨by omega,by show (j:Int)<(m.comps.length:Int);omega⟩) ?_
   refine zaz Tk (gx) ?_
   refine zap Tk (by exact⟨by omega,by show (i:Int)<(xe.length:Int);omega⟩) ?_
   refine zaz Tk (gs) ?_
   refine zaD Tk (fun _=>hidx _) rfl rfl rfl ?_
   refine zaA Tk Tryz.func129 (by kernel_rfl) ?_
   refine zae ?_
   refine ih2 (j+1) _ _ g3 (by omega) ⟨rfl,rfl,rfl,rfl,?_,hj1,trivial⟩ rfl ⟨rfl,rfl,trivial⟩ rfl rfl
   rw[hs];rfl
 ·have g3:m.comps.length≤j:=by simpa using g3
  rw[List.take_of_length_le g3]
  generalize (m.comps.any fun c=>decide (nmIx c.evs s ≥ 0))=B at *
  refine zag Tk Tryz.func129 rfl (fun g4=>?_) (fun g4=>?_)
  ·have g4:(!B)=true:=g4
   rw[g4] at hno
   have hno:(9:Int)=R:=hno
   subst hno
   refine zaf Tk (r:=ii 9) rfl rfl rfl trivial rfl rfl ?_
   rfl
  ·have g4:(!B)=false:=g4
   rw[g4,Bool.false_or] at hno
   refine zae ?_
   exact ih (i+1) _ _ ⟨g1,by rw[if_pos rfl];exact hno⟩ (by omega) ⟨rfl,rfl,rfl,hi1,trivial⟩ rfl ⟨rfl,rfl,trivial⟩ rfl rfl
end Go.AI


namespace Go.AI
open Go.Proofs
set_option maxRecDepth 20000
def cpE (m:Mdl) (w:Int):List ByteArray→List (ByteArray × Bool)→Int
 | _,[]=>0
 | b,p::l=>if nmIx (m.comps.map (·.name)) p.1<0 then 9 else if nmIx b p.1 ≥ 0 then 8 else if p.2=false then w else cpE m w (b++[p.1]) l
theorem zju (O:List Heap) (m:Mdl) (w:Int) (l:List (ByteArray × Bool)) (hm:mdlOk m) (hl:l.length≤1000000) :
  zan Tryz.prog 130 [mdlD m,.i (.sl 1 l.length (l.map fun p=>[strI p.1])),.i (.sl 1 l.length (l.map fun p=>[bI p.2])),ii w] O (ii (if l.length=0 then 12 else cpE m w [] l)) [] O:=by
 have h4:=fun O=>zj8 O m hm.co
 have h5:=fun O s=>zcc O (m.comps.map (·.name)) s (by rw[List.length_map];exact hm.co)
 generalize hR:cpE m w [] l=R
 refine zaa Tk Tryz.func130 rfl Tryz.call130 Tryz.ntmps130 (Nat.le_of_ble_eq_true rfl) fun E=>?_
 refine zah Tk Tryz.func130 ?_
 refine zag Tk Tryz.func130 rfl (fun c0=>?_) (fun c0=>?_)
 ·have c0:l.length=0:=by simpa using c0
  rw[if_pos c0]
  refine zaf Tk (r:=ii 12) rfl rfl rfl trivial rfl rfl ?_
  rfl
 have c0:¬ l.length=0:=by simpa using c0
 rw[if_neg c0]
 refine zae ?_
 refine zaj (fun i:Nat=>[(1,.i (.sl 1 l.length (l.map fun p=>[strI p.1]))),(2,.i (.sl 1 l.length (l.map fun p=>[bI p.2]))),(3,ii w),(4,.own 0 4 0 0),(9,ii i)]) (fun _=>[(4,.box (mdlC m))]) (fun _=>O) 42
  (fun i=>i≤l.length∧cpE m w ((l.take i).map (·.1)) (l.drop i)=R) (fun i=>l.length - i) 0 ⟨Nat.zero_le _,hR⟩ ⟨rfl,rfl,rfl,rfl,rfl,trivial⟩ rfl ⟨rfl,trivial⟩ rfl rfl ?_
 rintro i ⟨hi,hno⟩ ih
 clear hR
 refine zah Tk Tryz.func130 ?_
 refine zag Tk Tryz.func130 rfl (fun g1=>?_) (fun g1=>?_)
 ·have g1:i<l.length:=by simpa using g1
  have gs:(l.map fun p=>[strI p.1])[(i:Int).toNat]? = some [strI l[i].1]:=zam (f:=fun p:ByteArray × Bool=>[strI p.1]) g1
  have gb:(l.map fun p=>[bI p.2])[(i:Int).toNat]? = some [bI l[i].2]:=zam (f:=fun p:ByteArray × Bool=>[bI p.2]) g1
  have ht:(l.take (i+1)).map (·.1)=(l.take i).map (·.1)++[l[i].1]:=zaJ (fun p:ByteArray × Bool=>p.1) g1
  rw[List.drop_eq_getElem_cons g1] at hno
  simp only[cpE,← ht] at hno
  have hi1:=fun O=>h5 O l[i].1
  have hi2:∀ O,zan Tryz.prog 39 [.i (.sl 1 (i:Int).toNat ((l.map fun p=>[strI p.1]).take (i:Int).toNat)),sD l[i].1] O (ii (nmIx ((l.take i).map (·.1)) l[i].1)) [] O:=fun O=>by
   have h:=zcc O ((l.take i).map (·.1)) l[i].1 (by rw[List.length_map,List.length_take];omega)
   have e:ssD ((l.take i).map (·.1)) = .i (.sl 1 (i:Int).toNat ((l.map fun p=>[strI p.1]).take (i:Int).toNat)):=by
    rw[Int.toNat_natCast,← List.map_take]
    show D.i (.sl 1 ((l.take i).map (·.1)).length (((l.take i).map (·.1)).map fun s=>[strI s]))=_
    rw[List.map_map,List.length_map,List.length_take,Nat.min_eq_left hi]
    rfl
   rwa [e] at h
  generalize nmIx (m.comps.map (·.name)) l[i].1=q1 at *
  generalize nmIx ((l.take i).map (·.1)) l[i].1=q2 at *
  generalize l[i]=p at *
  obtain⟨s,r⟩:=p
  simp only at hi1 hi2 hno gs gb
  refine zas Tk Tryz.func130 zax rfl ?_
  refine zaD Tk (fun _=>h4 _) rfl rfl rfl ?_
  refine zap Tk (by exact⟨by omega,by show (i:Int)<(l.length:Int);omega⟩) ?_
  refine zaz Tk (gs) ?_
  refine zaD Tk (fun _=>hi1 _) rfl rfl rfl ?_
  refine zaA Tk Tryz.func130 (by kernel_rfl) ?_
  refine zag Tk Tryz.func130 rfl (fun c2=>?_) (fun c2=>?_)
  ·have c2:q1<0:=of_decide_eq_true c2
   rw[if_pos c2] at hno
   subst hno
   refine zaf Tk (r:=ii 9) rfl rfl rfl trivial rfl rfl ?_
   rfl
  have c2:¬ q1<0:=of_decide_eq_false c2
  rw[if_neg c2] at hno
  refine zas Tk Tryz.func130 zax rfl ?_
  refine zap Tk (by exact⟨by omega,by show (i:Int)≤(l.length:Int);omega⟩) ?_
  refine zap Tk (by exact⟨by omega,by show (i:Int)<(l.length:Int);omega⟩) ?_
  refine zaz Tk (gs) ?_
  refine zaD Tk (fun _=>hi2 _) rfl rfl rfl ?_
  refine zaA Tk Tryz.func130 (by kernel_rfl) ?_
  refine zag Tk Tryz.func130 rfl (fun c3=>?_) (fun c3=>?_)
  ·have c3:q2 ≥ 0:=of_decide_eq_true c3
   rw[if_pos c3] at hno
   subst hno
   refine zaf Tk (r:=ii 8) rfl rfl rfl trivial rfl rfl ?_
   rfl
  have c3:¬ q2 ≥ 0:=of_decide_eq_false c3
  rw[if_neg c3] at hno
  refine zai Tk Tryz.func130 (by exact⟨by omega,by show (i:Int)<(l.length:Int);omega⟩) ?_
  refine zar Tk Tryz.func130 (gb) ?_
  refine zag Tk Tryz.func130 rfl (fun c4=>?_) (fun c4=>?_)
  ·have c4:r=false:=by simpa using c4
   rw[if_pos c4] at hno
   subst hno
   refine zaf Tk (r:=ii w) rfl rfl rfl trivial rfl rfl ?_
   rfl
  have c4:¬ r=false:=by simpa using c4
  rw[if_neg c4] at hno
  refine zae ?_
  exact ih (i+1) _ _ ⟨g1,hno⟩ (by omega) ⟨rfl,rfl,rfl,rfl,congrArg ii (zay (n:=1000001) (by omega) (by decide)),trivial⟩ rfl ⟨rfl,trivial⟩ rfl rfl
 ·have g1:l.length≤i:=by simpa using g1
  rw[List.drop_eq_nil_of_le g1] at hno
  have hno:(0:Int)=R:=hno
  subst hno
  refine zaf Tk (r:=ii 0) rfl rfl rfl trivial rfl rfl ?_
  rfl
end Go.AI


namespace Go.AI
def zbR (m:Mdl) (x:NLc):Bool:=match m.comps.find? (fun c=>sB c.name x.1) with
 | none=>false
 | some c=>match zbV m c with
  | none=>false
  | some t=>decide (nmIx t.locs x.2 ≥ 0)
def zbC (x:NTm):Bool:=decide (x.2≠0) && decide (x.2 ≥ -65536) && decide (x.2≤65536)
theorem zkG (l:List Ins) (s:ByteArray):l.find? (fun c=>sB c.name s)=none ↔ nmIx (l.map (·.name)) s<0:=by
 rcases zdz Ins.name l s with ⟨h1,h2⟩ | ⟨k,e,h1,h2,h3⟩
 ·rw[h1,h2];simp
 ·rw[h2,h3]
  constructor
  ·intro h;cases h
  ·intro h;omega
theorem zsw (m:Mdl):∀ (l:List NLc) (b:List ByteArray),lcsE m b l=cpE m 9 b (l.map fun x=>(x.1,zbR m x))
 | [],_=>rfl
 | x::r,b=>by
  have ih:=zsw m r (b++[x.1])
  have h1:=zkG m.comps x.1
  simp only[lcsE,List.map_cons,cpE,zbR]
  cases hf:m.comps.find? (fun c=>sB c.name x.1) with
  | none=>
   rw[hf] at h1
   simp only[true_iff] at h1
   rw[if_pos h1]
  | some c=>
   rw[hf] at h1
   simp only[reduceCtorEq,false_iff] at h1
   rw[if_neg h1]
   simp only
   rw[zdT]
   by_cases h2:nmIx b x.1 ≥ 0
   ·rw[if_pos (by simpa using h2),if_pos h2]
   rw[if_neg (by simpa using h2),if_neg h2]
   have hT:zbV m c=none∨∃ t,zbV m c=some t:=by
    generalize zbV m c=o
    cases o with
    | none=>exact .inl rfl
    | some t=>exact .inr ⟨t,rfl⟩
   rcases hT with ht | ⟨t,ht⟩
   ·simp only[ht,if_true]
   ·simp only[ht,zdT]
    by_cases h3:nmIx t.locs x.2 ≥ 0
    ·rw[if_neg (by simpa using h3),if_neg (by simpa using h3),ih]
     simp only[zbR]
    ·rw[if_pos (by simpa using h3),if_pos (by simpa using h3)]
theorem zxX (m:Mdl) (x:NEx):excE m x=if (x.locals.map fun y=>(y.1,zbR m y)).length=0 then 12 else cpE m 9 [] (x.locals.map fun y=>(y.1,zbR m y)):=by
 unfold excE
 rw[List.length_map,zsw]
theorem zrt (m:Mdl):∀ (l:List NTm) (b:List ByteArray),tmsE m b l=cpE m 2 b (l.map fun x=>(x.1,zbC x))
 | [],_=>rfl
 | x::r,b=>by
  have ih:=zrt m r (b++[x.1])
  simp only[tmsE,List.map_cons,cpE,zdT]
  by_cases h1:nmIx (m.comps.map (·.name)) x.1<0
  ·rw[if_pos (by simp;omega),if_pos h1]
  rw[if_neg (by simp;omega),if_neg h1]
  by_cases h2:nmIx b x.1 ≥ 0
  ·rw[if_pos (by simpa using h2),if_pos h2]
  rw[if_neg (by simpa using h2),if_neg h2]
  have e:(x.2=0∨bigB x.2=true) ↔ zbC x=false:=by
   unfold bigB zbC
   simp only[Bool.or_eq_true,decide_eq_true_eq,Bool.and_eq_false_iff,decide_eq_false_iff_not]
   omega
  by_cases h3:x.2=0∨bigB x.2=true
  ·rw[if_pos h3,if_pos (e.1 h3)]
  ·rw[if_neg h3,if_neg fun h=>h3 (e.2 h),ih]
end Go.AI


namespace Go.AI
open Go.Proofs
def lwAl (N evs:List ByteArray):List Int:=((List.range N.length).filter fun e=>decide (nmIx evs (N.getD e ⟨#[]⟩) ≥ 0)).map fun e=>((e:Nat):Int)
def lwK (N evs:List ByteArray) (e:Int):Int:=nmIx evs (N.getD e.toNat ⟨#[]⟩)
def lwMv (N evs:List ByteArray) (mv:List Mv) (s e:Int):List Mv:=(mv.filter fun y=>decide (y.frm=s) && decide (y.ev=lwK N evs e)).map fun y=>{ y with ev:=e }
def zi4 (N evs:List ByteArray) (mv:List Mv) (al:List Int) (n:Nat):List Mv:=(List.range n).flatMap fun s:Nat=>al.flatMap fun e=>lwMv N evs mv (s:Int) e
def lwM (m:Mdl) (x:Ins) (t:Tpl):Ext:={ alpha:=lwAl (m.evs.map (·.name)) x.evs,locs:=t.mach.locs,init:=t.mach.init,marked:=t.mach.marked,vars:=t.mach.vars,moves:=zi4 (m.evs.map (·.name)) x.evs t.mach.moves (lwAl (m.evs.map (·.name)) x.evs) t.mach.locs.toNat }
abbrev ltM (x y:Mv):Prop:=x.frm<y.frm∨x.frm=y.frm∧x.ev<y.ev
def keyM (p:Int × Int) (y:Mv):Bool:=decide (y.frm=p.1) && decide (y.ev=p.2)
def ltP (p q:Int × Int):Prop:=p.1<q.1∨p.1=q.1∧p.2<q.2
theorem ze8 {p:Int × Int} {y:Mv}:keyM p y=true ↔ y.frm=p.1∧y.ev=p.2:=by
 unfold keyM
 rw[Bool.and_eq_true,decide_eq_true_eq,decide_eq_true_eq]
theorem zfe {α β:Type} {f g:α→List β}:∀ {l:List α},(∀ x∈l,f x=g x)→l.flatMap f=l.flatMap g
 | [],_=>rfl
 | x::r,h=>by rw[List.flatMap_cons,List.flatMap_cons,h x (by simp),zfe fun y hy=>h y (by simp[hy])]
theorem zfC (x:Mv):∀ (A B:List Mv),(∀ y∈A,¬ ltM x y)→zcF x (A++B)=A++zcF x B
 | [],_,_=>rfl
 | y::A,B,h=>by
  have ih:=zfC x A B fun z hz=>h z (by simp[hz])
  have h1:¬ (x.frm<y.frm∨x.frm=y.frm∧x.ev<y.ev):=h y (by simp)
  simp only[List.cons_append,zcF,if_neg h1,ih]
theorem zqg (x:Mv):∀ (B:List Mv),(∀ y∈B,ltM x y)→zcF x B=x::B
 | [],_=>rfl
 | y::B,h=>by
  have h1:x.frm<y.frm∨x.frm=y.frm∧x.ev<y.ev:=h y (by simp)
  simp only[zcF,if_pos h1]
theorem zic (x:Mv):∀ (K:List (Int × Int)) (l:List Mv),K.Pairwise ltP→(x.frm,x.ev)∈K→zcF x (K.flatMap fun p=>l.filter (keyM p))=K.flatMap fun p=>(l++[x]).filter (keyM p)
 | [],_,_,h=>by simp at h
 | p::K,l,hK,h=>by
  obtain⟨h1,h2⟩:=List.pairwise_cons.1 hK
  rw[List.flatMap_cons,List.flatMap_cons]
  by_cases e:(x.frm,x.ev)=p
  ·subst e
   have e1:(l++[x]).filter (keyM (x.frm,x.ev))=l.filter (keyM (x.frm,x.ev))++[x]:=by simp[List.filter_append,keyM]
   have e2:(K.flatMap fun p=>(l++[x]).filter (keyM p))=K.flatMap fun p=>l.filter (keyM p):=by
    refine zfe fun q hq=>?_
    have h3:=h1 q hq
    have h4:keyM q x=false:=by
     rw[Bool.eq_false_iff]
     intro h5
     rw[ze8] at h5
     unfold ltP at h3
     simp only at h3
     omega
    rw[List.filter_append,List.filter_cons_of_neg (by rw[h4];decide),List.filter_nil,List.append_nil]
   rw[e1,e2,zfC x _ _ fun y hy=>?_,zqg x _ fun y hy=>?_]
   ·simp
   ·obtain⟨q,hq,hy⟩:=List.mem_flatMap.1 hy
    have h5:=ze8.1 (List.mem_filter.1 hy).2
    have h3:=h1 q hq
    unfold ltP at h3
    simp only at h3
    unfold ltM
    omega
   ·have h5:=ze8.1 (List.mem_filter.1 hy).2
    unfold ltM
    simp only at h5
    omega
  ·have hm:(x.frm,x.ev)∈K:=by
    rcases List.mem_cons.1 h with h | h
    ·exact absurd h e
    ·exact h
   have h3:=h1 _ hm
   unfold ltP at h3
   simp only at h3
   have h4:keyM p x=false:=by
    rw[Bool.eq_false_iff]
    intro h5
    rw[ze8] at h5
    omega
   rw[zfC x _ _ fun y hy=>?_,zic x K l h2 hm]
   ·rw[List.filter_append,List.filter_cons_of_neg (by rw[h4];decide),List.filter_nil,List.append_nil]
   ·have h5:=ze8.1 (List.mem_filter.1 hy).2
    unfold ltM
    omega
theorem zhT {K:List (Int × Int)} (hK:K.Pairwise ltP):∀ (r acc:List Mv),(∀ x∈r,(x.frm,x.ev)∈K)→r.foldl (fun acc x=>zcF x acc) (K.flatMap fun p=>acc.filter (keyM p))=K.flatMap fun p=>(acc++r).filter (keyM p)
 | [],acc,_=>by simp
 | x::r,acc,h=>by
  rw[List.foldl_cons,zic x K acc hK (h x (by simp)),zhT hK r (acc++[x]) fun y hy=>h y (by simp[hy]),List.append_assoc]
  rfl
theorem zpG {K:List (Int × Int)} (hK:K.Pairwise ltP) {l:List Mv} (h:∀ x∈l,(x.frm,x.ev)∈K):zdA l=K.flatMap fun p=>l.filter (keyM p):=by
 have h1:=zhT hK l [] h
 have h2:(K.flatMap fun p=>([]:List Mv).filter (keyM p))=[]:=by
  induction K with
  | nil=>rfl
  | cons p K ih=>simp
 rw[h2] at h1
 exact h1
theorem zfw (l:List ByteArray) (s:ByteArray):(nmIx l s = -1∧s ∉ l)∨∃ k,l[k]? = some s∧nmIx l s=((k:Nat):Int):=by
 rcases zdU (p:=fun x=>sB x s) l 0 with ⟨h1,h2⟩ | ⟨k,e,h1,h2,h3⟩
 ·refine .inl ⟨h2,fun hm=>?_⟩
  have:=List.find?_eq_none.1 h1 s hm
  exact this (zep.2 rfl)
 ·have:=List.find?_some h2
  have:=zep.1 this
  subst this
  exact .inr ⟨k,h1,by unfold nmIx;rw[h3,Nat.zero_add]⟩
theorem zve {α:Type} {l:List α} (h:l.Nodup) {i j:Nat} {s:α} (hi:l[i]? = some s) (hj:l[j]? = some s):i=j:=by
 obtain⟨hi1,hi2⟩:=List.getElem?_eq_some_iff.1 hi
 obtain⟨hj1,hj2⟩:=List.getElem?_eq_some_iff.1 hj
 have hp:=List.pairwise_iff_getElem.1 h
 rcases Nat.lt_trichotomy i j with c | c | c
 ·exact absurd (hi2.trans hj2.symm) (hp i j hi1 hj1 c)
 ·exact c
 ·exact absurd (hj2.trans hi2.symm) (hp j i hj1 hi1 c)
theorem znG {l:List ByteArray} (h:l.Nodup) {s:ByteArray} {k:Nat}:nmIx l s=(k:Int) ↔ l[k]? = some s:=by
 rcases zfw l s with ⟨h1,h2⟩ | ⟨j,h1,h2⟩
 ·constructor
  ·intro e;omega
  ·intro e;exact absurd (List.mem_of_getElem? e) h2
 ·constructor
  ·intro e
   rw[h2] at e
   have:j=k:=by omega
   rw[← this];exact h1
  ·intro e
   rw[h2,zve h h1 e]
theorem znF {l:List ByteArray} {s:ByteArray}:nmIx l s ≥ 0 ↔ s∈l:=by
 rcases zfw l s with ⟨h1,h2⟩ | ⟨j,h1,h2⟩
 ·constructor
  ·intro e;omega
  ·intro e;exact absurd e h2
 ·exact⟨fun _=>List.mem_of_getElem? h1,fun _=>by omega⟩
theorem zji {N:List ByteArray} (h:N.Nodup) {s:ByteArray} (hs:s∈N) {k:Nat}:fndI N s=(k:Int) ↔ N[k]? = some s:=by
 have:=znF.2 hs
 unfold fndI
 rw[if_neg (by omega)]
 exact znG h
theorem zkD {N:List ByteArray} {s:ByteArray} (hs:s∈N):∃ k,N[k]? = some s∧fndI N s=((k:Nat):Int):=by
 rcases zfw N s with ⟨h1,h2⟩ | ⟨j,h1,h2⟩
 ·exact absurd hs h2
 ·refine⟨j,h1,?_⟩
  unfold fndI
  rw[if_neg (by omega)]
  exact h2
theorem zkq {m:Mdl}:∀ {l b:List ByteArray},zcQ m b l=0→(∀ s∈l,s∈m.evs.map (·.name)∧s ∉ b)∧l.Nodup
 | [],_,_=>⟨by simp,by simp⟩
 | s::r,b,h=>by
  simp only[zcQ] at h
  by_cases h1:hasB (m.evs.map (·.name)) s=false
  ·rw[if_pos h1] at h;cases h
  rw[if_neg h1] at h
  by_cases h2:hasB b s=true
  ·rw[if_pos h2] at h;cases h
  rw[if_neg h2] at h
  obtain⟨h3,h4⟩:=zkq h
  refine⟨fun x hx=>?_,?_⟩
  ·rcases List.mem_cons.1 hx with rfl | hx
   ·exact⟨zgg.1 (by simpa using h1),zjd h2⟩
   ·exact⟨(h3 x hx).1,fun hb=>(h3 x hx).2 (by simp[hb])⟩
  ·rw[List.nodup_cons]
   exact⟨fun hm=>(h3 s hm).2 (by simp),h4⟩
theorem zi6 {N evs:List ByteArray} {a:Int}:a∈lwAl N evs ↔ ∃ (e:Nat) (s:ByteArray),a=(e:Int)∧N[e]? = some s∧s∈evs:=by
 unfold lwAl
 simp only[List.mem_map,List.mem_filter,List.mem_range,decide_eq_true_eq,znF]
 constructor
 ·rintro ⟨e,⟨h1,h2⟩,rfl⟩
  refine⟨e,N[e],rfl,List.getElem?_eq_getElem h1,?_⟩
  rwa [List.getD_eq_getElem?_getD,List.getElem?_eq_getElem h1] at h2
 ·rintro ⟨e,s,rfl,h1,h2⟩
  refine⟨e,⟨(List.getElem?_eq_some_iff.1 h1).1,?_⟩,rfl⟩
  rw[List.getD_eq_getElem?_getD,h1]
  exact h2
theorem zsr (N evs:List ByteArray):(lwAl N evs).Pairwise (· < ·):=by
 unfold lwAl
 rw[List.pairwise_map]
 refine List.Pairwise.filter _ ?_
 exact List.pairwise_lt_range.imp fun h=>by omega
theorem zrB {N evs:List ByteArray} (hN:N.Nodup) (he:evs.Nodup) (hs:∀ s∈evs,s∈N):srtZ (evs.map fun s=>fndI N s)=lwAl N evs:=by
 have hnd:(evs.map fun s=>fndI N s).Nodup:=by
  unfold List.Nodup
  rw[List.pairwise_map]
  refine List.Pairwise.imp_of_mem (fun {a b} ha hb hne e=>hne ?_) he
  obtain⟨k,h1,h2⟩:=zkD (hs a ha)
  rw[h2] at e
  have:=(zji hN (hs b hb)).1 e.symm
  rw[h1] at this
  exact Option.some.inj this
 refine zhV ?_ (zsr N evs) fun a=>?_
 ·have h1:=zlb (evs.map fun s=>fndI N s)
  have h2:(srtZ (evs.map fun s=>fndI N s)).Pairwise (· ≠ ·):=(zc1 _).nodup_iff.2 hnd
  exact (h1.and h2).imp fun h=>by omega
 ·rw[(zc1 _).mem_iff,zi6,List.mem_map]
  constructor
  ·rintro ⟨s,h1,rfl⟩
   obtain⟨k,h2,h3⟩:=zkD (hs s h1)
   exact⟨k,s,h3,h2,h1⟩
  ·rintro ⟨e,s,rfl,h1,h2⟩
   exact⟨s,h2,(zji hN (hs s h2)).2 h1⟩
theorem zyZ {N evs:List ByteArray} (hN:N.Nodup) (he:evs.Nodup) (hs:∀ s∈evs,s∈N) {a y:Int} (ha:a∈lwAl N evs) (hy:0≤y∧y<(evs.length:Int)):(evs.map fun s=>fndI N s).getD y.toNat 0=a ↔ y=lwK N evs a:=by
 obtain⟨e,s,rfl,h1,h2⟩:=zi6.1 ha
 have hj:y.toNat<evs.length:=by omega
 have hg:evs[y.toNat]? = some evs[y.toNat]:=List.getElem?_eq_getElem hj
 have hmem:evs[y.toNat]∈evs:=List.getElem_mem hj
 have e1:(evs.map fun s=>fndI N s).getD y.toNat 0=fndI N evs[y.toNat]:=by
  rw[List.getD_eq_getElem?_getD,List.getElem?_map,hg];rfl
 have e2:lwK N evs (e:Int)=nmIx evs s:=by
  unfold lwK
  rw[Int.toNat_natCast,List.getD_eq_getElem?_getD,h1];rfl
 rw[e1,e2,zji hN (hs _ hmem)]
 have e3:y=nmIx evs s ↔ nmIx evs s=((y.toNat:Nat):Int):=by
  rw[Int.toNat_of_nonneg hy.1]
  exact eq_comm
 rw[e3,znG he,h1,hg]
 constructor
 ·intro h;exact h.symm
 ·intro h;exact h.symm
theorem zeu {α β:Type} {p q:α→Bool} {f g:α→β}:∀ {l:List α},(∀ x∈l,p x=q x)→(∀ x∈l,p x=true→f x=g x)→(l.filter p).map f=(l.filter q).map g
 | [],_,_=>rfl
 | x::r,h1,h2=>by
  have ih:=zeu (l:=r) (fun y hy=>h1 y (by simp[hy])) fun y hy=>h2 y (by simp[hy])
  have hx:=h1 x (by simp)
  by_cases c:p x=true
  ·rw[List.filter_cons_of_pos c,List.filter_cons_of_pos (by rw[← hx];exact c),List.map_cons,List.map_cons,ih,h2 x (by simp) c]
  ·rw[List.filter_cons_of_neg c,List.filter_cons_of_neg (by rw[← hx];exact c),ih]
theorem zxB {m:Mdl} {x:Ins} {t:Tpl} (h:mchOk m x t) (hi:zcQ m [] x.evs=0) (hN:(m.evs.map (·.name)).Nodup):mchE m x t=lwM m x t:=by
 obtain⟨hs,he⟩:=zkq hi
 have hs:∀ s∈x.evs,s∈m.evs.map (·.name):=fun s h=>(hs s h).1
 have hmv:=h.right.mv
 have hevb:∀ y∈t.mach.moves,0≤y.ev∧y.ev<(x.evs.length:Int):=by
  intro y hy
  have:=(hmv y hy).ev
  rw[h.alpha] at this
  simp only[List.mem_map,List.mem_range] at this
  obtain⟨j,hj,e⟩:=this
  rw[h.len]
  omega
 have hloc:=h.right.locs
 unfold mchE lwM
 simp only
 generalize m.evs.map (·.name)=N at *
 have ha:=zrB hN he hs
 rw[ha]
 have hmem:∀ y∈t.mach.moves,(x.evs.map fun s=>fndI N s).getD y.ev.toNat 0∈lwAl N x.evs:=by
  intro y hy
  have:=hevb y hy
  rw[← ha,(zc1 _).mem_iff]
  exact zgh (by rw[List.length_map];omega)
 have hK:((List.range t.mach.locs.toNat).flatMap fun s=>(lwAl N x.evs).map fun e=>(((s:Nat):Int),e)).Pairwise ltP:=by
  rw[List.pairwise_flatMap]
  refine⟨fun s _=>?_,?_⟩
  ·rw[List.pairwise_map]
   exact (zsr N x.evs).imp fun h=>.inr ⟨rfl,h⟩
  ·refine List.pairwise_lt_range.imp fun {a b} h=>?_
   intro p hp q hq
   obtain⟨_,_,rfl⟩:=List.mem_map.1 hp
   obtain⟨_,_,rfl⟩:=List.mem_map.1 hq
   exact .inl (by show (a:Int)<(b:Int);omega)
 have hin:∀ y∈t.mach.moves.map (fun y=>({ y with ev:=(x.evs.map fun s=>fndI N s).getD y.ev.toNat 0 }:Mv)),(y.frm,y.ev)∈((List.range t.mach.locs.toNat).flatMap fun s=>(lwAl N x.evs).map fun e=>(((s:Nat):Int),e)):=by
  intro z hz
  obtain⟨y,hy,rfl⟩:=List.mem_map.1 hz
  have hf:=(hmv y hy).frm
  rw[List.mem_flatMap]
  refine⟨y.frm.toNat,List.mem_range.2 (by omega),List.mem_map.2 ⟨_,hmem y hy,?_⟩⟩
  rw[Int.toNat_of_nonneg hf.1]
 rw[zpG hK hin]
 have e1:∀ L:List Mv,(((List.range t.mach.locs.toNat).flatMap fun s=>(lwAl N x.evs).map fun e=>(((s:Nat):Int),e)).flatMap fun p=>L.filter (keyM p))=(List.range t.mach.locs.toNat).flatMap fun s=>(lwAl N x.evs).flatMap fun e=>L.filter (keyM (((s:Nat):Int),e)):=by
  intro L
  rw[List.flatMap_assoc]
  refine zfe fun s _=>?_
  rw[List.flatMap_map]
 rw[e1]
 unfold zi4
 congr 1
 refine zfe fun s _=>zfe fun e hme=>?_
 rw[List.filter_map]
 unfold lwMv
 refine zeu (fun y hy=>?_) fun y hy hp=>?_
 ·have:=zyZ hN he hs hme (hevb y hy)
  show (decide (y.frm=(s:Int)) && decide ((x.evs.map fun s=>fndI N s).getD y.ev.toNat 0=e))=_
  rw[decide_eq_decide.2 this]
 ·have hp:(decide (y.frm=(s:Int)) && decide ((x.evs.map fun s=>fndI N s).getD y.ev.toNat 0=e))=true:=hp
  rw[Bool.and_eq_true,decide_eq_true_eq,decide_eq_true_eq] at hp
  show ({ y with ev:=(x.evs.map fun s=>fndI N s).getD y.ev.toNat 0 }:Mv) = { y with ev:=e }
  rw[hp.2]
theorem zqo:(evs4.map (·.name)).Nodup:=by
 unfold evs4
 simp only[List.map_cons,List.map_nil,List.nodup_cons,List.mem_cons,List.mem_nil_iff,or_false,not_or,not_false_eq_true,List.nodup_nil,and_true,true_and]
 decide
end Go.AI


namespace Go.AI
open Go.Proofs
set_option maxRecDepth 20000
abbrev obs (l:List Bool):Ob:=.arr 4 1 l.length (l.map fun b=>[bI b]) true
theorem ze2 (l:List Bool) (b:Bool):Ob.arr 4 1 (l.length+1) ((l.map fun b=>[bI b])++[[bI b]]) true=obs (l++[b]):=by simp[obs]
theorem zkS (O:List Heap) (m:Mdl) (w:Int) {α:Type} (L:List α) (f:α→ByteArray) (g:α→Bool) (hm:mdlOk m) (hl:L.length≤1000000) :
  zan Tryz.prog 130 [mdlD m,ssD (L.map f),.i (.sl 1 (L.map g).length ((L.map g).map fun b=>[bI b])),ii w] O (ii (if (L.map fun y=>(f y,g y)).length=0 then 12 else cpE m w [] (L.map fun y=>(f y,g y)))) [] O:=by
 have h:=zju O m w (L.map fun y=>(f y,g y)) hm (by rw[List.length_map];exact hl)
 simp only[List.map_map,List.length_map] at h ⊢
 have e:ssD (L.map f) = .i (.sl 1 L.length (L.map fun y=>[strI (f y)])):=by
  show D.i (.sl 1 (L.map f).length ((L.map f).map fun s=>[strI s]))=_
  rw[List.map_map,List.length_map]
  rfl
 rw[e]
 exact h
theorem zlJ (O:List Heap) (m:Mdl) (i:Nat) (hi:i<m.excs.length) (hm:mdlOk m) (ht:∀ c∈m.comps,∃ t,zbV m c=some t) :
  zan Tryz.prog 52 [mdlD m,ii i] O (ii (if nmE ((m.excs.map (·.name)).take i) m.excs[i].name≠0 then nmE ((m.excs.map (·.name)).take i) m.excs[i].name else excE m m.excs[i])) [] O:=by
 have hex:=hm.ex
 have hx:=hm.exk m.excs[i] (List.getElem_mem hi)
 have hn:=fun O=>zsh O m hex
 have hf:=fun O=>zfa O (m.excs.map (·.name)) i (by rw[List.length_map];exact hi) (by rw[List.length_map];exact hex) (fun s hs=>by
  obtain⟨t,ht,rfl⟩:=List.mem_map.1 hs
  exact (hm.exk t ht).1)
 rw[List.getElem_map] at hf
 have gt:(m.excs.map nexI)[(i:Int).toNat]? = some (nexI m.excs[i]):=zam (f:=nexI) hi
 have hw:IntKind.i64.wrap ((i:Int)+1)=((i+1:Nat):Int):=zay (n:=1000001) (by omega) (by decide)
 have h4:=fun O=>zj8 O m hm.co
 have h5:=fun O s=>zcc O (m.comps.map (·.name)) s (by rw[List.length_map];exact hm.co)
 have hT:=fun O x t h=>zdF O m x t hm.toszOk h
 have h130:=fun O=>zkS O m 9 m.excs[i].locals (·.1) (zbR m) hm hx.2
 have hlocs:∀ c t,zbV m c=some t→t.locs.length≤1000000:=fun c t h=>(hm.tpk t (List.mem_of_find?_eq_some h)).ll
 have hco:=hm.co
 have hxl:=hx.2
 rw[zxX]
 have hNl:(m.excs.map (·.name)).length=m.excs.length:=List.length_map _
 generalize nmE ((m.excs.map (·.name)).take i) m.excs[i].name=e0 at *
 generalize m.excs[i]=x at *
 generalize m.excs.map (·.name)=N at *
 obtain⟨xn,L⟩:=x
 simp only at h130 hxl gt ⊢
 generalize (if (L.map fun y=>(y.1,zbR m y)).length=0 then (12:Int) else cpE m 9 [] (L.map fun y=>(y.1,zbR m y)))=R at *
 clear hx hm
 refine zaM [13] Tk Tryz.func52 rfl Tryz.call52 Tryz.ntmps52 (Nat.le_of_ble_eq_true rfl) fun E=>?_
 refine zah Tk Tryz.func52 ?_
 refine zak Tk Tryz.func52 (hn _) rfl rfl rfl rfl rfl ?_
 refine zai Tk Tryz.func52 (by exact⟨by rw[hw];omega,by show IntKind.i64.wrap ((i:Int)+1)≤(N.length:Int);rw[hw];omega⟩) ?_
 refine zak Tk Tryz.func52 (hf _) rfl rfl rfl rfl rfl ?_
 refine zag Tk Tryz.func52 rfl (fun c0=>?_) (fun c0=>?_)
 ·have c0:e0≠0:=bneT c0
  rw[if_pos c0]
  refine zaf Tk (r:=ii e0) rfl rfl rfl trivial rfl rfl ?_
  rfl
 have c0:¬ e0≠0:=fun h=>h (bneF c0)
 rw[if_neg c0]
 refine zai Tk Tryz.func52 (by exact⟨by omega,by show (i:Int)<(m.excs.length:Int);omega⟩) ?_
 refine zar Tk Tryz.func52 (gt) ?_
 refine g_wk (zbm 6 40 9 1 rfl rfl rfl) ?_
 refine g_wk (zbm 7 60 4 1 rfl rfl rfl) ?_
 refine zae ?_
 refine zaj (fun j:Nat=>[(2,.own 0 2 0 0),(6,.osl 0 40),(7,.osl 0 60),(25,.i (.sl 2 L.length (L.map nlcI))),(26,ii L.length),(27,ii j)]) (fun j=>[(2,.box (mdlC m)),(40,oss ((L.take j).map (·.1))),(60,obs ((L.take j).map (zbR m)))]) (fun _=>O) 66
  (fun j=>j≤L.length) (fun j=>L.length - j) 0 (Nat.zero_le _) ⟨rfl,rfl,rfl,rfl,rfl,rfl,trivial⟩ rfl ⟨rfl,rfl,rfl,trivial⟩ rfl rfl ?_
 intro j hj ih
 have hj:j≤L.length:=hj
 have hll:((L.take j).map (·.1)).length≤1000000:=by rw[List.length_map,List.length_take];omega
 have hll2:((L.take j).map (zbR m)).length≤1000000:=by rw[List.length_map,List.length_take];omega
 refine zah Tk Tryz.func52 ?_
 refine zag Tk Tryz.func52 rfl (fun g1=>?_) (fun g1=>?_)
 ·have g1:j<L.length:=by simpa using g1
  have gs:(L.map nlcI)[(j:Int).toNat]? = some (nlcI L[j]):=zam (f:=nlcI) g1
  have t1:=zaJ (fun y:NLc=>y.1) g1
  have t2:=zaJ (zbR m) g1
  have hj1:ii (IntKind.i64.wrap ((j:Int)+1))=ii ((j+1:Nat):Int):=congrArg ii (zay (n:=1000001) (by omega) (by decide))
  have h5':=fun O=>h5 O L[j].1
  have hfk:=zdz Ins.name m.comps L[j].1
  unfold zbR at t2
  generalize (L.take j).map (·.1)=A at *
  change _=((L.take j).map (zbR m))++_ at t2
  change ((L.take (j+1)).map (zbR m))=_ at t2
  generalize (L.take j).map (zbR m)=B at *
  generalize L[j]=y at *
  obtain⟨yc,yl⟩:=y
  simp only at h5' hfk t1 t2
  refine zai Tk Tryz.func52 (by exact⟨by omega,by show (j:Int)<(L.length:Int);omega⟩) ?_
  refine zar Tk Tryz.func52 (gs) ?_
  rcases hfk with ⟨f1,f2⟩ | ⟨k,c,f1,f2,f3⟩
  ·have f2:nmIx (m.comps.map (·.name)) yc = -1:=f2
   rw[f2] at h5'
   rw[f1] at t2
   simp only at t2
   refine zas Tk Tryz.func52 zax rfl ?_
   refine zaD Tk (fun _=>h4 _) rfl rfl rfl ?_
   refine zaD Tk (fun _=>h5' _) rfl rfl rfl ?_
   refine zaA Tk Tryz.func52 (by kernel_rfl) ?_
   refine zai Tk Tryz.func52 (by exact⟨by show (A.length+1) * 16≤140737488355328;omega,by show A.length+1≤9223372036854775807;omega⟩) ?_
   refine zas Tk Tryz.func52 zax rfl ?_
   refine skF Tk ?_
   refine zdZ Tk Tryz.func52 ([19,20]) (by kernel_rfl) (by kernel_rfl) ?_
   refine zai Tk Tryz.func52 (by exact⟨by show (B.length+1) * 1≤140737488355328;omega,by show B.length+1≤9223372036854775807;omega⟩) ?_
   refine zae ?_
   refine ih (j+1) _ _ g1 (by omega) ⟨rfl,rfl,rfl,rfl,rfl,hj1,trivial⟩ rfl ⟨rfl,?_,?_,trivial⟩ rfl rfl
   ·rw[t1];exact congrArg some (za4 A yc)
   ·rw[t2];exact congrArg some (ze2 B _)
  ·have f3:nmIx (m.comps.map (·.name)) yc=(k:Int):=f3
   rw[f3] at h5'
   rw[f2] at t2
   simp only at t2
   obtain⟨t,htt⟩:=ht c (List.mem_of_getElem? f1)
   have h35:=fun O=>hT O c t htt
   have hloc:=hlocs c t htt
   have h39:=fun O=>zcc O t.locs yl hloc
   rw[htt] at t2
   simp only at t2
   have hk:k<m.comps.length:=(List.getElem?_eq_some_iff.1 f1).1
   have gc:(m.comps.map insI)[(if (0:Int)>((k:Nat):Int) then (0:Int) else ((k:Nat):Int)).toNat]? = some (insI c):=by
    rw[if_neg (by omega),Int.toNat_natCast,List.getElem?_map,f1];rfl
   generalize nmIx t.locs yl=q at *
   obtain⟨cn,ct,ce⟩:=c
   obtain⟨tn,tl,te,⟨tal,tlo,tini,tmk,tvr,tmo⟩⟩:=t
   simp only at h39
   refine zas Tk Tryz.func52 zax rfl ?_
   refine zaD Tk (fun _=>h4 _) rfl rfl rfl ?_
   refine zaD Tk (fun _=>h5' _) rfl rfl rfl ?_
   refine zaA Tk Tryz.func52 (by kernel_rfl) ?_
   refine zai Tk Tryz.func52 (by exact⟨by show (A.length+1) * 16≤140737488355328;omega,by show A.length+1≤9223372036854775807;omega⟩) ?_
   refine zas Tk Tryz.func52 zax rfl ?_
   refine zbL Tk (fun _=>?_) (fun h=>absurd h (by simpa using h))
   refine zap Tk (by exact⟨by rw[if_neg (by omega)];omega,by rw[if_neg (by omega)];show ((k:Nat):Int)<(m.comps.length:Int);omega⟩) ?_
   refine zaz Tk (gc) ?_
   refine zaD Tk (fun _=>h35 _) rfl rfl rfl ?_
   refine zaD Tk (fun _=>h39 _) rfl rfl rfl ?_
   refine zdZ Tk Tryz.func52 ([19,20]) (by kernel_rfl) (by kernel_rfl) ?_
   refine zai Tk Tryz.func52 (by exact⟨by show (B.length+1) * 1≤140737488355328;omega,by show B.length+1≤9223372036854775807;omega⟩) ?_
   refine zae ?_
   refine ih (j+1) _ _ g1 (by omega) ⟨rfl,rfl,rfl,rfl,rfl,hj1,trivial⟩ rfl ⟨rfl,?_,?_,trivial⟩ rfl rfl
   ·rw[t1];exact congrArg some (za4 A yc)
   ·rw[t2];exact congrArg some (ze2 B _)
 ·have g1:L.length≤j:=by simpa using g1
  rw[List.take_of_length_le g1]
  refine zaB ?_
  refine zat (zao 40 rfl rfl) ?_
  refine zat (za1 rfl) ?_
  refine zat (zao 60 rfl rfl) ?_
  refine zat (za1 rfl) ?_
  refine zah Tk Tryz.func52 ?_
  refine g_go Tk Tryz.func52 ?_
  refine zak Tk Tryz.func52 (h130 _) rfl rfl rfl rfl rfl ?_
  refine zaf Tk (r:=ii R) rfl rfl rfl trivial rfl rfl ?_
  rfl
theorem zkR (O:List Heap) (m:Mdl) (i:Nat) (hi:i<m.cons.length) (hm:mdlOk m) :
  zan Tryz.prog 53 [mdlD m,ii i] O (ii (if nmE ((m.cons.map (·.name)).take i) m.cons[i].name≠0 then nmE ((m.cons.map (·.name)).take i) m.cons[i].name else conE m m.cons[i])) [] O:=by
 have hex:=hm.cn
 have hx:=hm.cnk m.cons[i] (List.getElem_mem hi)
 have hn:=fun O=>zsg O m hex
 have hf:=fun O=>zfa O (m.cons.map (·.name)) i (by rw[List.length_map];exact hi) (by rw[List.length_map];exact hex) (fun s hs=>by
  obtain⟨t,ht,rfl⟩:=List.mem_map.1 hs
  exact (hm.cnk t ht).1)
 rw[List.getElem_map] at hf
 have gt:(m.cons.map ncnI)[(i:Int).toNat]? = some (ncnI m.cons[i]):=zam (f:=ncnI) hi
 have hw:IntKind.i64.wrap ((i:Int)+1)=((i+1:Nat):Int):=zay (n:=1000001) (by omega) (by decide)
 have h130:=fun O=>zkS O m 2 m.cons[i].terms (·.1) zbC hm hx.2
 have hxl:=hx.2
 have hE:conE m m.cons[i]=if (if (m.cons[i].terms.map fun y=>(y.1,zbC y)).length=0 then (12:Int) else cpE m 2 [] (m.cons[i].terms.map fun y=>(y.1,zbC y)))≠0 then (if (m.cons[i].terms.map fun y=>(y.1,zbC y)).length=0 then (12:Int) else cpE m 2 [] (m.cons[i].terms.map fun y=>(y.1,zbC y))) else if bigB m.cons[i].bound=true then 2 else 0:=by
  unfold conE
  rw[zrt,List.length_map]
  by_cases h:m.cons[i].terms.length=0
  ·rw[if_pos h,if_pos h,if_pos (by decide)]
  ·rw[if_neg h,if_neg h]
 rw[hE]
 clear hE
 have hNl:(m.cons.map (·.name)).length=m.cons.length:=List.length_map _
 generalize nmE ((m.cons.map (·.name)).take i) m.cons[i].name=e0 at *
 generalize m.cons[i]=x at *
 generalize m.cons.map (·.name)=N at *
 obtain⟨xn,L,bd⟩:=x
 simp only at h130 hxl gt ⊢
 generalize (if (L.map fun y=>(y.1,zbC y)).length=0 then (12:Int) else cpE m 2 [] (L.map fun y=>(y.1,zbC y)))=R at *
 clear hx hm
 refine zaM [12] Tk Tryz.func53 rfl Tryz.call53 Tryz.ntmps53 (Nat.le_of_ble_eq_true rfl) fun E=>?_
 refine zah Tk Tryz.func53 ?_
 refine zak Tk Tryz.func53 (hn _) rfl rfl rfl rfl rfl ?_
 refine zai Tk Tryz.func53 (by exact⟨by rw[hw];omega,by show IntKind.i64.wrap ((i:Int)+1)≤(N.length:Int);rw[hw];omega⟩) ?_
 refine zak Tk Tryz.func53 (hf _) rfl rfl rfl rfl rfl ?_
 refine zag Tk Tryz.func53 rfl (fun c0=>?_) (fun c0=>?_)
 ·have c0:e0≠0:=bneT c0
  rw[if_pos c0]
  refine zaf Tk (r:=ii e0) rfl rfl rfl trivial rfl rfl ?_
  rfl
 have c0:¬ e0≠0:=fun h=>h (bneF c0)
 rw[if_neg c0]
 refine zai Tk Tryz.func53 (by exact⟨by omega,by show (i:Int)<(m.cons.length:Int);omega⟩) ?_
 refine zar Tk Tryz.func53 (gt) ?_
 refine g_wk (zbm 6 36 9 1 rfl rfl rfl) ?_
 refine g_wk (zbm 7 52 4 1 rfl rfl rfl) ?_
 refine zae ?_
 refine zaj (fun j:Nat=>[(1,ii i),(2,.own 0 2 0 0),(6,.osl 0 36),(7,.osl 0 52),(26,.i (.sl 2 L.length (L.map ntmI))),(27,ii L.length),(28,ii j)]) (fun j=>[(2,.box (mdlC m)),(36,oss ((L.take j).map (·.1))),(52,obs ((L.take j).map zbC))]) (fun _=>O) 73
  (fun j=>j≤L.length) (fun j=>L.length - j) 0 (Nat.zero_le _) ⟨rfl,rfl,rfl,rfl,rfl,rfl,rfl,trivial⟩ rfl ⟨rfl,rfl,rfl,trivial⟩ rfl rfl ?_
 intro j hj ih
 have hj:j≤L.length:=hj
 have hll:((L.take j).map (·.1)).length≤1000000:=by rw[List.length_map,List.length_take];omega
 have hll2:((L.take j).map zbC).length≤1000000:=by rw[List.length_map,List.length_take];omega
 refine zah Tk Tryz.func53 ?_
 refine zag Tk Tryz.func53 rfl (fun g1=>?_) (fun g1=>?_)
 ·have g1:j<L.length:=by simpa using g1
  have gs:(L.map ntmI)[(j:Int).toNat]? = some (ntmI L[j]):=zam (f:=ntmI) g1
  have t1:=zaJ (fun y:NTm=>y.1) g1
  have t2:=zaJ zbC g1
  have hj1:ii (IntKind.i64.wrap ((j:Int)+1))=ii ((j+1:Nat):Int):=congrArg ii (zay (n:=1000001) (by omega) (by decide))
  generalize (L.take j).map (·.1)=A at *
  generalize (L.take j).map zbC=B at *
  generalize L[j]=y at *
  obtain⟨yc,yf⟩:=y
  simp only at t1
  unfold zbC at t2
  simp only at t2
  refine zai Tk Tryz.func53 (by exact⟨by omega,by show (j:Int)<(L.length:Int);omega⟩) ?_
  refine zar Tk Tryz.func53 (gs) ?_
  refine zai Tk Tryz.func53 (by exact⟨by show (A.length+1) * 16≤140737488355328;omega,by show A.length+1≤9223372036854775807;omega⟩) ?_
  have fin:∀ b,(decide (yf≠0) && decide (yf ≥ -65536) && decide (yf≤65536))=b→(some (obs (B++[b])):Option Ob)=some (obs ((L.take (j+1)).map zbC)):=by
   intro b hb
   rw[← hb,show (L.take (j+1)).map zbC=_ from t2]
  refine zaC Tk Tryz.func53 rfl (fun k1=>?_) (fun k1=>?_)
  ·have k1:yf≠0:=bneT k1
   refine zaC Tk Tryz.func53 rfl (fun k2=>?_) (fun k2=>?_)
   ·have k2:yf ≥ -65536:=of_decide_eq_true k2
    refine zai Tk Tryz.func53 (by exact⟨by show (B.length+1) * 1≤140737488355328;omega,by show B.length+1≤9223372036854775807;omega⟩) ?_
    refine zae ?_
    refine ih (j+1) _ _ g1 (by omega) ⟨rfl,rfl,rfl,rfl,rfl,rfl,hj1,trivial⟩ rfl ⟨rfl,?_,?_,trivial⟩ rfl rfl
    ·rw[t1];exact congrArg some (za4 A yc)
    ·refine Eq.trans (congrArg some (ze2 B _)) (fin _ ?_)
     simp[k1,k2]
   ·have k2:¬ yf ≥ -65536:=of_decide_eq_false k2
    refine zai Tk Tryz.func53 (by exact⟨by show (B.length+1) * 1≤140737488355328;omega,by show B.length+1≤9223372036854775807;omega⟩) ?_
    refine zae ?_
    refine ih (j+1) _ _ g1 (by omega) ⟨rfl,rfl,rfl,rfl,rfl,rfl,hj1,trivial⟩ rfl ⟨rfl,?_,?_,trivial⟩ rfl rfl
    ·rw[t1];exact congrArg some (za4 A yc)
    ·refine Eq.trans (congrArg some (ze2 B _)) (fin _ ?_)
     simp[k1,k2]
  ·have k1:yf=0:=bneF k1
   refine gkF Tk Tryz.func53 rfl ?_
   refine zai Tk Tryz.func53 (by exact⟨by show (B.length+1) * 1≤140737488355328;omega,by show B.length+1≤9223372036854775807;omega⟩) ?_
   refine zae ?_
   refine ih (j+1) _ _ g1 (by omega) ⟨rfl,rfl,rfl,rfl,rfl,rfl,hj1,trivial⟩ rfl ⟨rfl,?_,?_,trivial⟩ rfl rfl
   ·rw[t1];exact congrArg some (za4 A yc)
   ·refine Eq.trans (congrArg some (ze2 B _)) (fin _ ?_)
    simp[k1]
 ·have g1:L.length≤j:=by simpa using g1
  rw[List.take_of_length_le g1]
  refine zaB ?_
  refine zat (zao 36 rfl rfl) ?_
  refine zat (za1 rfl) ?_
  refine zat (zao 52 rfl rfl) ?_
  refine zat (za1 rfl) ?_
  refine zah Tk Tryz.func53 ?_
  refine g_go Tk Tryz.func53 ?_
  refine zak Tk Tryz.func53 (h130 _) rfl rfl rfl rfl rfl ?_
  refine zag Tk Tryz.func53 rfl (fun c1=>?_) (fun c1=>?_)
  ·have c1:R≠0:=bneT c1
   rw[if_pos c1]
   refine zaf Tk (r:=ii R) rfl rfl rfl trivial rfl rfl ?_
   rfl
  have c1:¬ R≠0:=fun h=>h (bneF c1)
  rw[if_neg c1]
  refine zai Tk Tryz.func53 (by exact⟨by omega,by show (i:Int)<(m.cons.length:Int);omega⟩) ?_
  refine zar Tk Tryz.func53 (gt) ?_
  unfold bigB
  refine zaC Tk Tryz.func53 rfl (fun c2=>?_) (fun c2=>?_)
  ·have c2:bd < -65536:=of_decide_eq_true c2
   refine gcT Tk Tryz.func53 rfl ?_
   refine zaf Tk (r:=ii 2) rfl rfl rfl trivial rfl rfl ?_
   simp[c2]
  ·have c2:¬ bd < -65536:=of_decide_eq_false c2
   refine zag Tk Tryz.func53 rfl (fun c3=>?_) (fun c3=>?_)
   ·have c3:bd>65536:=of_decide_eq_true c3
    refine zaf Tk (r:=ii 2) rfl rfl rfl trivial rfl rfl ?_
    simp[c3]
   ·have c3:¬ bd>65536:=of_decide_eq_false c3
    refine zaf Tk (r:=ii 0) rfl rfl rfl trivial rfl rfl ?_
    simp only[c2,c3,decide_false,Bool.or_self,Bool.false_eq_true,if_false]
end Go.AI


namespace Go.AI
open Go.Proofs
inductive FrzC (nm:Nat) (d:I):List D→List D→Prop
 | nil:FrzC nm d [] []
 | i {x:I} {l m:List D}:FrzC nm d l m→FrzC nm d (.i x::l) (.i x::m)
 | f {k:FuncId} {l m:List D}:FrzC nm d l m→FrzC nm d (.fn (.func k) [] []::l) (.fn (.func k) [] []::m)
 | osl {l m:List D}:FrzC nm d l m→FrzC nm d (.osl 0 nm::l) (.i d::m)
 | agg {a b l m:List D}:FrzC nm d a b→FrzC nm d l m→FrzC nm d (.agg a::l) (.agg b::m)
theorem FrzC.rep {K K':Kn} {ρ:Nat→Nat→Loc} {sh sh':Nat→Nat→Option Sh} {nm es n:Nat} {xs:List (List I)} (hle:K.le K') (hs:sh 0 nm=some (.arr es n)) (hr:Rep K' (.slice (ρ 0 nm).base n (ρ 0 nm).cap) (.sl es n xs)) :
  ∀ {a b:List D},FrzC nm (.sl es n xs) a b→∀ {vs:List Value},RepDL K ρ sh vs a→RepDL K' ρ sh' vs b:=by
 intro a b h
 induction h with
 | nil=>
  intro vs r
  cases r
  exact .nil
 | i _ ih=>
  intro vs r
  cases r with
  | cons r rs=>cases r with
   | i r=>exact .cons (.i (r.mono hle)) (ih rs)
 | f _ ih=>
  intro vs r
  cases r with
  | cons r rs=>cases r with
   | fn h1 h2=>
    cases h1
    cases h2
    exact .cons (.fn .nil .nil) (ih rs)
 | osl _ ih=>
  intro vs r
  cases r with
  | cons r rs=>
   have:=zdR r hs
   subst this
   exact .cons (.i hr) (ih rs)
 | agg _ _ ih1 ih2=>
  intro vs r
  cases r with
  | cons r rs=>cases r with
   | agg r=>exact .cons (.agg (ih1 r)) (ih2 rs)
theorem zfX {c:Cx} {s:St} {o:Oper} {f:FuncId} {args dargs:List D} {res:D} {t nm ty es n:Nat} {xs:List (List I)} {wr:Bool} {H:Heap} {O:List Heap}
  (hspec:zan c.P f dargs [] res [] []) (hsh:Shut res) (ha:FrzC nm (.sl es n xs) args dargs) (ht:o.dst=some t) (hn:t<s.n) (hS:s.S=H::O) (hl:look H nm=some (.arr ty es n xs wr)) :
  Wp c o s f args { σ:=(t,res)::s.σ,S:=s.S,n:=s.n }:=by
 intro K ρ a w hi ⟨vs,hrun,hrep⟩ next Qe hnext
 have hh:=hi.h
 rw[hS] at hh hrep
 obtain⟨K',hle,hF⟩:=hh.freeze hl
 have hown:=hF.own 0 nm (.arr ty es n xs false) (by simp[zab,zac])
 have hrd:RepDL K' ρ (shape []) vs dargs:=FrzC.rep hle (by simp[shape,zab,hl,Ob.sh]) (zc3 hown) ha hrep
 have hE:HInv { K0:=K',ρ0:=fun d=>ρ (d+1),w0:=w,pr:=fun b=>b<w.heap.size,lt:=fun _ h=>h } K' ρ [] w:=
  ⟨hF.holds,fun _ _ _ e=>by simp[zab] at e,fun _ _ _ _ _ _ e=>by simp[zab] at e,Nat.le_refl _,fun _ _ _=>rfl,fun _ _ e=>by simp[zab] at e,fun _=>rfl,K'.le_refl,fun _ _ _ h=>.inl h,⟨rfl,rfl,rfl⟩⟩
 have fin:∀ v w',(∃ K2 ρ2,HInv (.of K' ρ w) K2 ρ2 ([]::[]) w' ∧ RepD K2 ρ2 (shape ([]::[])) v res)→next (a.put o.dst v) w':=by
  intro v w' ⟨K2,ρ2,h1,h2⟩
  have hold:∀ b,b<w.heap.size→w'.heap[b]? = w.heap[b]?:=fun b hb=>h1.old b hb fun d n ob e=>by simp[zab] at e
  have hg:Grow K ρ s.S w [] K ρ w':=by
   refine⟨K.le_refl,fun _ _ _ h=>.inl h,h1.size,hold,h1.rest,fun _ _ _=>rfl,fun b o x hx=>?_,fun _ _ h=>by simp[look] at h,fun _ _ _ _ h=>by simp[look] at h⟩
   have h3:=hh.holds _ _ _ hx
   have hb:b<w.heap.size:=by
    rcases Nat.lt_or_ge b w.heap.size with h | h
    ·exact h
    ·rw[hh.K_fresh h] at hx;cases hx
   rw[World.cell?,hold b hb]
   exact h3
  have hi0:=hi.h
  obtain⟨hI,hst⟩:=HInv.grow (S:=s.S) hS hi0 (fun _ _ _ e=>e) (fun _ h=>by simp[look] at h) hg
  have e0:addS s.S []=s.S:=by rw[hS];rfl
  rw[e0] at hI hst
  refine hnext v w' K ρ ?_
  rw[ht]
  refine⟨hI,hi.defers,by simp[Act.put];exact hi.size,fun t' d' e'=>?_⟩
  rw[zdh (by rw[hi.size];exact hn)]
  simp only[zac] at e'
  split at e'
  ·rename_i e2
   simp only[Option.some.injEq] at e'
   subst e'
   rw[if_pos e2]
   exact hsh _ _ _ _ _ _ _ h2
  ·rename_i e2
   rw[if_neg e2]
   exact hi.slots _ _ e'
 rcases hspec _ K' ρ w vs hE hrd with ⟨h1,h2⟩ | ⟨v,w',h1,h2⟩
 ·rw[h1] at hrun
  simp only[Oper.wp,hrun,Oper.upon]
  refine h2.mono ?_
  rintro e w' ⟨v,rfl,hR⟩
  exact fin v w' hR
 ·rw[h1] at hrun
  simp only[Oper.wp,hrun,Oper.upon]
  exact fin v w' h2
end Go.AI


namespace Go.AI
open Go.Proofs
set_option maxRecDepth 20000
theorem zwt (O:List Heap) (m:Mdl) (k:Nat) (x:Ins) (h:m.comps[k]? = some x):zan Tryz.prog 31 [mdlD m,.agg [ii 3,ii k]] O (insD x) [] O:=by
 have hk:k<m.comps.length:=(List.getElem?_eq_some_iff.1 h).1
 have gx:(m.comps.map insI)[(k:Int).toNat]? = some (insI x):=by rw[Int.toNat_natCast,List.getElem?_map,h];rfl
 obtain⟨xn,xt,xe⟩:=x
 refine zaa Tk Tryz.func31 rfl Tryz.call31 Tryz.ntmps31 (Nat.le_of_ble_eq_true rfl) fun E=>?_
 refine zah Tk Tryz.func31 ?_
 refine gcT Tk Tryz.func31 rfl ?_
 refine zai Tk Tryz.func31 (by exact⟨by omega,by show (k:Int)<(m.comps.length:Int);omega⟩) ?_
 refine zar Tk Tryz.func31 (gx) ?_
 refine zaf Tk (r:=insD ⟨xn,xt,xe⟩) rfl rfl rfl trivial rfl rfl ?_
 rfl
theorem zws (O:List Heap) (m:Mdl) (a:Int) (k:Nat) (x:Ins) (ha:a≠3) (h:m.reqs[k]? = some x):zan Tryz.prog 31 [mdlD m,.agg [ii a,ii k]] O (insD x) [] O:=by
 have hk:k<m.reqs.length:=(List.getElem?_eq_some_iff.1 h).1
 have gx:(m.reqs.map insI)[(k:Int).toNat]? = some (insI x):=by rw[Int.toNat_natCast,List.getElem?_map,h];rfl
 obtain⟨xn,xt,xe⟩:=x
 refine zaa Tk Tryz.func31 rfl Tryz.call31 Tryz.ntmps31 (Nat.le_of_ble_eq_true rfl) fun E=>?_
 refine zah Tk Tryz.func31 ?_
 refine zag Tk Tryz.func31 rfl (fun c=>?_) (fun c=>?_)
 ·exact absurd (beqT c) ha
 refine zai Tk Tryz.func31 (by exact⟨by omega,by show (k:Int)<(m.reqs.length:Int);omega⟩) ?_
 refine zar Tk Tryz.func31 (gx) ?_
 refine zaf Tk (r:=insD ⟨xn,xt,xe⟩) rfl rfl rfl trivial rfl rfl ?_
 rfl
def zbJ (m:Mdl):List ByteArray:=(m.comps++m.reqs).map (·.name)
def zbK (m:Mdl) (i:Nat):Plc × Int:=plc 3 (za2 Ins.name (insE m) ((zbJ m).take i) (m.comps.drop i) i) (plc 4 (za2 Ins.name (reqE m) ((zbJ m).take (max i m.comps.length)) (m.reqs.drop (i - m.comps.length)) (i - m.comps.length)) ((0,0),0) id) id
theorem zvs (m:Mdl):(zbJ m).take m.comps.length=m.comps.map (·.name):=by
 unfold zbJ
 rw[List.map_append,List.take_append_of_le_length (by rw[List.length_map];exact Nat.le_refl _),List.take_of_length_le (by rw[List.length_map];exact Nat.le_refl _)]
theorem zsM (m:Mdl):zbK m 0=plc 3 (za2 Ins.name (insE m) [] m.comps 0) (plc 4 (za2 Ins.name (reqE m) (m.comps.map (·.name)) m.reqs 0) ((0,0),0) id) id:=by
 unfold zbK
 rw[Nat.zero_max,zvs,Nat.zero_sub]
 rfl
theorem zqf (m:Mdl):(zbJ m).length=m.comps.length+m.reqs.length:=by simp[zbJ]
theorem znT {m:Mdl} {i:Nat} (h:i<m.comps.length):(zbJ m)[i]? = some m.comps[i].name:=by
 unfold zbJ
 rw[List.getElem?_map,List.getElem?_append_left h,List.getElem?_eq_getElem h]
 rfl
theorem znS {m:Mdl} {i:Nat} (h:m.comps.length≤i) (h2:i - m.comps.length<m.reqs.length):(zbJ m)[i]? = some m.reqs[i - m.comps.length].name:=by
 unfold zbJ
 rw[List.getElem?_map,List.getElem?_append_right h,List.getElem?_eq_getElem h2]
 rfl
theorem zdG {α:Type} {l:List α} {i:Nat} {x:α} (h:l[i]? = some x):l.take (i+1)=l.take i++[x]:=by
 obtain⟨h1,h2⟩:=List.getElem?_eq_some_iff.1 h
 rw[← h2]
 exact List.take_succ_eq_append_getElem h1
theorem zsL {m:Mdl} {i:Nat} (h:i<m.comps.length):zbK m i=if nmE ((zbJ m).take i) m.comps[i].name≠0 then ((3,(i:Int)),nmE ((zbJ m).take i) m.comps[i].name) else if insE m m.comps[i]≠0 then ((3,(i:Int)),insE m m.comps[i]) else zbK m (i+1):=by
 unfold zbK
 rw[List.drop_eq_getElem_cons h]
 simp only[za2,← zdG (znT h)]
 have e1:max i m.comps.length=max (i+1) m.comps.length:=by omega
 have e2:i - m.comps.length=i+1 - m.comps.length:=by omega
 rw[e1,e2]
 by_cases h1:nmE ((zbJ m).take i) m.comps[i].name≠0
 ·rw[if_pos h1,if_pos h1];rfl
 rw[if_neg h1,if_neg h1]
 by_cases h2:insE m m.comps[i]≠0
 ·rw[if_pos h2,if_pos h2];rfl
 ·rw[if_neg h2,if_neg h2]
theorem zsJ {m:Mdl} {i:Nat} (h:m.comps.length≤i) (h2:i - m.comps.length<m.reqs.length):zbK m i=if nmE ((zbJ m).take i) m.reqs[i - m.comps.length].name≠0 then ((4,((i - m.comps.length:Nat):Int)),nmE ((zbJ m).take i) m.reqs[i - m.comps.length].name) else if reqE m m.reqs[i - m.comps.length]≠0 then ((4,((i - m.comps.length:Nat):Int)),reqE m m.reqs[i - m.comps.length]) else zbK m (i+1):=by
 unfold zbK
 rw[List.drop_eq_nil_of_le h,List.drop_eq_nil_of_le (show m.comps.length≤i+1 by omega),List.drop_eq_getElem_cons h2,Nat.max_eq_left h,Nat.max_eq_left (show m.comps.length≤i+1 by omega),show i+1 - m.comps.length=i - m.comps.length+1 by omega]
 simp only[za2,← zdG (znS h h2)]
 by_cases h1:nmE ((zbJ m).take i) m.reqs[i - m.comps.length].name≠0
 ·rw[if_pos h1,if_pos h1];rfl
 rw[if_neg h1,if_neg h1]
 by_cases h2:reqE m m.reqs[i - m.comps.length]≠0
 ·rw[if_pos h2,if_pos h2];rfl
 ·rw[if_neg h2,if_neg h2]
theorem zsK {m:Mdl} {i:Nat} (h:m.comps.length+m.reqs.length≤i):zbK m i=((0,0),0):=by
 unfold zbK
 rw[List.drop_eq_nil_of_le (by omega),List.drop_eq_nil_of_le (by omega)]
 rfl
theorem zkm (O:List Heap) (m:Mdl) (x:Ins) (b:List ByteArray) (rq:Bool) (hm:mdlOk m) (hx:insOk x) (hb:b.length≤1000000) :
  zan Tryz.prog 129 [mdlD m,insD x,.i (.sl 1 (b.length+1) ((b.map fun s=>[strI s])++[[strI x.name]])),bb rq] O (ii (if nmE b x.name≠0 then nmE b x.name else if rq=true then reqE m x else insE m x)) [] O:=by
 have e:ssD (b++[x.name]) = .i (.sl 1 (b.length+1) ((b.map fun s=>[strI s])++[[strI x.name]])):=by simp
 rw[← e]
 exact zlC O m x b rq hm hx hb
theorem zlB (O:List Heap) (m:Mdl) (hm:mdlOk m):zan Tryz.prog 51 [mdlD m] O (plcD (chkI m)) [] O:=by
 have hcl:=hm.co
 have hrl:=hm.rq
 have hck:=hm.cok
 have hrk:=hm.rqk
 have h129:=fun x b rq hx hb=>zkm [] m x b rq hm hx hb
 have hgc:=fun O k x h=>zwt O m k x h
 have hgr:=fun O k x h=>zws O m 4 k x (by decide) h
 have hfc:=fun i h=>zsL (m:=m) (i:=i) h
 have hfr:=fun i h h2=>zsJ (m:=m) (i:=i) h h2
 have hfe:=fun i h=>zsK (m:=m) (i:=i) h
 unfold chkI
 rw[← zsM]
 refine zaM [200063] Tk Tryz.func51 rfl Tryz.call51 Tryz.ntmps51 (Nat.le_of_ble_eq_true rfl) fun E=>?_
 refine zah Tk Tryz.func51 ?_
 refine zag Tk Tryz.func51 rfl (fun c1=>?_) (fun c1=>?_)
 ·have c1:m.comps.length=0:=by simpa using c1
  rw[if_pos c1]
  refine zaf Tk (r:=plcD ((3,0),12)) rfl rfl rfl trivial rfl rfl ?_
  rfl
 have c1:¬ m.comps.length=0:=by simpa using c1
 rw[if_neg c1]
 refine zag Tk Tryz.func51 rfl (fun c2=>?_) (fun c2=>?_)
 ·have c2:m.comps.length>8:=by have:(m.comps.length:Int)>8:=of_decide_eq_true c2;omega
  rw[if_pos c2]
  refine zaf Tk (r:=plcD ((3,8),3)) rfl rfl rfl trivial rfl rfl ?_
  rfl
 have c2:¬ m.comps.length>8:=by have:¬ (m.comps.length:Int)>8:=of_decide_eq_false c2;omega
 rw[if_neg c2]
 have w1:IntKind.i64.wrap ((m.comps.length:Int)+(m.reqs.length:Int))=(m.comps.length:Int)+(m.reqs.length:Int):=w64 (by omega) (by omega)
 have w2:IntKind.i64.wrap (12 - (m.comps.length:Int))=12 - (m.comps.length:Int):=w64 (by omega) (by omega)
 refine zag Tk Tryz.func51 rfl (fun c3=>?_) (fun c3=>?_)
 ·have c3:m.comps.length+m.reqs.length>12:=by have:IntKind.i64.wrap ((m.comps.length:Int)+(m.reqs.length:Int))>12:=of_decide_eq_true c3;rw[w1] at this;omega
  rw[if_pos c3]
  refine zaf Tk (r:=plcD ((4,IntKind.i64.wrap (12 - (m.comps.length:Int))),3)) rfl rfl rfl trivial rfl rfl ?_
  rw[w2]
 have c3:¬ m.comps.length+m.reqs.length>12:=by have:¬ IntKind.i64.wrap ((m.comps.length:Int)+(m.reqs.length:Int))>12:=of_decide_eq_false c3;rw[w1] at this;omega
 rw[if_neg c3]
 generalize hR:zbK m 0=R
 refine g_wk (zbm 5 56 9 1 rfl rfl rfl) ?_
 refine zae ?_
 refine zaj (fun i:Nat=>[(1,.own 0 1 0 0),(2,.own 0 2 0 0),(4,ii m.comps.length),(5,.osl 0 56),(6,ii i)]) (fun i=>[(1,.box (mdlC m)),(2,plcN),(56,oss ((zbJ m).take i))]) (fun _=>O) 69
  (fun i=>i≤m.comps.length+m.reqs.length∧zbK m i=R) (fun i=>m.comps.length+m.reqs.length - i) 0 ⟨Nat.zero_le _,hR⟩ ⟨rfl,rfl,rfl,rfl,rfl,trivial⟩ rfl ⟨rfl,rfl,rfl,trivial⟩ rfl rfl ?_
 clear hR
 rintro i ⟨hi,hno⟩ ih
 have hL:((zbJ m).take i).length=i:=by rw[List.length_take,zqf];omega
 refine zah Tk Tryz.func51 ?_
 refine zag Tk Tryz.func51 rfl (fun g1=>?_) (fun g1=>?_)
 rotate_left
 ·have g1:¬ (i:Int)<IntKind.i64.wrap ((m.comps.length:Int)+(m.reqs.length:Int)):=of_decide_eq_false g1
  rw[w1] at g1
  rw[hfe i (by omega)] at hno
  subst hno
  refine zaf Tk (r:=plcD ((0,0),0)) rfl rfl rfl trivial rfl rfl ?_
  rfl
 have g1:(i:Int)<IntKind.i64.wrap ((m.comps.length:Int)+(m.reqs.length:Int)):=of_decide_eq_true g1
 rw[w1] at g1
 have hj1:ii (IntKind.i64.wrap ((i:Int)+1))=ii ((i+1:Nat):Int):=congrArg ii (zay (n:=1000001) (by omega) (by decide))
 refine zag Tk Tryz.func51 rfl (fun g2=>?_) (fun g2=>?_)
 ·have g2:m.comps.length≤i:=by simpa using g2
  have g3:i - m.comps.length<m.reqs.length:=by omega
  have w3:IntKind.i64.wrap ((i:Int) - (m.comps.length:Int))=((i - m.comps.length:Nat):Int):=by rw[w64 (by omega) (by omega)];omega
  rw[hfr i g2 g3] at hno
  have ht:=zdG (znS g2 g3)
  have hx:=hrk _ (List.getElem_mem g3)
  have hg:=fun O=>hgr O _ _ (List.getElem?_eq_getElem g3)
  rw[← w3] at hg
  generalize m.reqs[i - m.comps.length]=x at *
  have h1:=h129 x ((zbJ m).take i) true hx (by omega)
  generalize (zbJ m).take i=b at *
  obtain⟨xn,xt,xe⟩:=x
  simp only[if_true] at h1 ht hno
  have hres:(if nmE b xn≠0 then ((4,((i - m.comps.length:Nat):Int)),nmE b xn) else if reqE m ⟨xn,xt,xe⟩≠0 then ((4,((i - m.comps.length:Nat):Int)),reqE m ⟨xn,xt,xe⟩) else zbK m (i+1))=if (if nmE b xn≠0 then nmE b xn else reqE m ⟨xn,xt,xe⟩)≠0 then ((4,((i - m.comps.length:Nat):Int)),if nmE b xn≠0 then nmE b xn else reqE m ⟨xn,xt,xe⟩) else zbK m (i+1):=by
   by_cases k1:nmE b xn≠0
   ·simp only[if_pos k1]
   ·simp only[if_neg k1]
  rw[hres] at hno
  clear hres
  generalize (if nmE b xn≠0 then nmE b xn else reqE m ⟨xn,xt,xe⟩)=e at *
  refine zak Tk Tryz.func51 (hg _) rfl rfl rfl rfl rfl ?_
  refine zai Tk Tryz.func51 (by exact⟨by show (b.length+1) * 16≤140737488355328;omega,by show b.length+1≤9223372036854775807;omega⟩) ?_
  have h1:zan Tryz.prog 129 [mdlD m,insD ⟨xn,xt,xe⟩,.i (.sl 1 (b.length+1) ((b.map fun s=>[strI s])++[[strI xn]])),bb (decide ((i:Int) ≥ (m.comps.length:Int)))] [] (ii e) [] []:=by
   rw[decide_eq_true (by omega)];exact h1
  refine zbZ Tk Tryz.func51 rfl rfl rfl rfl (zfX h1 (zen _) (.agg (.i (.i (.i (.i (.i (.i (.i .nil))))))) (.agg (.i (.i (.i .nil))) (.osl (.i .nil)))) rfl (show 63<69 by decide) rfl rfl) ?_
  refine zag Tk Tryz.func51 rfl (fun c4=>?_) (fun c4=>?_)
  ·have c4:e≠0:=bneT c4
   rw[if_pos c4] at hno
   subst hno
   refine zaf Tk (r:=plcD ((4,IntKind.i64.wrap ((i:Int) - (m.comps.length:Int))),e)) rfl rfl rfl trivial rfl rfl ?_
   rw[w3]
  have c4:¬ e≠0:=fun h=>h (bneF c4)
  rw[if_neg c4] at hno
  refine zae ?_
  refine ih (i+1) _ _ ⟨by omega,hno⟩ (by omega) ⟨rfl,rfl,rfl,rfl,hj1,trivial⟩ rfl ⟨rfl,rfl,?_,trivial⟩ rfl rfl
  rw[ht]
  exact congrArg some (za4 b xn)
 ·have g2:i<m.comps.length:=by simpa using g2
  rw[hfc i g2] at hno
  have ht:=zdG (znT g2)
  have hx:=hck _ (List.getElem_mem g2)
  have hg:=fun O=>hgc O _ _ (List.getElem?_eq_getElem g2)
  generalize m.comps[i]=x at *
  have h1:=h129 x ((zbJ m).take i) false hx (by omega)
  generalize (zbJ m).take i=b at *
  obtain⟨xn,xt,xe⟩:=x
  simp only[Bool.false_eq_true,if_false] at h1 ht hno
  have hres:(if nmE b xn≠0 then ((3,(i:Int)),nmE b xn) else if insE m ⟨xn,xt,xe⟩≠0 then ((3,(i:Int)),insE m ⟨xn,xt,xe⟩) else zbK m (i+1))=if (if nmE b xn≠0 then nmE b xn else insE m ⟨xn,xt,xe⟩)≠0 then ((3,(i:Int)),if nmE b xn≠0 then nmE b xn else insE m ⟨xn,xt,xe⟩) else zbK m (i+1):=by
   by_cases k1:nmE b xn≠0
   ·simp only[if_pos k1]
   ·simp only[if_neg k1]
  rw[hres] at hno
  clear hres
  generalize (if nmE b xn≠0 then nmE b xn else insE m ⟨xn,xt,xe⟩)=e at *
  refine zak Tk Tryz.func51 (hg _) rfl rfl rfl rfl rfl ?_
  refine zai Tk Tryz.func51 (by exact⟨by show (b.length+1) * 16≤140737488355328;omega,by show b.length+1≤9223372036854775807;omega⟩) ?_
  have h1:zan Tryz.prog 129 [mdlD m,insD ⟨xn,xt,xe⟩,.i (.sl 1 (b.length+1) ((b.map fun s=>[strI s])++[[strI xn]])),bb (decide ((i:Int) ≥ (m.comps.length:Int)))] [] (ii e) [] []:=by
   rw[decide_eq_false (by omega)];exact h1
  refine zbZ Tk Tryz.func51 rfl rfl rfl rfl (zfX h1 (zen _) (.agg (.i (.i (.i (.i (.i (.i (.i .nil))))))) (.agg (.i (.i (.i .nil))) (.osl (.i .nil)))) rfl (show 63<69 by decide) rfl rfl) ?_
  refine zag Tk Tryz.func51 rfl (fun c4=>?_) (fun c4=>?_)
  ·have c4:e≠0:=bneT c4
   rw[if_pos c4] at hno
   subst hno
   refine zaf Tk (r:=plcD ((3,i),e)) rfl rfl rfl trivial rfl rfl ?_
   rfl
  have c4:¬ e≠0:=fun h=>h (bneF c4)
  rw[if_neg c4] at hno
  refine zae ?_
  refine ih (i+1) _ _ ⟨by omega,hno⟩ (by omega) ⟨rfl,rfl,rfl,rfl,hj1,trivial⟩ rfl ⟨rfl,rfl,?_,trivial⟩ rfl rfl
  rw[ht]
  exact congrArg some (za4 b xn)
end Go.AI


namespace Go.AI
open Go.Proofs
set_option maxRecDepth 20000
theorem zjq {α:Type} {nm:α→ByteArray} {err:α→Int} {l:List α} {i:Nat} (h:i<l.length):za2 nm err ((l.map nm).take i) (l.drop i) i=if (if nmE ((l.map nm).take i) (nm l[i])≠0 then nmE ((l.map nm).take i) (nm l[i]) else err l[i])≠0 then some (i,if nmE ((l.map nm).take i) (nm l[i])≠0 then nmE ((l.map nm).take i) (nm l[i]) else err l[i]) else za2 nm err ((l.map nm).take (i+1)) (l.drop (i+1)) (i+1):=by
 rw[List.drop_eq_getElem_cons h]
 have ht:(l.map nm).take (i+1)=(l.map nm).take i++[nm l[i]]:=zdG (by rw[List.getElem?_map,List.getElem?_eq_getElem h];rfl)
 simp only[za2,ht]
 by_cases k1:nmE ((l.map nm).take i) (nm l[i])≠0
 ·simp only[if_pos k1]
 ·simp only[if_neg k1]
theorem zya (O:List Heap) (m:Mdl) (hm:mdlOk m):zan Tryz.prog 15 [mdlD m] O (plcD (mdlE m)) [] O:=by
 have h0:=fun O=>zdp O m.name hm.nm
 have hev:=hm.ev
 have hen:=hm.evn
 have htl:=hm.tp
 have hxl:=hm.ex
 have hcl:=hm.cn
 have h50:=fun O i hi=>zpB O m i hi hm
 have h51:=fun O=>zlB O m hm
 have h52:=fun O i hi h=>zlJ O m i hi hm h
 have h53:=fun O i hi=>zkR O m i hi hm
 have hti:(chkI m).2=0→∀ c∈m.comps,∃ t,zbV m c=some t:=fun h c hc=>by
  obtain⟨t,h1,_⟩:=zjc (zl2 h c hc)
  exact⟨t,h1⟩
 rw[zls]
 generalize chkI m=cI at *
 unfold chkT chkC
 generalize hRT:za2 Tpl.name tplE [] m.tpls 0=RT
 generalize hRX:za2 NEx.name (excE m) [] m.excs 0=RX
 generalize hRC:za2 NCn.name (conE m) [] m.cons 0=RC
 generalize hRE:evsP [] m.evs 0=RE
 generalize zaQ m.name=nb at *
 have hA:∀ O i,i<m.evs.length→zan Tryz.prog 46 [.i (.sl 5 (IntKind.i64.wrap ((i:Int)+1)).toNat ((m.evs.map evtI).take (IntKind.i64.wrap ((i:Int)+1)).toNat))] O (ii (zjB (m.evs.take (i+1)))) [] O:=fun O i hi=>by
  rw[zay (i:=i) (n:=1000001) (by omega) (by decide),Int.toNat_natCast,← zdH evtI 5 hi]
  exact ztI O (m.evs.take (i+1)) (by rw[List.length_take];omega) fun x hx=>hen x (List.mem_of_mem_take hx)
 clear hm hen
 obtain⟨⟨i1,i2⟩,i3⟩:=cI
 simp only at hti ⊢
 refine zaa Tk Tryz.func15 rfl Tryz.call15 Tryz.ntmps15 (Nat.le_of_ble_eq_true rfl) fun E=>?_
 refine zah Tk Tryz.func15 ?_
 refine zak Tk Tryz.func15 (h0 _) rfl rfl rfl rfl rfl ?_
 refine zag Tk Tryz.func15 rfl (fun c1=>?_) (fun c1=>?_)
 ·have c1:nb=false:=by simpa using c1
  rw[if_pos c1]
  refine zaf Tk (r:=plcD ((0,0),7)) rfl rfl rfl trivial rfl rfl ?_
  rfl
 have c1:¬ nb=false:=by simpa using c1
 rw[if_neg c1]
 clear h0
 refine zae ?_
 refine zaj (fun i:Nat=>[(1,.own 0 1 0 0),(2,.own 0 2 0 0),(4,ii i)]) (fun i=>[(1,.box (mdlC m)),(2,plcN)]) (fun _=>O) 107
  (fun i=>i≤m.evs.length∧evsP (m.evs.take i) (m.evs.drop i) i=RE) (fun i=>m.evs.length - i) 0 ⟨Nat.zero_le _,hRE⟩ ⟨rfl,rfl,rfl,trivial⟩ rfl ⟨rfl,rfl,trivial⟩ rfl rfl ?_
 clear hRE
 rintro i ⟨hi,hno⟩ ih
 refine zah Tk Tryz.func15 ?_
 refine zag Tk Tryz.func15 rfl (fun g1=>?_) (fun g1=>?_)
 ·have g1:i<m.evs.length:=by simpa using g1
  have hw:IntKind.i64.wrap ((i:Int)+1)=((i+1:Nat):Int):=zay (n:=1000001) (by omega) (by decide)
  have ht:m.evs.take (i+1)=m.evs.take i++[m.evs[i]]:=List.take_succ_eq_append_getElem g1
  have hA':=fun O=>hA O i g1
  rw[List.drop_eq_getElem_cons g1] at hno
  simp only[evsP,← ht] at hno
  generalize zjB (m.evs.take (i+1))=e1 at *
  refine zai Tk Tryz.func15 (by exact⟨by rw[hw];omega,by rw[hw];show ((i+1:Nat):Int)≤(m.evs.length:Int);omega⟩) ?_
  refine zak Tk Tryz.func15 (hA' _) rfl rfl rfl rfl rfl ?_
  refine zag Tk Tryz.func15 rfl (fun c2=>?_) (fun c2=>?_)
  ·have c2:e1≠0:=bneT c2
   rw[if_pos c2] at hno
   subst hno
   refine zaf Tk (r:=plcD ((1,i),e1)) rfl rfl rfl trivial rfl rfl ?_
   rfl
  have c2:¬ e1≠0:=fun h=>h (bneF c2)
  rw[if_neg c2] at hno
  refine zae ?_
  exact ih (i+1) _ _ ⟨g1,hno⟩ (by omega) ⟨rfl,rfl,congrArg ii hw,trivial⟩ rfl ⟨rfl,rfl,trivial⟩ rfl rfl
 have g1:m.evs.length≤i:=by simpa using g1
 rw[List.drop_eq_nil_of_le g1] at hno
 have hno:none=RE:=hno
 subst hno
 rw[show ∀ V:Plc × Int,plc 1 none V id=V from fun _=>rfl]
 clear ih hA g1 hi
 refine zag Tk Tryz.func15 rfl (fun c3=>?_) (fun c3=>?_)
 ·have c3:m.tpls.length>16:=by have:(m.tpls.length:Int)>16:=of_decide_eq_true c3;omega
  rw[if_pos c3]
  refine zaf Tk (r:=plcD ((2,16),3)) rfl rfl rfl trivial rfl rfl ?_
  rfl
 have c3:¬ m.tpls.length>16:=by have:¬ (m.tpls.length:Int)>16:=of_decide_eq_false c3;omega
 rw[if_neg c3]
 refine zae ?_
 refine zaj (fun i:Nat=>[(1,.own 0 1 0 0),(2,.own 0 2 0 0),(6,ii i)]) (fun i=>[(1,.box (mdlC m)),(2,plcN)]) (fun _=>O) 107
  (fun i=>i≤m.tpls.length∧za2 Tpl.name tplE ((m.tpls.map (·.name)).take i) (m.tpls.drop i) i=RT) (fun i=>m.tpls.length - i) 0 ⟨Nat.zero_le _,hRT⟩ ⟨rfl,rfl,rfl,trivial⟩ rfl ⟨rfl,rfl,trivial⟩ rfl rfl ?_
 clear hRT
 rintro i ⟨hi,hno⟩ ih
 refine zah Tk Tryz.func15 ?_
 refine zag Tk Tryz.func15 rfl (fun g1=>?_) (fun g1=>?_)
 ·have g1:i<m.tpls.length:=by simpa using g1
  have hj1:ii (IntKind.i64.wrap ((i:Int)+1))=ii ((i+1:Nat):Int):=congrArg ii (zay (n:=1000001) (by omega) (by decide))
  have h50':=fun O=>h50 O i g1
  rw[zjq g1] at hno
  generalize (if nmE ((m.tpls.map (·.name)).take i) m.tpls[i].name≠0 then nmE ((m.tpls.map (·.name)).take i) m.tpls[i].name else tplE m.tpls[i])=e at *
  refine zak Tk Tryz.func15 (h50' _) rfl rfl rfl rfl rfl ?_
  refine zag Tk Tryz.func15 rfl (fun c4=>?_) (fun c4=>?_)
  ·have c4:e≠0:=bneT c4
   rw[if_pos c4] at hno
   subst hno
   have c4':((plc 2 (some (i,e)) ((0,0),0) id:Plc × Int)).2≠0:=c4
   rw[if_pos c4']
   refine zaf Tk (r:=plcD ((2,i),e)) rfl rfl rfl trivial rfl rfl ?_
   rfl
  have c4:¬ e≠0:=fun h=>h (bneF c4)
  rw[if_neg c4] at hno
  refine zae ?_
  exact ih (i+1) _ _ ⟨g1,hno⟩ (by omega) ⟨rfl,rfl,hj1,trivial⟩ rfl ⟨rfl,rfl,trivial⟩ rfl rfl
 have g1:m.tpls.length≤i:=by simpa using g1
 rw[List.drop_eq_nil_of_le g1] at hno
 have hno:none=RT:=hno
 subst hno
 rw[if_neg (show ¬ ((plc 2 none ((0,0),0) id:Plc × Int)).2≠0 from fun h=>h rfl)]
 clear ih h50 g1 hi
 refine zak Tk Tryz.func15 (h51 _) rfl rfl rfl rfl rfl ?_
 refine zag Tk Tryz.func15 rfl (fun c5=>?_) (fun c5=>?_)
 ·have c5:i3≠0:=bneT c5
  rw[if_pos c5]
  refine zaf Tk (r:=plcD ((i1,i2),i3)) rfl rfl rfl trivial rfl rfl ?_
  rfl
 have c5:i3=0:=bneF c5
 rw[if_neg (fun h=>h c5)]
 have hti:=hti c5
 clear h51
 refine zag Tk Tryz.func15 rfl (fun c6=>?_) (fun c6=>?_)
 ·have c6:m.excs.length>32:=by have:(m.excs.length:Int)>32:=of_decide_eq_true c6;omega
  rw[if_pos c6]
  refine zaf Tk (r:=plcD ((5,32),3)) rfl rfl rfl trivial rfl rfl ?_
  rfl
 have c6:¬ m.excs.length>32:=by have:¬ (m.excs.length:Int)>32:=of_decide_eq_false c6;omega
 rw[if_neg c6]
 refine zae ?_
 refine zaj (fun i:Nat=>[(1,.own 0 1 0 0),(2,.own 0 2 0 0),(10,ii i)]) (fun i=>[(1,.box (mdlC m)),(2,plcN)]) (fun _=>O) 107
  (fun i=>i≤m.excs.length∧za2 NEx.name (excE m) ((m.excs.map (·.name)).take i) (m.excs.drop i) i=RX) (fun i=>m.excs.length - i) 0 ⟨Nat.zero_le _,hRX⟩ ⟨rfl,rfl,rfl,trivial⟩ rfl ⟨rfl,rfl,trivial⟩ rfl rfl ?_
 clear hRX
 rintro i ⟨hi,hno⟩ ih
 refine zah Tk Tryz.func15 ?_
 refine zag Tk Tryz.func15 rfl (fun g1=>?_) (fun g1=>?_)
 ·have g1:i<m.excs.length:=by simpa using g1
  have hj1:ii (IntKind.i64.wrap ((i:Int)+1))=ii ((i+1:Nat):Int):=congrArg ii (zay (n:=1000001) (by omega) (by decide))
  have h52':=fun O=>h52 O i g1 hti
  rw[zjq g1] at hno
  generalize (if nmE ((m.excs.map (·.name)).take i) m.excs[i].name≠0 then nmE ((m.excs.map (·.name)).take i) m.excs[i].name else excE m m.excs[i])=e at *
  refine zak Tk Tryz.func15 (h52' _) rfl rfl rfl rfl rfl ?_
  refine zag Tk Tryz.func15 rfl (fun c4=>?_) (fun c4=>?_)
  ·have c4:e≠0:=bneT c4
   rw[if_pos c4] at hno
   subst hno
   refine zaf Tk (r:=plcD ((5,i),e)) rfl rfl rfl trivial rfl rfl ?_
   rfl
  have c4:¬ e≠0:=fun h=>h (bneF c4)
  rw[if_neg c4] at hno
  refine zae ?_
  exact ih (i+1) _ _ ⟨g1,hno⟩ (by omega) ⟨rfl,rfl,hj1,trivial⟩ rfl ⟨rfl,rfl,trivial⟩ rfl rfl
 have g1:m.excs.length≤i:=by simpa using g1
 rw[List.drop_eq_nil_of_le g1] at hno
 have hno:none=RX:=hno
 subst hno
 rw[show ∀ V:Plc × Int,plc 5 none V id=V from fun _=>rfl]
 clear ih h52 g1 hi
 refine zag Tk Tryz.func15 rfl (fun c7=>?_) (fun c7=>?_)
 ·have c7:m.cons.length>32:=by have:(m.cons.length:Int)>32:=of_decide_eq_true c7;omega
  rw[if_pos c7]
  refine zaf Tk (r:=plcD ((6,32),3)) rfl rfl rfl trivial rfl rfl ?_
  rfl
 have c7:¬ m.cons.length>32:=by have:¬ (m.cons.length:Int)>32:=of_decide_eq_false c7;omega
 rw[if_neg c7]
 refine zae ?_
 refine zaj (fun i:Nat=>[(1,.own 0 1 0 0),(2,.own 0 2 0 0),(12,ii i)]) (fun i=>[(1,.box (mdlC m)),(2,plcN)]) (fun _=>O) 107
  (fun i=>i≤m.cons.length∧za2 NCn.name (conE m) ((m.cons.map (·.name)).take i) (m.cons.drop i) i=RC) (fun i=>m.cons.length - i) 0 ⟨Nat.zero_le _,hRC⟩ ⟨rfl,rfl,rfl,trivial⟩ rfl ⟨rfl,rfl,trivial⟩ rfl rfl ?_
 clear hRC
 rintro i ⟨hi,hno⟩ ih
 refine zah Tk Tryz.func15 ?_
 refine zag Tk Tryz.func15 rfl (fun g1=>?_) (fun g1=>?_)
 ·have g1:i<m.cons.length:=by simpa using g1
  have hj1:ii (IntKind.i64.wrap ((i:Int)+1))=ii ((i+1:Nat):Int):=congrArg ii (zay (n:=1000001) (by omega) (by decide))
  have h53':=fun O=>h53 O i g1
  rw[zjq g1] at hno
  generalize (if nmE ((m.cons.map (·.name)).take i) m.cons[i].name≠0 then nmE ((m.cons.map (·.name)).take i) m.cons[i].name else conE m m.cons[i])=e at *
  refine zak Tk Tryz.func15 (h53' _) rfl rfl rfl rfl rfl ?_
  refine zag Tk Tryz.func15 rfl (fun c4=>?_) (fun c4=>?_)
  ·have c4:e≠0:=bneT c4
   rw[if_pos c4] at hno
   subst hno
   refine zaf Tk (r:=plcD ((6,i),e)) rfl rfl rfl trivial rfl rfl ?_
   rfl
  have c4:¬ e≠0:=fun h=>h (bneF c4)
  rw[if_neg c4] at hno
  refine zae ?_
  exact ih (i+1) _ _ ⟨g1,hno⟩ (by omega) ⟨rfl,rfl,hj1,trivial⟩ rfl ⟨rfl,rfl,trivial⟩ rfl rfl
 have g1:m.cons.length≤i:=by simpa using g1
 rw[List.drop_eq_nil_of_le g1] at hno
 have hno:none=RC:=hno
 subst hno
 refine zaf Tk (r:=plcD ((0,0),0)) rfl rfl rfl trivial rfl rfl ?_
 rfl
end Go.AI
