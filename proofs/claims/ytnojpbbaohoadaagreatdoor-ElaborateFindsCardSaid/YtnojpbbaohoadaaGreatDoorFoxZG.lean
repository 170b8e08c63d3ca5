/- The layer of abstract runs, part 33. -/
import Derived.Test.YtnojpbbaohoadaaGreatDoorFoxZF
import Derived.Test.YtnojpbbaohoadaaGreatDoorRows
import Derived.KernelRfl
import Derived.JoinedOf
import Derived.SevenTiedAt
set_option linter.unusedSimpArgs false
set_option linter.unusedVariables false
set_option linter.all false
set_option maxHeartbeats 4000000
namespace Go.AI
open Go.Proofs
set_option maxRecDepth 20000
theorem zcA {c:Cx} {s s':St} {k:List Item} {ops:Array Oper} {rest:List Nat} {o:Oper} {i:Nat} (hw:Wk c s s') (h:GM c (.pause ops i rest o s' k)):GM c (.pause ops i rest o s k):=
 ⟨fun K ρ a w hi=>by obtain⟨K',ρ',hi'⟩:=hw K ρ a w hi;exact h.h K' ρ' a w hi'⟩
abbrev plsD (l:List Plc):D:=.i (.sl 2 l.length (l.map plcI))
theorem zhM (O:List Heap) (R:Heap) (m:Mdl) (kd:Int) (s:ByteArray) (l:List Plc) (hm:szOk m) (hl:l.length≤1000) :
  zuw Tryz.prog 60 [ii kd,sD s,.own 0 2 0 0,.own 0 8 0 0] (((2,.box (mdlC m))::(8,.box [.osl 0 61])::(61,olPl l)::R)::O) 61 (.tup []) []
   (((8,.box [.osl 0 61])::(61,olPl (l++[(kd,fndI (namK m kd) s)]))::(2,.box (mdlC m))::(8,.box [.dead])::zbv 61 R)::O):=by
 have hf:=fun O=>zdw O m kd s hm
 rw[show fndI (namK m kd) s=fnd0 (nmIx (namK m kd) s) from rfl]
 generalize nmIx (namK m kd) s=q at *
 refine zl4 61 [200020] Tk Tryz.func60 rfl Tryz.call60 Tryz.ntmps60 (Nat.le_of_ble_eq_true rfl) fun E=>?_
 refine zah Tk Tryz.func60 ?_
 refine zbl Tk Tryz.func60 (rfl) ?_
 refine zak Tk Tryz.func60 (hf _) rfl rfl rfl rfl rfl ?_
 refine zbl Tk Tryz.func60 (rfl) ?_
 refine zsV Tk Tryz.func60 (ti1:=zl7) (ti2:=zl8) (m:=1) (nm:=61) (nb:=8) (n:=l.length) (xs:=l.map plcI) ⟨by show (l.length+1) * 16≤140737488355328;omega,by omega⟩ rfl rfl rfl rfl rfl rfl rfl rfl rfl rfl rfl rfl rfl rfl rfl rfl rfl rfl rfl rfl rfl rfl rfl rfl ?_
 intro E' hM
 have e1:Ob.arr 41 2 (l.length+1) (l.map plcI++[plcI (kd,fnd0 q)]) true=olPl (l++[(kd,fnd0 q)]):=by simp[olPl]
 refine zy9 Tk (nm:=61) (r:=.tup []) hM rfl rfl rfl trivial rfl ?_ rfl
 rw[← e1]
 rfl
theorem zfk (O:List Heap) (R:Heap) (m:Mdl) (x:Plc) (l:List Plc):∀ d n,(d≠0∨n≠61) →
  shape (((8,.box [.osl 0 61])::(61,olPl (l++[x]))::(2,.box (mdlC m))::(8,.box [.dead])::zbv 61 R)::O) d n =
   shape (((2,.box (mdlC m))::(8,.box [.osl 0 61])::(61,olPl l)::R)::O) d n:=by
 intro d n hd
 cases d with
 | succ d=>simp[shape,zab]
 | zero=>
  have hm:n≠61:=by rcases hd with h | h;exact absurd rfl h;exact h
  simp only[shape,zab,List.getElem?_cons_zero,zad,zbz]
  by_cases h8:8=n
  ·subst h8;rfl
  ·rw[if_neg h8,if_neg h8,if_neg (Ne.symm hm),if_neg (Ne.symm hm)]
   by_cases h2:2=n
   ·subst h2;rfl
   ·rw[if_neg h2,if_neg h2,if_neg h8,if_neg hm]
    cases hl:look R n with
    | none=>rfl
    | some o=>simp[Ob.kill_sh]
theorem ztn (O:List Heap) (l:List Plc) (hl:l.length≤1000) (hd:l.Nodup):zan Tryz.prog 65 [plsD l] O (plsD l) [] O:=by
 refine zaa Tk Tryz.func65 rfl Tryz.call65 Tryz.ntmps65 (Nat.le_of_ble_eq_true rfl) fun E=>?_
 refine zah Tk Tryz.func65 ?_
 refine zaf Tk Tryz.func65 rfl (fun c0=>?_) (fun c0=>?_)
 ·refine zag Tk (r:=plsD l) rfl rfl rfl trivial rfl rfl ?_
  rfl
 have c0:2≤l.length:=by have:¬ (l.length:Int)<2:=of_decide_eq_false c0;omega
 refine zae ?_
 refine zaj (fun i:Nat=>[(0,plsD l),(3,ii i)]) (fun _=>[]) (fun _=>O) 61
  (fun i=>1≤i∧i≤l.length) (fun i=>l.length - i) 1 ⟨Nat.le_refl _,by omega⟩ ⟨rfl,rfl,trivial⟩ rfl trivial rfl rfl ?_
 rintro i ⟨h1,hi⟩ ih
 refine zah Tk Tryz.func65 ?_
 refine zaf Tk Tryz.func65 rfl (fun g1=>?_) (fun g1=>?_)
 ·have g1:i<l.length:=by simpa using g1
  have ga:(l.map plcI)[(i:Int).toNat]? = some (plcI l[i]):=zam (f:=plcI) g1
  have hw:IntKind.i64.wrap ((i:Int) - 1)=((i - 1:Nat):Int):=by rw[w64 (by omega) (by omega)];omega
  have gb:(l.map plcI)[(IntKind.i64.wrap ((i:Int) - 1)).toNat]? = some (plcI l[i - 1]):=by rw[hw];exact zam (f:=plcI) (by omega)
  have hne:l[i]≠l[i - 1]:=fun e=>by
   have:=znD hd (List.getElem?_eq_getElem g1) ((List.getElem?_eq_getElem (show i - 1<l.length by omega)).trans (congrArg some e.symm))
   omega
  generalize l[i]=x at *
  generalize l[i - 1]=y at *
  obtain⟨xa,xb⟩:=x
  obtain⟨ya,yb⟩:=y
  refine zas Tk Tryz.func65 zaz rfl ?_
  refine zar Tk (by exact⟨by omega,by show (i:Int)<(l.length:Int);omega⟩) ?_
  refine zaG Tk (ga) ?_
  refine zar Tk (by exact⟨by rw[hw];omega,by rw[hw];show ((i - 1:Nat):Int)<(l.length:Int);omega⟩) ?_
  refine zaG Tk (gb) ?_
  refine zaD Tk Tryz.func65 (by kernel_rfl) ?_
  refine zaf Tk Tryz.func65 rfl (fun c1=>?_) (fun c1=>?_)
  ·have c1:((xa==ya) && ((xb==yb) && true))=true:=c1
   simp only[Bool.and_eq_true,beq_iff_eq] at c1
   exact absurd (by rw[c1.1,c1.2.1]) hne
  refine zae ?_
  exact ih (i+1) _ _ ⟨by omega,g1⟩ (by omega) ⟨rfl,congrArg ii (zay (n:=5000) (by omega) (by decide)),trivial⟩ rfl trivial rfl rfl
 ·refine zag Tk (r:=plsD l) rfl rfl rfl trivial rfl rfl ?_
  rfl
theorem zto {e:Int}:CoD (.tup [.i (.v (.slice none 0 0)),ii e]) (.tup [plsD [],ii e]):=by
 repeat' (first | refine zbD ?_ | refine zbp ?_ | refine zck ?_ | refine CoDL.cons ?_ ?_ | exact CoDL.nil | exact za9 | refine zca ?_ | refine CoLL.cons ?_ ?_ | exact CoLL.nil | refine CoL.cons ?_ ?_ | exact CoL.nil | exact CoI.refl _ | exact CoL.refl _ | exact CoLL.refl _ | exact CoDL.refl _ | exact CoD.refl _)
theorem znV {m:Mdl} {p:Plc} {x:Ins} (h:zbE m p = .ok x):zf7 m p=(x,0):=by unfold zf7;rw[h]
theorem zzi (O:List Heap) (m:Mdl) (p:Plc) (hm:mdlOk m) (hr:(mdlE m).2=0→(zcY m p).length≤12∧((zcY m p).map (ixR m)).Nodup):zan Tryz.prog 17 [mdlD m,.agg [ii p.1,ii p.2]] O (.tup [plsD (useR m p).1,ii (useR m p).2]) [] O:=by
 have h14:=fun O=>znj O m hm
 have hsz:=hm.toszOk
 have h62:=fun O d nm l hl ho=>zyt O d nm l hl ho
 have h61:=fun O=>zfy O m p hsz
 obtain⟨a,b⟩:=p
 generalize hR:useR m (a,b)=R
 unfold useR at hR
 simp only at h61 hR ⊢
 generalize hE:mdlE m=E0 at *
 obtain⟨⟨e1,e2⟩,e3⟩:=E0
 simp only at hr hR
 refine zaM [10,32,33,200080,200090,200109,200128] Tk Tryz.func17 rfl Tryz.call17 Tryz.ntmps17 (Nat.le_of_ble_eq_true rfl) fun E=>?_
 refine zah Tk Tryz.func17 ?_
 refine zak Tk Tryz.func17 (h14 _) rfl rfl rfl rfl rfl ?_
 refine zaf Tk Tryz.func17 rfl (fun c0=>?_) (fun c0=>?_)
 ·have c0:e3≠0:=bneT c0
  rw[if_pos c0] at hR
  subst hR
  refine zaC Tk (r:=.tup [.i (.v (.slice none 0 0)),ii e3]) rfl rfl rfl trivial rfl rfl ?_
  exact zto
 have c0:e3=0:=bneF c0
 rw[if_neg (fun h=>h c0)] at hR
 obtain⟨hr12,hrn⟩:=hr c0
 have hev:=hm.ev
 have htp:=hm.tp
 have hco:=hm.co
 have hrq:=hm.rq
 have hex:=hm.ex
 have hcn:=hm.cn
 refine zaI Tk Tryz.func17 rfl (fun c1=>?_) (fun c1=>?_)
 ·have c1:a<1:=of_decide_eq_true c1
  rw[if_pos (.inl c1)] at hR
  subst hR
  refine gcT Tk Tryz.func17 rfl ?_
  refine zaC Tk (r:=.tup [.i (.v (.slice none 0 0)),ii 11]) rfl rfl rfl trivial rfl rfl ?_
  exact zto
 have c1:¬ a<1:=of_decide_eq_false c1
 refine zaf Tk Tryz.func17 rfl (fun c2=>?_) (fun c2=>?_)
 ·have c2:a>6:=of_decide_eq_true c2
  rw[if_pos (.inr c2)] at hR
  subst hR
  refine zaC Tk (r:=.tup [.i (.v (.slice none 0 0)),ii 11]) rfl rfl rfl trivial rfl rfl ?_
  exact zto
 have c2:¬ a>6:=of_decide_eq_false c2
 rw[if_neg (by omega)] at hR
 have ha:a=1∨a=2∨a=3∨a=4∨a=5∨a=6:=by omega
 have gl:([[vi 0],[vi (m.evs.length:Int)],[vi (m.tpls.length:Int)],[vi (m.comps.length:Int)],[vi (m.reqs.length:Int)],[vi (m.excs.length:Int)],[vi (m.cons.length:Int)]]:List (List I))[a.toNat]? = some [vi ((namK m a).length:Int)]:=by
  rcases ha with rfl | rfl | rfl | rfl | rfl | rfl
  ·show some [vi (m.evs.length:Int)]=some [vi ((m.evs.map (·.name)).length:Int)];rw[List.length_map]
  ·show some [vi (m.tpls.length:Int)]=some [vi ((m.tpls.map (·.name)).length:Int)];rw[List.length_map]
  ·show some [vi (m.comps.length:Int)]=some [vi ((m.comps.map (·.name)).length:Int)];rw[List.length_map]
  ·show some [vi (m.reqs.length:Int)]=some [vi ((m.reqs.map (·.name)).length:Int)];rw[List.length_map]
  ·show some [vi (m.excs.length:Int)]=some [vi ((m.excs.map (·.name)).length:Int)];rw[List.length_map]
  ·show some [vi (m.cons.length:Int)]=some [vi ((m.cons.map (·.name)).length:Int)];rw[List.length_map]
 refine zas Tk Tryz.func17 zaz rfl ?_
 refine zbq Tk (fun c3=>?_) (fun c3=>?_)
 ·have c3:b<0:=of_decide_eq_true c3
  rw[if_pos (.inl c3)] at hR
  subst hR
  refine zaD Tk Tryz.func17 (by kernel_rfl) ?_
  refine gcT Tk Tryz.func17 rfl ?_
  refine zaC Tk (r:=.tup [.i (.v (.slice none 0 0)),ii 10]) rfl rfl rfl trivial rfl rfl ?_
  exact zto
 have c3:¬ b<0:=of_decide_eq_false c3
 refine zar Tk (by exact⟨by omega,by show a<7;omega⟩) ?_
 refine zaG Tk (gl) ?_
 refine zaD Tk Tryz.func17 (by kernel_rfl) ?_
 refine zaf Tk Tryz.func17 rfl (fun c4=>?_) (fun c4=>?_)
 ·have c4:b ≥ ((namK m a).length:Int):=of_decide_eq_true c4
  rw[if_pos (.inr c4)] at hR
  subst hR
  refine zaC Tk (r:=.tup [.i (.v (.slice none 0 0)),ii 10]) rfl rfl rfl trivial rfl rfl ?_
  exact zto
 have c4:¬ b ≥ ((namK m a).length:Int):=of_decide_eq_false c4
 rw[if_neg (by omega)] at hR
 clear gl
 refine zax ?_
 refine zau (zgt 8 61 41 2 rfl rfl rfl) ?_
 have hrl:((zcY m (a,b)).map (ixR m)).length≤12:=by rw[List.length_map];exact hr12
 generalize hW:(zcY m (a,b)).map (ixR m)=W at *
 apply zbS (P:=True) (s6:={ σ:=[(8,.own 0 8 0 0)],S:=[(8,.box [.osl 0 61]),(61,olPl W)]::O,n:=134 })
 ·intro J
  rcases ha with rfl | rfl | rfl | rfl | rfl | rfl
  ·have hWx:W=[]:=by
    rw[← hW]
    simp[zcY]
   subst hWx
   refine zah Tk Tryz.func17 ?_
   refine g_go Tk Tryz.func17 ?_
   refine gcF Tk Tryz.func17 rfl ?_
   refine gcF Tk Tryz.func17 rfl ?_
   refine gcF Tk Tryz.func17 rfl ?_
   refine gcF Tk Tryz.func17 rfl ?_
   refine zax ?_
   refine zaA (J trivial) ⟨rfl,trivial⟩ rfl ⟨rfl,rfl,trivial⟩ rfl rfl
  ·have hWx:W=[]:=by
    rw[← hW]
    simp[zcY]
   subst hWx
   refine zah Tk Tryz.func17 ?_
   refine g_go Tk Tryz.func17 ?_
   refine gcF Tk Tryz.func17 rfl ?_
   refine gcF Tk Tryz.func17 rfl ?_
   refine gcF Tk Tryz.func17 rfl ?_
   refine gcF Tk Tryz.func17 rfl ?_
   refine zax ?_
   refine zaA (J trivial) ⟨rfl,trivial⟩ rfl ⟨rfl,rfl,trivial⟩ rfl rfl
  ·have hb:b.toNat<m.comps.length:=by
    have:b<((m.comps.map (·.name)).length:Int):=by have:¬ b ≥ ((namK m 3).length:Int):=c4;simpa [namK] using this
    rw[List.length_map] at this
    omega
   have hgx:m.comps[b.toNat]? = some m.comps[b.toNat]:=List.getElem?_eq_getElem hb
   have hx:zbE m (3,b) = .ok m.comps[b.toNat]:=by
    unfold zbE
    simp only[if_true,if_neg c3,hgx]
   rw[znV hx] at h61
   have hWx:W=(2,fndI (namK m 2) m.comps[b.toNat].tpl)::m.comps[b.toNat].evs.map fun s=>(1,fndI (namK m 1) s):=by
    rw[← hW]
    unfold zcY
    simp only[if_true,hgx,zcH,List.map_cons,List.map_map]
    rfl
   generalize m.comps[b.toNat]=x at *
   obtain⟨xn,xt,xe⟩:=x
   simp only at hWx h61
   subst hWx
   have hel:xe.length≤11:=by simpa using hrl
   clear hb hgx hx hW
   refine zah Tk Tryz.func17 ?_
   refine g_go Tk Tryz.func17 ?_
   refine gcT Tk Tryz.func17 rfl ?_
   refine gcT Tk Tryz.func17 rfl ?_
   refine zak Tk Tryz.func17 (h61 _) rfl rfl rfl rfl rfl ?_
   refine zcA (zb8 (l:=[(8,.own 0 8 0 0),(9,.fn (.func 60) [] [.own 0 2 0 0,.own 0 8 0 0]),(10,.own 0 10 0 0),(77,.fn (.func 60) [] [.own 0 2 0 0,.own 0 8 0 0]),(79,sD xt)]) (Hv:=[(2,.box (mdlC m)),(8,.box [.osl 0 61]),(61,olPl []),(10,.box [.i (strI xn),.i (strI xt),ssD xe])]) ⟨rfl,rfl,rfl,rfl,rfl,trivial⟩ rfl ⟨rfl,rfl,rfl,rfl,trivial⟩ rfl rfl) ?_
   refine zbm Tk Tryz.func17 rfl rfl rfl rfl (zcB (zhM O [(10,.box [.i (strI xn),.i (strI xt),ssD xe])] m 2 xt [] hsz (by decide)) rfl (show 80<134 by decide) rfl rfl ⟨_,_,_,_,_,rfl⟩ (zfk O [(10,.box [.i (strI xn),.i (strI xt),ssD xe])] m _ [])) ?_
   refine zae ?_
   refine zaj (fun i:Nat=>[(8,.own 0 8 0 0),(9,.fn (.func 60) [] [.own 0 2 0 0,.own 0 8 0 0]),(82,ssD xe),(83,ii xe.length),(84,ii i)]) (fun i=>[(2,.box (mdlC m)),(8,.box [.osl 0 61]),(61,olPl ((2,fndI (namK m 2) xt)::(xe.take i).map fun s=>(1,fndI (namK m 1) s)))]) (fun _=>O) 134
    (fun i=>i≤xe.length) (fun i=>xe.length - i) 0 (Nat.zero_le _) ⟨rfl,rfl,rfl,rfl,rfl,trivial⟩ rfl ⟨rfl,rfl,rfl,trivial⟩ rfl rfl ?_
   intro i hi ih
   have hi:i≤xe.length:=hi
   have hLl:((2,fndI (namK m 2) xt)::(xe.take i).map fun s=>((1,fndI (namK m 1) s):Plc)).length≤1000:=by simp;omega
   refine zah Tk Tryz.func17 ?_
   refine zaf Tk Tryz.func17 rfl (fun g1=>?_) (fun g1=>?_)
   ·have g1:i<xe.length:=by simpa using g1
    have gs:(xe.map fun s=>[strI s])[(i:Int).toNat]? = some [strI xe[i]]:=zam (f:=fun s=>[strI s]) g1
    have ht:((2,fndI (namK m 2) xt)::(xe.take (i+1)).map fun s=>((1,fndI (namK m 1) s):Plc))=((2,fndI (namK m 2) xt)::(xe.take i).map fun s=>((1,fndI (namK m 1) s):Plc))++[(1,fndI (namK m 1) xe[i])]:=by rw[zaB _ g1];rfl
    generalize ((2,fndI (namK m 2) xt)::(xe.take i).map fun s=>((1,fndI (namK m 1) s):Plc))=L at *
    generalize xe[i]=s at *
    refine zai Tk Tryz.func17 (by exact⟨by omega,by show (i:Int)<(xe.length:Int);omega⟩) ?_
    refine zap Tk Tryz.func17 (gs) ?_
    refine zcA (zb8 (l:=[(8,.own 0 8 0 0),(9,.fn (.func 60) [] [.own 0 2 0 0,.own 0 8 0 0]),(82,ssD xe),(83,ii xe.length),(84,ii i),(88,.fn (.func 60) [] [.own 0 2 0 0,.own 0 8 0 0]),(89,sD s)]) (Hv:=[(2,.box (mdlC m)),(8,.box [.osl 0 61]),(61,olPl L)]) ⟨rfl,rfl,rfl,rfl,rfl,rfl,rfl,trivial⟩ rfl ⟨rfl,rfl,rfl,trivial⟩ rfl rfl) ?_
    refine zbm Tk Tryz.func17 rfl rfl rfl rfl (zcB (zhM O [] m 1 s L hsz hLl) rfl (show 90<134 by decide) rfl rfl ⟨_,_,_,_,_,rfl⟩ (zfk O [] m _ L)) ?_
    refine zae ?_
    refine ih (i+1) _ _ g1 (by omega) ⟨rfl,rfl,rfl,rfl,congrArg ii (zay (n:=5000) (by omega) (by decide)),trivial⟩ rfl ⟨rfl,rfl,?_,trivial⟩ rfl rfl
    rw[ht]
    rfl
   ·have g1:xe.length≤i:=by simpa using g1
    rw[List.take_of_length_le g1]
    refine zax ?_
    refine zaA (J trivial) ⟨rfl,trivial⟩ rfl ⟨rfl,rfl,trivial⟩ rfl rfl
  ·have hb:b.toNat<m.reqs.length:=by
    have:b<((m.reqs.map (·.name)).length:Int):=by have:¬ b ≥ ((namK m 4).length:Int):=c4;simpa [namK] using this
    rw[List.length_map] at this
    omega
   have hgx:m.reqs[b.toNat]? = some m.reqs[b.toNat]:=List.getElem?_eq_getElem hb
   have hx:zbE m (4,b) = .ok m.reqs[b.toNat]:=by
    unfold zbE
    simp only[show ¬ (4:Int)=3 by decide,if_false,if_true,if_neg c3,hgx]
   rw[znV hx] at h61
   have hWx:W=(2,fndI (namK m 2) m.reqs[b.toNat].tpl)::m.reqs[b.toNat].evs.map fun s=>(1,fndI (namK m 1) s):=by
    rw[← hW]
    unfold zcY
    simp only[show ¬ (4:Int)=3 by decide,if_false,if_true,hgx,zcH,List.map_cons,List.map_map]
    rfl
   generalize m.reqs[b.toNat]=x at *
   obtain⟨xn,xt,xe⟩:=x
   simp only at hWx h61
   subst hWx
   have hel:xe.length≤11:=by simpa using hrl
   clear hb hgx hx hW
   refine zah Tk Tryz.func17 ?_
   refine g_go Tk Tryz.func17 ?_
   repeat (first | refine gcT Tk Tryz.func17 rfl ?_ | refine gkT Tk Tryz.func17 rfl ?_ | refine skT Tk ?_ | refine gcF Tk Tryz.func17 rfl ?_ | refine gkF Tk Tryz.func17 rfl ?_ | refine skF Tk ?_)
   refine zak Tk Tryz.func17 (h61 _) rfl rfl rfl rfl rfl ?_
   refine zcA (zb8 (l:=[(8,.own 0 8 0 0),(9,.fn (.func 60) [] [.own 0 2 0 0,.own 0 8 0 0]),(10,.own 0 10 0 0),(77,.fn (.func 60) [] [.own 0 2 0 0,.own 0 8 0 0]),(79,sD xt)]) (Hv:=[(2,.box (mdlC m)),(8,.box [.osl 0 61]),(61,olPl []),(10,.box [.i (strI xn),.i (strI xt),ssD xe])]) ⟨rfl,rfl,rfl,rfl,rfl,trivial⟩ rfl ⟨rfl,rfl,rfl,rfl,trivial⟩ rfl rfl) ?_
   refine zbm Tk Tryz.func17 rfl rfl rfl rfl (zcB (zhM O [(10,.box [.i (strI xn),.i (strI xt),ssD xe])] m 2 xt [] hsz (by decide)) rfl (show 80<134 by decide) rfl rfl ⟨_,_,_,_,_,rfl⟩ (zfk O [(10,.box [.i (strI xn),.i (strI xt),ssD xe])] m _ [])) ?_
   refine zae ?_
   refine zaj (fun i:Nat=>[(8,.own 0 8 0 0),(9,.fn (.func 60) [] [.own 0 2 0 0,.own 0 8 0 0]),(82,ssD xe),(83,ii xe.length),(84,ii i)]) (fun i=>[(2,.box (mdlC m)),(8,.box [.osl 0 61]),(61,olPl ((2,fndI (namK m 2) xt)::(xe.take i).map fun s=>(1,fndI (namK m 1) s)))]) (fun _=>O) 134
    (fun i=>i≤xe.length) (fun i=>xe.length - i) 0 (Nat.zero_le _) ⟨rfl,rfl,rfl,rfl,rfl,trivial⟩ rfl ⟨rfl,rfl,rfl,trivial⟩ rfl rfl ?_
   intro i hi ih
   have hi:i≤xe.length:=hi
   have hLl:((2,fndI (namK m 2) xt)::(xe.take i).map fun s=>((1,fndI (namK m 1) s):Plc)).length≤1000:=by simp;omega
   refine zah Tk Tryz.func17 ?_
   refine zaf Tk Tryz.func17 rfl (fun g1=>?_) (fun g1=>?_)
   ·have g1:i<xe.length:=by simpa using g1
    have gs:(xe.map fun s=>[strI s])[(i:Int).toNat]? = some [strI xe[i]]:=zam (f:=fun s=>[strI s]) g1
    have ht:((2,fndI (namK m 2) xt)::(xe.take (i+1)).map fun s=>((1,fndI (namK m 1) s):Plc))=((2,fndI (namK m 2) xt)::(xe.take i).map fun s=>((1,fndI (namK m 1) s):Plc))++[(1,fndI (namK m 1) xe[i])]:=by rw[zaB _ g1];rfl
    generalize ((2,fndI (namK m 2) xt)::(xe.take i).map fun s=>((1,fndI (namK m 1) s):Plc))=L at *
    generalize xe[i]=s at *
    refine zai Tk Tryz.func17 (by exact⟨by omega,by show (i:Int)<(xe.length:Int);omega⟩) ?_
    refine zap Tk Tryz.func17 (gs) ?_
    refine zcA (zb8 (l:=[(8,.own 0 8 0 0),(9,.fn (.func 60) [] [.own 0 2 0 0,.own 0 8 0 0]),(82,ssD xe),(83,ii xe.length),(84,ii i),(88,.fn (.func 60) [] [.own 0 2 0 0,.own 0 8 0 0]),(89,sD s)]) (Hv:=[(2,.box (mdlC m)),(8,.box [.osl 0 61]),(61,olPl L)]) ⟨rfl,rfl,rfl,rfl,rfl,rfl,rfl,trivial⟩ rfl ⟨rfl,rfl,rfl,trivial⟩ rfl rfl) ?_
    refine zbm Tk Tryz.func17 rfl rfl rfl rfl (zcB (zhM O [] m 1 s L hsz hLl) rfl (show 90<134 by decide) rfl rfl ⟨_,_,_,_,_,rfl⟩ (zfk O [] m _ L)) ?_
    refine zae ?_
    refine ih (i+1) _ _ g1 (by omega) ⟨rfl,rfl,rfl,rfl,congrArg ii (zay (n:=5000) (by omega) (by decide)),trivial⟩ rfl ⟨rfl,rfl,?_,trivial⟩ rfl rfl
    rw[ht]
    rfl
   ·have g1:xe.length≤i:=by simpa using g1
    rw[List.take_of_length_le g1]
    refine zax ?_
    refine zaA (J trivial) ⟨rfl,trivial⟩ rfl ⟨rfl,rfl,trivial⟩ rfl rfl
  ·have hb:b.toNat<m.excs.length:=by
    have:b<((m.excs.map (·.name)).length:Int):=by have:¬ b ≥ ((namK m 5).length:Int):=c4;simpa [namK] using this
    rw[List.length_map] at this
    omega
   have hgx:m.excs[b.toNat]? = some m.excs[b.toNat]:=List.getElem?_eq_getElem hb
   have gx:(m.excs.map nexI)[b.toNat]? = some (nexI m.excs[b.toNat]):=by rw[List.getElem?_map,hgx];rfl
   have hWx:W=m.excs[b.toNat].locals.map fun y=>(3,fndI (namK m 3) y.1):=by
    rw[← hW]
    unfold zcY
    simp only[show ¬ (5:Int)=3 by decide,show ¬ (5:Int)=4 by decide,if_false,if_true,hgx,List.map_map]
    rfl
   generalize m.excs[b.toNat]=x at *
   obtain⟨xn,L0⟩:=x
   simp only at hWx gx
   subst hWx
   have hel:L0.length≤12:=by simpa using hrl
   clear hgx hW
   refine zah Tk Tryz.func17 ?_
   refine g_go Tk Tryz.func17 ?_
   repeat (first | refine gcT Tk Tryz.func17 rfl ?_ | refine gkT Tk Tryz.func17 rfl ?_ | refine skT Tk ?_ | refine gcF Tk Tryz.func17 rfl ?_ | refine gkF Tk Tryz.func17 rfl ?_ | refine skF Tk ?_)
   refine zai Tk Tryz.func17 (by exact⟨by omega,by show b<(m.excs.length:Int);omega⟩) ?_
   refine zap Tk Tryz.func17 (gx) ?_
   refine zae ?_
   refine zaj (fun i:Nat=>[(8,.own 0 8 0 0),(9,.fn (.func 60) [] [.own 0 2 0 0,.own 0 8 0 0]),(100,.i (.sl 2 L0.length (L0.map nlcI))),(101,ii L0.length),(102,ii i)]) (fun i=>[(2,.box (mdlC m)),(8,.box [.osl 0 61]),(61,olPl ((L0.take i).map fun y=>(3,fndI (namK m 3) y.1)))]) (fun _=>O) 134
    (fun i=>i≤L0.length) (fun i=>L0.length - i) 0 (Nat.zero_le _) ⟨rfl,rfl,rfl,rfl,rfl,trivial⟩ rfl ⟨rfl,rfl,rfl,trivial⟩ rfl rfl ?_
   intro i hi ih
   have hi:i≤L0.length:=hi
   have hLl:((L0.take i).map fun y=>((3,fndI (namK m 3) y.1):Plc)).length≤1000:=by simp;omega
   refine zah Tk Tryz.func17 ?_
   refine zaf Tk Tryz.func17 rfl (fun g1=>?_) (fun g1=>?_)
   ·have g1:i<L0.length:=by simpa using g1
    have gs:(L0.map nlcI)[(i:Int).toNat]? = some (nlcI L0[i]):=zam (f:=nlcI) g1
    have ht:((L0.take (i+1)).map fun y=>((3,fndI (namK m 3) y.1):Plc))=((L0.take i).map fun y=>((3,fndI (namK m 3) y.1):Plc))++[(3,fndI (namK m 3) L0[i].1)]:=zaB _ g1
    generalize ((L0.take i).map fun y=>((3,fndI (namK m 3) y.1):Plc))=L at *
    generalize L0[i]=y at *
    obtain⟨s,z⟩:=y
    refine zai Tk Tryz.func17 (by exact⟨by omega,by show (i:Int)<(L0.length:Int);omega⟩) ?_
    refine zap Tk Tryz.func17 (gs) ?_
    refine zcA (zb8 (l:=[(8,.own 0 8 0 0),(9,.fn (.func 60) [] [.own 0 2 0 0,.own 0 8 0 0]),(100,.i (.sl 2 L0.length (L0.map nlcI))),(101,ii L0.length),(102,ii i),(106,.fn (.func 60) [] [.own 0 2 0 0,.own 0 8 0 0]),(108,sD s)]) (Hv:=[(2,.box (mdlC m)),(8,.box [.osl 0 61]),(61,olPl L)]) ⟨rfl,rfl,rfl,rfl,rfl,rfl,rfl,trivial⟩ rfl ⟨rfl,rfl,rfl,trivial⟩ rfl rfl) ?_
    refine zbm Tk Tryz.func17 rfl rfl rfl rfl (zcB (zhM O [] m 3 s L hsz hLl) rfl (show 109<134 by decide) rfl rfl ⟨_,_,_,_,_,rfl⟩ (zfk O [] m _ L)) ?_
    refine zae ?_
    refine ih (i+1) _ _ g1 (by omega) ⟨rfl,rfl,rfl,rfl,congrArg ii (zay (n:=5000) (by omega) (by decide)),trivial⟩ rfl ⟨rfl,rfl,?_,trivial⟩ rfl rfl
    rw[ht]
    rfl
   ·have g1:L0.length≤i:=by simpa using g1
    rw[List.take_of_length_le g1]
    refine zax ?_
    refine zaA (J trivial) ⟨rfl,trivial⟩ rfl ⟨rfl,rfl,trivial⟩ rfl rfl
  ·have hb:b.toNat<m.cons.length:=by
    have:b<((m.cons.map (·.name)).length:Int):=by have:¬ b ≥ ((namK m 6).length:Int):=c4;simpa [namK] using this
    rw[List.length_map] at this
    omega
   have hgx:m.cons[b.toNat]? = some m.cons[b.toNat]:=List.getElem?_eq_getElem hb
   have gx:(m.cons.map ncnI)[b.toNat]? = some (ncnI m.cons[b.toNat]):=by rw[List.getElem?_map,hgx];rfl
   have hWx:W=m.cons[b.toNat].terms.map fun y=>(3,fndI (namK m 3) y.1):=by
    rw[← hW]
    unfold zcY
    simp only[show ¬ (6:Int)=3 by decide,show ¬ (6:Int)=4 by decide,show ¬ (6:Int)=5 by decide,if_false,if_true,hgx,List.map_map]
    rfl
   generalize m.cons[b.toNat]=x at *
   obtain⟨xn,L0,xb⟩:=x
   simp only at hWx gx
   subst hWx
   have hel:L0.length≤12:=by simpa using hrl
   clear hgx hW
   refine zah Tk Tryz.func17 ?_
   refine g_go Tk Tryz.func17 ?_
   repeat (first | refine gcT Tk Tryz.func17 rfl ?_ | refine gkT Tk Tryz.func17 rfl ?_ | refine skT Tk ?_ | refine gcF Tk Tryz.func17 rfl ?_ | refine gkF Tk Tryz.func17 rfl ?_ | refine skF Tk ?_)
   refine zai Tk Tryz.func17 (by exact⟨by omega,by show b<(m.cons.length:Int);omega⟩) ?_
   refine zap Tk Tryz.func17 (gx) ?_
   refine zae ?_
   refine zaj (fun i:Nat=>[(8,.own 0 8 0 0),(9,.fn (.func 60) [] [.own 0 2 0 0,.own 0 8 0 0]),(119,.i (.sl 2 L0.length (L0.map ntmI))),(120,ii L0.length),(121,ii i)]) (fun i=>[(2,.box (mdlC m)),(8,.box [.osl 0 61]),(61,olPl ((L0.take i).map fun y=>(3,fndI (namK m 3) y.1)))]) (fun _=>O) 134
    (fun i=>i≤L0.length) (fun i=>L0.length - i) 0 (Nat.zero_le _) ⟨rfl,rfl,rfl,rfl,rfl,trivial⟩ rfl ⟨rfl,rfl,rfl,trivial⟩ rfl rfl ?_
   intro i hi ih
   have hi:i≤L0.length:=hi
   have hLl:((L0.take i).map fun y=>((3,fndI (namK m 3) y.1):Plc)).length≤1000:=by simp;omega
   refine zah Tk Tryz.func17 ?_
   refine zaf Tk Tryz.func17 rfl (fun g1=>?_) (fun g1=>?_)
   ·have g1:i<L0.length:=by simpa using g1
    have gs:(L0.map ntmI)[(i:Int).toNat]? = some (ntmI L0[i]):=zam (f:=ntmI) g1
    have ht:((L0.take (i+1)).map fun y=>((3,fndI (namK m 3) y.1):Plc))=((L0.take i).map fun y=>((3,fndI (namK m 3) y.1):Plc))++[(3,fndI (namK m 3) L0[i].1)]:=zaB _ g1
    generalize ((L0.take i).map fun y=>((3,fndI (namK m 3) y.1):Plc))=L at *
    generalize L0[i]=y at *
    obtain⟨s,z⟩:=y
    refine zai Tk Tryz.func17 (by exact⟨by omega,by show (i:Int)<(L0.length:Int);omega⟩) ?_
    refine zap Tk Tryz.func17 (gs) ?_
    refine zcA (zb8 (l:=[(8,.own 0 8 0 0),(9,.fn (.func 60) [] [.own 0 2 0 0,.own 0 8 0 0]),(119,.i (.sl 2 L0.length (L0.map ntmI))),(120,ii L0.length),(121,ii i),(125,.fn (.func 60) [] [.own 0 2 0 0,.own 0 8 0 0]),(127,sD s)]) (Hv:=[(2,.box (mdlC m)),(8,.box [.osl 0 61]),(61,olPl L)]) ⟨rfl,rfl,rfl,rfl,rfl,rfl,rfl,trivial⟩ rfl ⟨rfl,rfl,rfl,trivial⟩ rfl rfl) ?_
    refine zbm Tk Tryz.func17 rfl rfl rfl rfl (zcB (zhM O [] m 3 s L hsz hLl) rfl (show 128<134 by decide) rfl rfl ⟨_,_,_,_,_,rfl⟩ (zfk O [] m _ L)) ?_
    refine zae ?_
    refine ih (i+1) _ _ g1 (by omega) ⟨rfl,rfl,rfl,rfl,congrArg ii (zay (n:=5000) (by omega) (by decide)),trivial⟩ rfl ⟨rfl,rfl,?_,trivial⟩ rfl rfl
    rw[ht]
    rfl
   ·have g1:L0.length≤i:=by simpa using g1
    rw[List.take_of_length_le g1]
    refine zax ?_
    refine zaA (J trivial) ⟨rfl,trivial⟩ rfl ⟨rfl,rfl,trivial⟩ rfl rfl
 intro _
 refine zah Tk Tryz.func17 ?_
 refine g_go Tk Tryz.func17 ?_
 have h62':=fun O d ho=>h62 O d 61 W hrl ho
 refine zak Tk Tryz.func17 (h62' _ 0 rfl) rfl rfl rfl (zba (ob:=olPl W) rfl (by simp[Ob.sh,zeS])) rfl ?_
 refine zax ?_
 refine zau (zao 61 rfl rfl) ?_
 refine zau (za1 rfl) ?_
 have h65:=fun O=>ztn O (zc3 W) (by rw[zeS];omega) ((zfn W).nodup_iff.2 hrn)
 generalize zc3 W=V at *
 refine zah Tk Tryz.func17 ?_
 refine g_go Tk Tryz.func17 ?_
 refine zak Tk Tryz.func17 (h65 _) rfl rfl rfl rfl rfl ?_
 subst hR
 refine zag Tk (r:=.tup [plsD V,ii 0]) rfl rfl rfl trivial rfl rfl ?_
 rfl
theorem zsj (O:List Heap) (m:Mdl) (a:Int) (h1:a≠1) (h2:a≠2) (h3:a≠3) (h4:a≠4) (h5:a≠5) (h6:a≠6):zan Tryz.prog 40 [mdlD m,ii a] O (ssD []) [] O:=by
 generalize hM:mdlC m=M
 have hg:M=mdlC m:=hM.symm
 subst hg
 clear hM
 refine zaa Tk Tryz.func40 rfl Tryz.call40 Tryz.ntmps40 (Nat.le_of_ble_eq_true rfl) fun E=>?_
 refine zah Tk Tryz.func40 ?_
 refine zaf Tk Tryz.func40 rfl (fun c1=>?_) (fun c1=>?_)
 ·exact absurd (beqT c1) h1
 refine zaf Tk Tryz.func40 rfl (fun c2=>?_) (fun c2=>?_)
 ·exact absurd (beqT c2) h2
 refine zaf Tk Tryz.func40 rfl (fun c3=>?_) (fun c3=>?_)
 ·exact absurd (beqT c3) h3
 refine zaf Tk Tryz.func40 rfl (fun c4=>?_) (fun c4=>?_)
 ·exact absurd (beqT c4) h4
 refine zaf Tk Tryz.func40 rfl (fun c5=>?_) (fun c5=>?_)
 ·exact absurd (beqT c5) h5
 refine zaf Tk Tryz.func40 rfl (fun c6=>?_) (fun c6=>?_)
 ·exact absurd (beqT c6) h6
 refine zaC Tk (r:=.i (.v (.slice none 0 0))) rfl rfl rfl trivial rfl rfl ?_
 repeat' (first | refine zbD ?_ | refine zbp ?_ | refine zck ?_ | refine CoDL.cons ?_ ?_ | exact CoDL.nil | exact za9 | refine zca ?_ | refine CoLL.cons ?_ ?_ | exact CoLL.nil | refine CoL.cons ?_ ?_ | exact CoL.nil | exact CoI.refl _ | exact CoL.refl _ | exact CoLL.refl _ | exact CoDL.refl _ | exact CoD.refl _)
theorem zsk (O:List Heap) (m:Mdl) (a:Int) (hm:szOk m):zan Tryz.prog 40 [mdlD m,ii a] O (ssD (namK m a)) [] O:=by
 unfold namK
 by_cases h1:a=1
 ·subst h1;exact zjZ O m hm.ev
 rw[if_neg h1]
 by_cases h2:a=2
 ·subst h2;exact zeY O m hm.tp
 rw[if_neg h2]
 by_cases h3:a=3
 ·subst h3;exact zgY O m hm.co
 rw[if_neg h3]
 by_cases h4:a=4
 ·subst h4;exact zsl O m hm.rq
 rw[if_neg h4]
 by_cases h5:a=5
 ·subst h5;exact zjY O m hm.ex
 rw[if_neg h5]
 by_cases h6:a=6
 ·subst h6;exact zjX O m hm.cn
 rw[if_neg h6]
 exact zsj O m a h1 h2 h3 h4 h5 h6
theorem ziQ {m:Mdl} (hm:szOk m) (a:Int):(namK m a).length≤1000000:=by
 have:=hm.ev
 have:=hm.tp
 have:=hm.co
 have:=hm.rq
 have:=hm.ex
 have:=hm.cn
 unfold namK
 repeat' (first | (split;· simp only[List.length_map];omega) | (simp only[List.length_nil];omega))
theorem zuZ (O:List Heap) (m:Mdl) (p:Plc) (k:Int) (s:ByteArray) (hm:mdlOk m) (hp:p.1=3∨p.1=4→∃ x,zbE m p = .ok x) (hb:0≤p.2∧p.2<((namK m p.1).length:Int)) (h16:1≤p.1∧p.1≤6) :
  zan Tryz.prog 41 [mdlD m,.agg [ii p.1,ii p.2],ii k,sD s] O (bb (rfrB m p k s)) [] O:=by
 obtain⟨a,b⟩:=p
 simp only at hp hb h16 ⊢
 by_cases h34:a=3∨a=4
 ·obtain⟨x,hx⟩:=hp h34
  have hg:=fun O=>zzx hx O
  have hxe:=ziZ hm (zd5 hx)
  have hR:rfrB m (a,b) k s=((decide (k=2) && sB x.tpl s) || (decide (k=1) && decide (nmIx x.evs s ≥ 0))):=by
   unfold rfrB
   simp only
   rw[if_pos h34]
   have:(if a=3 then m.comps else m.reqs)[b.toNat]? = some x:=by
    unfold zbE at hx
    simp only at hx
    by_cases h1:a=3
    ·rw[if_pos h1] at hx ⊢
     rw[if_neg (by omega)] at hx
     cases h3:m.comps[b.toNat]? with
     | none=>rw[h3] at hx;cases hx
     | some y=>rw[h3] at hx;cases hx;rfl
    ·rw[if_neg h1] at hx ⊢
     rw[if_pos (by omega),if_neg (by omega)] at hx
     cases h3:m.reqs[b.toNat]? with
     | none=>rw[h3] at hx;cases hx
     | some y=>rw[h3] at hx;cases hx;rfl
   rw[this]
  rw[hR]
  have h39:=fun O=>zb4 O x.evs s hxe
  obtain⟨xn,xt,xe⟩:=x
  simp only at h39 ⊢
  generalize nmIx xe s=q at *
  have hsb:=za3 xt s
  rw[← hsb]
  clear hR hx hp hxe hsb
  refine zaM [4] Tk Tryz.func41 rfl Tryz.call41 Tryz.ntmps41 (Nat.le_of_ble_eq_true rfl) fun E=>?_
  refine zah Tk Tryz.func41 ?_
  apply zbS (P:=True) (s6:={ σ:=[(2,ii k),(3,sD s),(4,.own 0 4 0 0),(5,.own 0 5 0 0)],S:=[(4,.box (mdlC m)),(5,.box [ii a,ii b])]::O,n:=87 })
  ·intro J
   refine zaf Tk Tryz.func41 rfl (fun c1=>?_) (fun c1=>?_)
   ·refine zaf Tk Tryz.func41 rfl (fun _=>?_) (fun h=>absurd h (by rw[c1];decide))
    refine zax ?_
    refine zaA (J trivial) ⟨rfl,rfl,rfl,rfl,trivial⟩ rfl ⟨rfl,rfl,trivial⟩ rfl rfl
   ·have c1:¬ a=3:=beqF c1
    refine zaf Tk Tryz.func41 rfl (fun _=>?_) (fun h=>absurd h (by simp;omega))
    refine zax ?_
    refine zaA (J trivial) ⟨rfl,rfl,rfl,rfl,trivial⟩ rfl ⟨rfl,rfl,trivial⟩ rfl rfl
  intro _
  refine zah Tk Tryz.func41 ?_
  refine g_go Tk Tryz.func41 ?_
  refine zak Tk Tryz.func41 (hg _) rfl rfl rfl rfl rfl ?_
  refine zaI Tk Tryz.func41 rfl (fun k1=>?_) (fun k1=>?_)
  ·have k1:k=2:=beqT k1
   refine zaI Tk Tryz.func41 rfl (fun k2=>?_) (fun k2=>?_)
   ·have k2:(xt.toList==s.toList)=true:=k2
    refine zag Tk (r:=bb true) rfl rfl rfl trivial rfl rfl ?_
    rw[k2,decide_eq_true k1];rfl
   ·have k2:(xt.toList==s.toList)=false:=k2
    refine zaI Tk Tryz.func41 rfl (fun k3=>?_) (fun k3=>?_)
    ·have k3:k=1:=beqT k3
     omega
    have k3:¬ k=1:=beqF k3
    refine zag Tk (r:=bb false) rfl rfl rfl trivial rfl rfl ?_
    rw[k2,decide_eq_true k1,decide_eq_false k3];rfl
  ·have k1:¬ k=2:=beqF k1
   refine gkF Tk Tryz.func41 rfl ?_
   refine zaI Tk Tryz.func41 rfl (fun k3=>?_) (fun k3=>?_)
   ·have k3:k=1:=beqT k3
    refine zak Tk Tryz.func41 (h39 _) rfl rfl rfl rfl rfl ?_
    refine zag Tk (r:=bb (decide (q ≥ 0))) rfl rfl rfl trivial rfl rfl ?_
    rw[decide_eq_false k1,decide_eq_true k3]
    simp
   ·have k3:¬ k=1:=beqF k3
    refine zag Tk (r:=bb false) rfl rfl rfl trivial rfl rfl ?_
    rw[decide_eq_false k1,decide_eq_false k3];rfl
 have hn3:¬ a=3:=fun h=>h34 (.inl h)
 have hn4:¬ a=4:=fun h=>h34 (.inr h)
 by_cases h5:a=5
 ·subst h5
  have hbl:b.toNat<m.excs.length:=by
   have:b<((m.excs.map (·.name)).length:Int):=hb.2
   rw[List.length_map] at this
   omega
  have hgx:m.excs[b.toNat]? = some m.excs[b.toNat]:=List.getElem?_eq_getElem hbl
  have gx:(m.excs.map nexI)[b.toNat]? = some (nexI m.excs[b.toNat]):=by rw[List.getElem?_map,hgx];rfl
  have hxl:=(hm.exk m.excs[b.toNat] (List.getElem_mem hbl)).2
  have hR:rfrB m (5,b) k s=m.excs[b.toNat].locals.any fun y=>decide (k=3) && (y.1.toList==s.toList):=by
   unfold rfrB
   simp only[show ¬ ((5:Int)=3∨(5:Int)=4) by decide,if_false,if_true,hgx,za3]
  rw[hR]
  clear hR hp
  generalize m.excs[b.toNat]=x at *
  obtain⟨xn,L⟩:=x
  simp only at hxl ⊢
  generalize hR:(L.any fun y=>decide (k=3) && (y.1.toList==s.toList))=R
  refine zaa Tk Tryz.func41 rfl Tryz.call41 Tryz.ntmps41 (Nat.le_of_ble_eq_true rfl) fun E=>?_
  refine zah Tk Tryz.func41 ?_
  repeat (first | refine gcT Tk Tryz.func41 rfl ?_ | refine gkT Tk Tryz.func41 rfl ?_ | refine skT Tk ?_ | refine gcF Tk Tryz.func41 rfl ?_ | refine gkF Tk Tryz.func41 rfl ?_ | refine skF Tk ?_)
  refine zai Tk Tryz.func41 (by exact⟨hb.1,by show b<(m.excs.length:Int);omega⟩) ?_
  refine zap Tk Tryz.func41 (gx) ?_
  refine zae ?_
  refine zaj (fun i:Nat=>[(2,ii k),(3,sD s),(49,.i (.sl 2 L.length (L.map nlcI))),(50,ii L.length),(51,ii i)]) (fun _=>[]) (fun _=>O) 87
   (fun i=>i≤L.length∧((L.drop i).any fun y=>decide (k=3) && (y.1.toList==s.toList))=R) (fun i=>L.length - i) 0 ⟨Nat.zero_le _,hR⟩ ⟨rfl,rfl,rfl,rfl,rfl,trivial⟩ rfl trivial rfl rfl ?_
  clear hR
  rintro i ⟨hi,hno⟩ ih
  refine zah Tk Tryz.func41 ?_
  refine zaf Tk Tryz.func41 rfl (fun g1=>?_) (fun g1=>?_)
  ·have g1:i<L.length:=by simpa using g1
   have gs:(L.map nlcI)[(i:Int).toNat]? = some (nlcI L[i]):=zam (f:=nlcI) g1
   have hj1:ii (IntKind.i64.wrap ((i:Int)+1))=ii ((i+1:Nat):Int):=congrArg ii (zay (n:=1000001) (by omega) (by decide))
   rw[List.drop_eq_getElem_cons g1,List.any_cons] at hno
   generalize L[i]=y at *
   obtain⟨yc,yl⟩:=y
   simp only at hno
   refine zai Tk Tryz.func41 (by exact⟨by omega,by show (i:Int)<(L.length:Int);omega⟩) ?_
   refine zap Tk Tryz.func41 (gs) ?_
   refine zaI Tk Tryz.func41 rfl (fun k1=>?_) (fun k1=>?_)
   ·have k1:k=3:=beqT k1
    refine zaf Tk Tryz.func41 rfl (fun k2=>?_) (fun k2=>?_)
    ·have k2:(yc.toList==s.toList)=true:=k2
     refine zag Tk (r:=bb true) rfl rfl rfl trivial rfl rfl ?_
     rw[← hno,k2,decide_eq_true k1];rfl
    ·have k2:(yc.toList==s.toList)=false:=k2
     refine zae ?_
     exact ih (i+1) _ _ ⟨g1,by rw[← hno,k2];simp⟩ (by omega) ⟨rfl,rfl,rfl,rfl,hj1,trivial⟩ rfl trivial rfl rfl
   ·have k1:¬ k=3:=beqF k1
    refine gcF Tk Tryz.func41 rfl ?_
    refine zae ?_
    exact ih (i+1) _ _ ⟨g1,by rw[← hno,decide_eq_false k1];simp⟩ (by omega) ⟨rfl,rfl,rfl,rfl,hj1,trivial⟩ rfl trivial rfl rfl
  ·have g1:L.length≤i:=by simpa using g1
   rw[List.drop_eq_nil_of_le g1] at hno
   refine zag Tk (r:=bb false) rfl rfl rfl trivial rfl rfl ?_
   rw[← hno];rfl
 by_cases h6:a=6
 ·subst h6
  have hbl:b.toNat<m.cons.length:=by
   have:b<((m.cons.map (·.name)).length:Int):=hb.2
   rw[List.length_map] at this
   omega
  have hgx:m.cons[b.toNat]? = some m.cons[b.toNat]:=List.getElem?_eq_getElem hbl
  have gx:(m.cons.map ncnI)[b.toNat]? = some (ncnI m.cons[b.toNat]):=by rw[List.getElem?_map,hgx];rfl
  have hxl:=(hm.cnk m.cons[b.toNat] (List.getElem_mem hbl)).2
  have hR:rfrB m (6,b) k s=m.cons[b.toNat].terms.any fun y=>decide (k=3) && (y.1.toList==s.toList):=by
   unfold rfrB
   simp only[show ¬ ((6:Int)=3∨(6:Int)=4) by decide,show ¬ (6:Int)=5 by decide,if_false,if_true,hgx,za3]
  rw[hR]
  clear hR hp
  generalize m.cons[b.toNat]=x at *
  obtain⟨xn,L,xb⟩:=x
  simp only at hxl ⊢
  generalize hR:(L.any fun y=>decide (k=3) && (y.1.toList==s.toList))=R
  refine zaa Tk Tryz.func41 rfl Tryz.call41 Tryz.ntmps41 (Nat.le_of_ble_eq_true rfl) fun E=>?_
  refine zah Tk Tryz.func41 ?_
  repeat (first | refine gcT Tk Tryz.func41 rfl ?_ | refine gkT Tk Tryz.func41 rfl ?_ | refine skT Tk ?_ | refine gcF Tk Tryz.func41 rfl ?_ | refine gkF Tk Tryz.func41 rfl ?_ | refine skF Tk ?_)
  refine zai Tk Tryz.func41 (by exact⟨hb.1,by show b<(m.cons.length:Int);omega⟩) ?_
  refine zap Tk Tryz.func41 (gx) ?_
  refine zae ?_
  refine zaj (fun i:Nat=>[(2,ii k),(3,sD s),(72,.i (.sl 2 L.length (L.map ntmI))),(73,ii L.length),(74,ii i)]) (fun _=>[]) (fun _=>O) 87
   (fun i=>i≤L.length∧((L.drop i).any fun y=>decide (k=3) && (y.1.toList==s.toList))=R) (fun i=>L.length - i) 0 ⟨Nat.zero_le _,hR⟩ ⟨rfl,rfl,rfl,rfl,rfl,trivial⟩ rfl trivial rfl rfl ?_
  clear hR
  rintro i ⟨hi,hno⟩ ih
  refine zah Tk Tryz.func41 ?_
  refine zaf Tk Tryz.func41 rfl (fun g1=>?_) (fun g1=>?_)
  ·have g1:i<L.length:=by simpa using g1
   have gs:(L.map ntmI)[(i:Int).toNat]? = some (ntmI L[i]):=zam (f:=ntmI) g1
   have hj1:ii (IntKind.i64.wrap ((i:Int)+1))=ii ((i+1:Nat):Int):=congrArg ii (zay (n:=1000001) (by omega) (by decide))
   rw[List.drop_eq_getElem_cons g1,List.any_cons] at hno
   generalize L[i]=y at *
   obtain⟨yc,yl⟩:=y
   simp only at hno
   refine zai Tk Tryz.func41 (by exact⟨by omega,by show (i:Int)<(L.length:Int);omega⟩) ?_
   refine zap Tk Tryz.func41 (gs) ?_
   refine zaI Tk Tryz.func41 rfl (fun k1=>?_) (fun k1=>?_)
   ·have k1:k=3:=beqT k1
    refine zaf Tk Tryz.func41 rfl (fun k2=>?_) (fun k2=>?_)
    ·have k2:(yc.toList==s.toList)=true:=k2
     refine zag Tk (r:=bb true) rfl rfl rfl trivial rfl rfl ?_
     rw[← hno,k2,decide_eq_true k1];rfl
    ·have k2:(yc.toList==s.toList)=false:=k2
     refine zae ?_
     exact ih (i+1) _ _ ⟨g1,by rw[← hno,k2];simp⟩ (by omega) ⟨rfl,rfl,rfl,rfl,hj1,trivial⟩ rfl trivial rfl rfl
   ·have k1:¬ k=3:=beqF k1
    refine gcF Tk Tryz.func41 rfl ?_
    refine zae ?_
    exact ih (i+1) _ _ ⟨g1,by rw[← hno,decide_eq_false k1];simp⟩ (by omega) ⟨rfl,rfl,rfl,rfl,hj1,trivial⟩ rfl trivial rfl rfl
  ·have g1:L.length≤i:=by simpa using g1
   rw[List.drop_eq_nil_of_le g1] at hno
   refine zag Tk (r:=bb false) rfl rfl rfl trivial rfl rfl ?_
   rw[← hno];rfl
 ·have hR:rfrB m (a,b) k s=false:=by
   unfold rfrB
   simp only[h34,h5,h6,if_false]
  rw[hR]
  refine zaa Tk Tryz.func41 rfl Tryz.call41 Tryz.ntmps41 (Nat.le_of_ble_eq_true rfl) fun E=>?_
  refine zah Tk Tryz.func41 ?_
  refine zaf Tk Tryz.func41 rfl (fun h=>absurd h (by simpa using hn3)) (fun _=>?_)
  refine zaf Tk Tryz.func41 rfl (fun h=>absurd h (by simpa using hn4)) (fun _=>?_)
  refine zaf Tk Tryz.func41 rfl (fun h=>absurd h (by simpa using h5)) (fun _=>?_)
  refine zaf Tk Tryz.func41 rfl (fun h=>absurd h (by simpa using h6)) (fun _=>?_)
  refine zag Tk (r:=bb false) rfl rfl rfl trivial rfl rfl ?_
  rfl
def lwG (m:Mdl) (f:Int→ByteArray→Bool) (k:Int):List Plc:=((List.range (namK m k).length).filter fun n=>f k ((namK m k).getD n ⟨#[]⟩)).map fun n=>(k,((n:Nat):Int))
def lwP (m:Mdl) (f:Int→ByteArray→Bool) (i:Nat):List Plc:=(([1,2,3]:List Int).take i).flatMap (lwG m f)
def lwQ (N:List ByteArray) (f:ByteArray→Bool) (k:Int) (j:Nat):List Plc:=((List.range j).filter fun n=>f (N.getD n ⟨#[]⟩)).map fun n=>(k,((n:Nat):Int))
theorem zxD {N:List ByteArray} {f:ByteArray→Bool} {k:Int} {j:Nat} (h:j<N.length):lwQ N f k (j+1)=lwQ N f k j++if f N[j]=true then [(k,(j:Int))] else []:=by
 have e:N.getD j ⟨#[]⟩=N[j]:=by rw[List.getD_eq_getElem?_getD,List.getElem?_eq_getElem h];rfl
 unfold lwQ
 rw[List.range_succ,List.filter_append,List.map_append]
 congr 1
 by_cases c:f N[j]=true
 ·rw[if_pos c,List.filter_cons_of_pos (by rw[e];exact c)];rfl
 ·rw[if_neg c,List.filter_cons_of_neg (by rw[e];exact c)];rfl
theorem zsv (N:List ByteArray) (f:ByteArray→Bool) (k:Int) (j:Nat):(lwQ N f k j).length≤j:=by
 unfold lwQ
 rw[List.length_map]
 exact Nat.le_trans (List.length_filter_le _ _) (by rw[List.length_range];exact Nat.le_refl _)
theorem zxE (m:Mdl) (f:Int→ByteArray→Bool) {i:Nat} (h:i<3):lwP m f (i+1)=lwP m f i++lwG m f ((i:Int)+1):=by
 unfold lwP
 have:([1,2,3]:List Int).take (i+1)=([1,2,3]:List Int).take i++[(i:Int)+1]:=by
  match i,h with
  | 0,_=>rfl
  | 1,_=>rfl
  | 2,_=>rfl
 rw[this,List.flatMap_append]
 simp
theorem zxF {m:Mdl} (hm:szOk m) (f:Int→ByteArray→Bool) (i:Nat):(lwP m f i).length≤3 * 1000000:=by
 have h:=zwq (f:=lwG m f) (k:=1000000) (l:=([1,2,3]:List Int).take i) fun k _=>Nat.le_trans (zsv (namK m k) (f k) k _) (ziQ hm k)
 refine Nat.le_trans h (Nat.mul_le_mul_right _ ?_)
 rw[List.length_take]
 exact Nat.min_le_right _ _
theorem zpz (m:Mdl) (p:Plc):((useR m p).2≠0∧(useR m p).1=[])∨((useR m p).2=0∧(mdlE m).2=0∧(1≤p.1∧p.1≤6)∧(0≤p.2∧p.2<((namK m p.1).length:Int))∧(useR m p).1=zc3 ((zcY m p).map (ixR m))):=by
 unfold useR
 by_cases h1:(mdlE m).2≠0
 ·rw[if_pos h1];exact .inl ⟨h1,rfl⟩
 rw[if_neg h1]
 by_cases h2:p.1<1∨p.1>6
 ·rw[if_pos h2];exact .inl ⟨by decide,rfl⟩
 rw[if_neg h2]
 by_cases h3:p.2<0∨p.2 ≥ ((namK m p.1).length:Int)
 ·rw[if_pos h3];exact .inl ⟨by decide,rfl⟩
 rw[if_neg h3]
 exact .inr ⟨rfl,Classical.byContradiction h1,by omega,by omega,rfl⟩
theorem zrZ {m:Mdl} {p:Plc} (h:p.1=3∨p.1=4) (hb:0≤p.2∧p.2<((namK m p.1).length:Int)):∃ x,zbE m p = .ok x:=by
 obtain⟨a,b⟩:=p
 simp only at h hb
 unfold zbE
 simp only
 rcases h with rfl | rfl
 ·have:b<((m.comps.map (·.name)).length:Int):=hb.2
  rw[List.length_map] at this
  refine⟨m.comps[b.toNat]'(by omega),?_⟩
  rw[if_pos rfl,if_neg (by omega),List.getElem?_eq_getElem (by omega)]
 ·have:b<((m.reqs.map (·.name)).length:Int):=hb.2
  rw[List.length_map] at this
  refine⟨m.reqs[b.toNat]'(by omega),?_⟩
  rw[if_neg (by decide),if_pos rfl,if_neg (by omega),List.getElem?_eq_getElem (by omega)]
theorem zpW {m:Mdl} (h1:∀ x,x∈m.comps∨x∈m.reqs→x.evs.length≤11) (h2:∀ x∈m.excs,x.locals.length≤12) (h3:∀ x∈m.cons,x.terms.length≤12) (p:Plc):(zcY m p).length≤12:=by
 unfold zcY
 by_cases k3:p.1=3
 ·rw[if_pos k3]
  cases hx:m.comps[p.2.toNat]? with
  | none=>simp
  | some x=>
   have:=h1 x (.inl (List.mem_of_getElem? hx))
   simp only[zcH,List.length_cons,List.length_map]
   omega
 rw[if_neg k3]
 by_cases k4:p.1=4
 ·rw[if_pos k4]
  cases hx:m.reqs[p.2.toNat]? with
  | none=>simp
  | some x=>
   have:=h1 x (.inr (List.mem_of_getElem? hx))
   simp only[zcH,List.length_cons,List.length_map]
   omega
 rw[if_neg k4]
 by_cases k5:p.1=5
 ·rw[if_pos k5]
  cases hx:m.excs[p.2.toNat]? with
  | none=>simp
  | some x=>
   have:=h2 x (List.mem_of_getElem? hx)
   simp only[List.length_map]
   omega
 rw[if_neg k5]
 by_cases k6:p.1=6
 ·rw[if_pos k6]
  cases hx:m.cons[p.2.toNat]? with
  | none=>simp
  | some x=>
   have:=h3 x (List.mem_of_getElem? hx)
   simp only[List.length_map]
   omega
 rw[if_neg k6]
 simp
theorem zxZ {g:Nat} (hg:zfP g) {ty:TypeId} {fr:Nat × Nat} (O:List Heap) (k:Sk22) (p:Plc) (nm:ByteArray) (hk:sk22Ok k) (hsl:nm.size≤zaq) :
  zbx g (ptab ty fr) Tryz.prog 10 [zw1 k,.agg [ii p.1,ii p.2],sD nm] O (bb true) [] O:=by
 have hkn:=fun O=>zxN hg (ty:=ty) (fr:=fr) O
 by_cases h40:nm.size≤40
 rotate_left
 ·refine za0 [] Tk Tryz.func10 rfl Tryz.call10 Tryz.ntmps10 (Nat.le_of_ble_eq_true rfl) fun E hE=>?_
  refine zah Tk Tryz.func10 ?_
  refine zbC Tk Tryz.func10 hE (hkn _) rfl rfl rfl rfl rfl rfl ?_
  refine gkF Tk Tryz.func10 rfl ?_
  refine zaf Tk Tryz.func10 rfl (fun _=>?_) (fun h=>absurd h (by rw[decide_eq_true (show ((nm.size:Nat):Int)>40 by omega)];simp))
  refine zbC Tk Tryz.func10 hE (hkn _) rfl rfl rfl rfl rfl rfl ?_
  refine zag Tk (r:=bb true) rfl rfl rfl trivial rfl rfl ?_
  rfl
 have hmk:=fun O=>zyS hg (ty:=ty) (fr:=fr) O k hk
 have hm:=zvi hk
 have hev:((zcG k).evs.map (·.name)).Nodup:=by rw[zg5];exact zqr
 have hsm:=fun p=>zpW (m:=zcG k) (fun x hx=>by
  have:x∈(mkI k).1++(mkI k).2:=by
   rcases hx with hx | hx
   ·rw[zey] at hx;exact List.mem_append_left _ hx
   ·rw[zfs] at hx;exact List.mem_append_right _ hx
  have:=znT (mkT k).length k.ins (zel k) x this
  omega) (fun x hx=>by have:=(zhZ.2 x hx).2;omega) (fun x hx=>by have:=(zh0.2 x hx).2;omega) p
 clear hk
 generalize zcG k=m at *
 have hsz:=hm.toszOk
 have h38:=fun O=>zdw O m p.1 nm hsz
 have h40:=fun O a=>zsk O m a hsz
 have h39:=fun O=>zb4 O (namK m p.1) nm (ziQ hsz p.1)
 have h17:=fun O=>zzi O m p hm (fun h=>⟨hsm p,(zrn h hev p).1⟩)
 have h15:=fun O=>zyd O m hm
 have hcs:=zpz m p
 have hlw:=fun h=>(zrn (m:=m) h hev p).2
 have h41:=fun O h1 h2 h3 k s=>zuZ O m p k s hm h1 h2 h3
 have hpi:=fun h=>zrZ (m:=m) (p:=p) h
 have hnl:=ziQ hsz
 have hlQ:=fun i=>zxF hsz (rfrB m p) i
 have hW:(useR m p).2=if (mdlE m).2≠0 then (mdlE m).2 else if p.1<1∨p.1>6 then 11 else if p.2<0∨p.2 ≥ ((namK m p.1).length:Int) then 10 else 0:=by
  unfold useR
  by_cases h1:(mdlE m).2≠0
  ·rw[if_pos h1,if_pos h1]
  rw[if_neg h1,if_neg h1]
  by_cases h2:p.1<1∨p.1>6
  ·rw[if_pos h2,if_pos h2]
  rw[if_neg h2,if_neg h2]
  by_cases h3:p.2<0∨p.2 ≥ ((namK m p.1).length:Int)
  ·rw[if_pos h3,if_pos h3]
  ·rw[if_neg h3,if_neg h3]
 generalize hUU:useR m p=UU at *
 generalize hEE:mdlE m=EE at *
 generalize nmIx (namK m p.1) nm=q at *
 obtain⟨l,W⟩:=UU
 obtain⟨⟨w1,w2⟩,w3⟩:=EE
 obtain⟨a,b⟩:=p
 simp only at h38 h39 h17 h15 hcs hlw hW
 have h17:∀ O,zan Tryz.prog 17 [mdlD m,.agg [ii a,ii b]] O (.tup [plsD l,ii W]) [] O:=h17
 have h15:∀ O,zan Tryz.prog 15 [mdlD m] O (.tup [.agg [ii w1,ii w2],ii w3]) [] O:=h15
 have h38:∀ O,zan Tryz.prog 38 [mdlD m,ii a,sD nm] O (.tup [ii (if q<0 then 0 else q),bb (decide (0≤q))]) [] O:=h38
 have h40a:=fun O=>h40 O a
 refine za0 [14,26] Tk Tryz.func10 rfl Tryz.call10 Tryz.ntmps10 (Nat.le_of_ble_eq_true rfl) fun E hE=>?_
 refine zah Tk Tryz.func10 ?_
 refine zbC Tk Tryz.func10 hE (hkn _) rfl rfl rfl rfl rfl rfl ?_
 refine gkF Tk Tryz.func10 rfl ?_
 refine zaf Tk Tryz.func10 rfl (fun h=>absurd h (by rw[decide_eq_false (show ¬ ((nm.size:Nat):Int)>40 by omega)];simp)) (fun _=>?_)
 refine zbC Tk Tryz.func10 hE (hmk _) rfl rfl rfl rfl rfl rfl ?_
 refine zak Tk Tryz.func10 (h38 _) rfl rfl rfl rfl rfl ?_
 refine zak Tk Tryz.func10 (h40a _) rfl rfl rfl rfl rfl ?_
 refine zak Tk Tryz.func10 (h39 _) rfl rfl rfl rfl rfl ?_
 refine zaI Tk Tryz.func10 rfl (fun h=>absurd h (by simp)) (fun _=>?_)
 refine zaf Tk Tryz.func10 rfl (fun h=>absurd h (by simp)) (fun _=>?_)
 refine zak Tk Tryz.func10 (h17 _) rfl rfl rfl rfl rfl ?_
 refine zak Tk Tryz.func10 (h15 _) rfl rfl rfl rfl rfl ?_
 apply zbS (P:=True) (s6:={ σ:=[(4,.own 0 4 0 0),(7,.own 0 7 0 0),(11,plsD l),(12,ii W),(14,ii W)],S:=[(4,.box [ii a,ii b]),(7,.box (mdlC m))]::O,n:=151 })
 ·intro J
  refine zaI Tk Tryz.func10 rfl (fun c0=>?_) (fun c0=>?_)
  ·have c0:w3=0:=beqT c0
   rw[if_neg (fun h=>h c0)] at hW
   refine zaI Tk Tryz.func10 rfl (fun c1=>?_) (fun c1=>?_)
   ·have c1:a<1:=of_decide_eq_true c1
    rw[if_pos (.inl c1)] at hW
    refine gcT Tk Tryz.func10 rfl ?_
    refine zas Tk Tryz.func10 zaz rfl ?_
    refine skF Tk ?_
    refine zaD Tk Tryz.func10 (by kernel_rfl) ?_
    refine gcF Tk Tryz.func10 rfl ?_
    refine zax ?_
    exact zaA (J trivial) ⟨rfl,rfl,rfl,rfl,congrArg ii hW.symm,trivial⟩ rfl ⟨rfl,rfl,trivial⟩ rfl rfl
   have c1:¬ a<1:=of_decide_eq_false c1
   refine zaf Tk Tryz.func10 rfl (fun c2=>?_) (fun c2=>?_)
   ·have c2:a>6:=of_decide_eq_true c2
    rw[if_pos (.inr c2)] at hW
    refine zas Tk Tryz.func10 zaz rfl ?_
    refine skF Tk ?_
    refine zaD Tk Tryz.func10 (by kernel_rfl) ?_
    refine gcF Tk Tryz.func10 rfl ?_
    refine zax ?_
    exact zaA (J trivial) ⟨rfl,rfl,rfl,rfl,congrArg ii hW.symm,trivial⟩ rfl ⟨rfl,rfl,trivial⟩ rfl rfl
   have c2:¬ a>6:=of_decide_eq_false c2
   rw[if_neg (by omega)] at hW
   refine zas Tk Tryz.func10 zaz rfl ?_
   refine zbq Tk (fun _=>?_) (fun h=>absurd h (by simpa using c0))
   refine zbq Tk (fun c3=>?_) (fun c3=>?_)
   ·have c3:b<0:=of_decide_eq_true c3
    rw[if_pos (.inl c3)] at hW
    refine zaD Tk Tryz.func10 (by kernel_rfl) ?_
    refine gcT Tk Tryz.func10 rfl ?_
    refine zax ?_
    exact zaA (J trivial) ⟨rfl,rfl,rfl,rfl,congrArg ii hW.symm,trivial⟩ rfl ⟨rfl,rfl,trivial⟩ rfl rfl
   have c3:¬ b<0:=of_decide_eq_false c3
   refine zaH Tk (fun _=>h40a _) rfl rfl rfl ?_
   refine zaD Tk Tryz.func10 (by kernel_rfl) ?_
   refine zaf Tk Tryz.func10 rfl (fun c4=>?_) (fun c4=>?_)
   ·have c4:b ≥ ((namK m a).length:Int):=of_decide_eq_true c4
    rw[if_pos (.inr c4)] at hW
    refine zax ?_
    exact zaA (J trivial) ⟨rfl,rfl,rfl,rfl,congrArg ii hW.symm,trivial⟩ rfl ⟨rfl,rfl,trivial⟩ rfl rfl
   have c4:¬ b ≥ ((namK m a).length:Int):=of_decide_eq_false c4
   rw[if_neg (by omega)] at hW
   refine zax ?_
   exact zaA (J trivial) ⟨rfl,rfl,rfl,rfl,congrArg ii (c0.trans hW.symm),trivial⟩ rfl ⟨rfl,rfl,trivial⟩ rfl rfl
  ·have c0:w3≠0:=beqF c0
   rw[if_pos c0] at hW
   refine gcF Tk Tryz.func10 rfl ?_
   refine zas Tk Tryz.func10 zaz rfl ?_
   refine zbq Tk (fun h=>absurd h (by simpa using c0)) (fun _=>?_)
   refine zaD Tk Tryz.func10 (by kernel_rfl) ?_
   refine gcF Tk Tryz.func10 rfl ?_
   refine zax ?_
   exact zaA (J trivial) ⟨rfl,rfl,rfl,rfl,congrArg ii hW.symm,trivial⟩ rfl ⟨rfl,rfl,trivial⟩ rfl rfl
 intro _
 refine zah Tk Tryz.func10 ?_
 refine g_go Tk Tryz.func10 ?_
 rcases hcs with ⟨hw,hl⟩ | ⟨hw,he,h16,hb,hl⟩
 ·subst hl
  refine zaf Tk Tryz.func10 rfl (fun _=>?_) (fun h=>absurd h (by simpa using hw))
  refine gkT Tk Tryz.func10 rfl ?_
  refine zag Tk (r:=bb (W==W)) rfl rfl rfl trivial rfl rfl ?_
  simp
 subst hw
 rw[hlw he] at hl
 have h41':=fun O k s=>h41 O (fun h=>hpi h hb) hb h16 k s
 clear h41 hpi hW hUU hEE h17 h15 h38 h39 hlw
 generalize rfrB m (a,b)=f at *
 refine gcF Tk Tryz.func10 rfl ?_
 refine g_wk (zbh 15 127 41 2 rfl rfl rfl) ?_
 refine zae ?_
 refine zaj (fun i:Nat=>[(4,.own 0 4 0 0),(7,.own 0 7 0 0),(11,plsD l),(12,ii 0),(15,.osl 0 127),(16,ii ((i:Int)+1))])
  (fun i=>[(4,.box [ii a,ii b]),(7,.box (mdlC m)),(127,olPl (lwP m f i))]) (fun _=>O) 151
  (fun i=>i≤3) (fun i=>3 - i) 0 (Nat.zero_le _) ⟨rfl,rfl,rfl,rfl,rfl,rfl,trivial⟩ rfl ⟨rfl,rfl,rfl,trivial⟩ rfl rfl ?_
 intro i hi ih
 have hi:i≤3:=hi
 have hPl:=hlQ i
 refine zah Tk Tryz.func10 ?_
 refine zaf Tk Tryz.func10 rfl (fun g1=>?_) (fun g1=>?_)
 ·have g7:i<3:=by have:(i:Int)+1≤3:=of_decide_eq_true g1;omega
  have hs:=zxE m f g7
  have hgE:lwG m f ((i:Int)+1)=lwQ (namK m ((i:Int)+1)) (f ((i:Int)+1)) ((i:Int)+1) (namK m ((i:Int)+1)).length:=rfl
  rw[hgE] at hs
  clear hgE
  have h40i:=fun O=>h40 O ((i:Int)+1)
  have h41i:=fun O s=>h41' O ((i:Int)+1) s
  have hNl:=hnl ((i:Int)+1)
  have hi1:ii (IntKind.i64.wrap ((i:Int)+1+1))=ii (((i+1:Nat):Int)+1):=by rw[w64 (by omega) (by omega)];rfl
  generalize hN:namK m ((i:Int)+1)=N at *
  clear hN
  generalize hkk:(i:Int)+1=kk at *
  generalize lwP m f i=A at *
  refine zak Tk Tryz.func10 (h40i _) rfl rfl rfl rfl rfl ?_
  refine zae ?_
  refine zaj (fun j:Nat=>[(4,.own 0 4 0 0),(7,.own 0 7 0 0),(11,plsD l),(12,ii 0),(15,.osl 0 127),(16,ii kk),(110,ssD N),(111,ii N.length),(112,ii j)])
   (fun j=>[(4,.box [ii a,ii b]),(7,.box (mdlC m)),(127,olPl (A++lwQ N (f kk) kk j))]) (fun _=>O) 151
   (fun j=>j≤N.length) (fun j=>N.length - j) 0 (Nat.zero_le _) ⟨rfl,rfl,rfl,rfl,rfl,rfl,rfl,rfl,rfl,trivial⟩ rfl ⟨rfl,rfl,congrArg (fun l=>some (olPl l)) (show A=A++lwQ N (f kk) kk 0 by simp[lwQ]),trivial⟩ rfl rfl ?_
  intro j hj ih2
  have hj:j≤N.length:=hj
  have hQl:=zsv N (f kk) kk j
  refine zah Tk Tryz.func10 ?_
  refine zaf Tk Tryz.func10 rfl (fun g2=>?_) (fun g2=>?_)
  ·have g2:j<N.length:=by simpa using g2
   have gs:(N.map fun s=>[strI s])[(j:Int).toNat]? = some [strI N[j]]:=zam (f:=fun s=>[strI s]) g2
   have hq:=zxD (f:=f kk) (k:=kk) g2
   have hj1:ii (IntKind.i64.wrap ((j:Int)+1))=ii ((j+1:Nat):Int):=congrArg ii (zay (n:=1000001) (by omega) (by decide))
   have h41j:=fun O=>h41i O N[j]
   have hBl:(A++lwQ N (f kk) kk j).length≤4 * 1000000:=by rw[List.length_append];omega
   generalize hB:A++lwQ N (f kk) kk j=B at *
   generalize f kk N[j]=t at *
   generalize N[j]=s at *
   refine zai Tk Tryz.func10 (by exact⟨by omega,by show (j:Int)<(N.length:Int);omega⟩) ?_
   refine zap Tk Tryz.func10 (gs) ?_
   refine zak Tk Tryz.func10 (h41j _) rfl rfl rfl rfl rfl ?_
   refine zaf Tk Tryz.func10 rfl (fun c5=>?_) (fun c5=>?_)
   ·have c5:t=true:=c5
    rw[if_pos c5] at hq
    refine zai Tk Tryz.func10 (by exact⟨by show (B.length+1) * 16≤140737488355328;omega,by show B.length+1≤9223372036854775807;omega⟩) ?_
    refine zae ?_
    refine ih2 (j+1) _ _ g2 (by omega) ⟨rfl,rfl,rfl,rfl,rfl,rfl,rfl,rfl,hj1,trivial⟩ rfl ⟨rfl,rfl,?_,trivial⟩ rfl rfl
    rw[hq,← List.append_assoc A,hB]
    show some (Ob.arr 41 2 (B.length+1) (B.map plcI++[plcI (kk,(j:Int))]) true)=some (olPl (B++[(kk,(j:Int))]))
    simp[olPl]
   ·have c5:t=false:=c5
    rw[if_neg (by rw[c5];decide),List.append_nil] at hq
    refine zae ?_
    refine ih2 (j+1) _ _ g2 (by omega) ⟨rfl,rfl,rfl,rfl,rfl,rfl,rfl,rfl,hj1,trivial⟩ rfl ⟨rfl,rfl,?_,trivial⟩ rfl rfl
    rw[hq,hB]
    rfl
  ·have g2:N.length≤j:=by simpa using g2
   have e2:j=N.length:=by omega
   subst e2
   rw[← hs]
   refine zae ?_
   exact ih (i+1) _ _ g7 (by omega) ⟨rfl,rfl,rfl,rfl,rfl,hi1,trivial⟩ rfl ⟨rfl,rfl,rfl,trivial⟩ rfl rfl
 have g1:i=3:=by have:¬ (i:Int)+1≤3:=of_decide_eq_false g1;omega
 subst g1
 have hlP:lwP m f 3=zlo m f:=rfl
 rw[hlP,← hl]
 rw[hlP,← hl] at hPl
 clear ih hi hl hlP h40 h41' hlQ hnl
 refine zax ?_
 refine zau (zao 127 rfl rfl) ?_
 refine zau (za1 rfl) ?_
 refine zah Tk Tryz.func10 ?_
 refine g_go Tk Tryz.func10 ?_
 refine zaf Tk Tryz.func10 rfl (fun h=>absurd h (by simp)) (fun _=>?_)
 refine zae ?_
 refine zaj (fun i:Nat=>[(11,plsD l),(12,ii 0),(15,plsD l),(19,ii i)]) (fun _=>[]) (fun _=>O) 151
  (fun i=>i≤l.length) (fun i=>l.length - i) 0 (Nat.zero_le _) ⟨rfl,rfl,rfl,rfl,trivial⟩ rfl trivial rfl rfl ?_
 intro i hi ih
 have hi:i≤l.length:=hi
 refine zah Tk Tryz.func10 ?_
 refine zaf Tk Tryz.func10 rfl (fun g3=>?_) (fun g3=>?_)
 ·have g3:i<l.length:=by simpa using g3
  have gs:(l.map plcI)[(i:Int).toNat]? = some (plcI l[i]):=zam (f:=plcI) g3
  generalize l[i]=x at *
  obtain⟨xa,xb⟩:=x
  refine zas Tk Tryz.func10 zaz rfl ?_
  refine zar Tk (by exact⟨by omega,by show (i:Int)<(l.length:Int);omega⟩) ?_
  refine zaG Tk (gs) ?_
  refine zar Tk (by exact⟨by omega,by show (i:Int)<(l.length:Int);omega⟩) ?_
  refine zaG Tk (gs) ?_
  refine zaD Tk Tryz.func10 (by kernel_rfl) ?_
  refine zaf Tk Tryz.func10 rfl (fun h=>absurd h (by simp)) (fun _=>?_)
  refine zae ?_
  exact ih (i+1) _ _ g3 (by omega) ⟨rfl,rfl,rfl,congrArg ii (zay (n:=10000000) (by omega) (by decide)),trivial⟩ rfl trivial rfl rfl
 ·refine zag Tk (r:=bb (0==0)) rfl rfl rfl trivial rfl rfl ?_
  rfl
end Go.AI
namespace Go.Proofs.YtnojpbbaohoadaaGreatDoor
set_option maxRecDepth 100000
theorem zbP:laidOutB Tryz.prog=true:=by kernel_rfl
theorem zfH:mapsRowed Tryz.prog=true:=by kernel_rfl
theorem zfd:(Rows.elaborateFindsRow.inPlace==Tryz.prog.inPlace 10)=true:=by kernel_rfl
theorem zfc:(Rows.elaborateFindsRow.unfollowed==Tryz.prog.unfollowed 10)=true:=by kernel_rfl
theorem zfb:(Rows.elaborateFindsRow.recurses==Tryz.prog.recurses 10)=true:=by kernel_rfl
theorem zfa:(Rows.elaborateFindsRow.named==Tryz.prog.varsNamed 10)=true:=by kernel_rfl
theorem zdU:joinedFacts Tryz.prog 10 Tryz.f10 Rows.elaborateFindsSpec Rows.elaborateFindsRow=true:=by
 simp only[joinedFacts,Bool.and_eq_true]
 repeat' refine And.intro ?_ ?_
 ·kernel_rfl
 ·exact zbP
 ·exact zfH
 ·kernel_rfl
 ·kernel_rfl
 ·kernel_rfl
 ·kernel_rfl
 ·kernel_rfl
 ·kernel_rfl
 ·exact zfd
 ·exact zfc
 ·exact zfb
 ·exact zfa
 ·kernel_rfl
 ·kernel_rfl
 ·kernel_rfl
 ·kernel_rfl
 ·kernel_rfl
 ·kernel_rfl
 ·kernel_rfl
 ·kernel_rfl
 ·kernel_rfl
 ·kernel_rfl
 ·kernel_rfl
 ·kernel_rfl
 ·kernel_rfl
 ·kernel_rfl
 ·kernel_rfl
 ·kernel_rfl
 ·kernel_rfl
 ·kernel_rfl
 ·kernel_rfl
theorem zeJ : Tryz.prog.mainIs = some (true, "9aa124d96d2f2fea36404c3e6649a1942013d744947b2e2ae648d5b84282eb38".toList) := by kernel_rfl
theorem zef:false=Tryz.prog.looks []:=by kernel_rfl
theorem zeK:false=Rows.elaborateFindsRow.goesBy Tryz.prog:=by kernel_rfl
end Go.Proofs.YtnojpbbaohoadaaGreatDoor
