/- The layer of abstract runs, part 29. -/
import Derived.Test.YtnojpbbaohoadaaGreatDoorElkZB
set_option linter.unusedSimpArgs false
set_option linter.unusedVariables false
set_option linter.all false
set_option maxHeartbeats 4000000
namespace Go.AI
open Go.Proofs
set_option maxRecDepth 20000
theorem zxT {m:Mdl} (h:(chkT m).2=0):∀t∈m.tpls,tplE t=0:=by
 unfold chkT at h
 by_cases h2:m.tpls.length>16
 ·rw[if_pos h2] at h;simp at h
 rw[if_neg h2] at h;exact zej (zfT (fun _ _ h=>zbV h) h).1
theorem zvO {m:Mdl} (h:(chkI m).2=0):∀c∈m.reqs,insE m c=0:=by
 unfold chkI at h
 by_cases h2:m.comps.length=0
 ·rw[if_pos h2] at h;simp at h
 rw[if_neg h2] at h
 by_cases h3:m.comps.length>8
 ·rw[if_pos h3] at h;simp at h
 rw[if_neg h3] at h
 by_cases h4:m.comps.length+m.reqs.length>12
 ·rw[if_pos h4] at h;simp at h
 rw[if_neg h4] at h;obtain⟨_,h5⟩:=zfT (fun _ _ h=>zbV h) h;rw[h5] at h;have h6:=zej (zfT (fun _ _ h=>zbV h) h).1;intro c hc;have:=h6 c hc;unfold reqE at this
 by_cases h7:insE m c≠0
 ·rw[if_pos h7] at this;exact absurd this h7
 ·exact Classical.byContradiction h7
theorem zsY:∀{l b:List Evt} {i j:Nat} {e:Int},evsP b l i=some (j,e)→e≠0
 |[],_,_,_,_,h=>by simp[evsP] at h
 |x::r,b,i,j,e,h=>by
  simp only[evsP] at h
  by_cases h1:zjo (b++[x])≠0
  ·rw[if_pos h1] at h;simp only[Option.some.injEq,Prod.mk.injEq] at h;rw[←h.2];exact h1
  ·rw[if_neg h1] at h;exact zsY h
theorem zd9 {m:Mdl} (h:(mdlE m).2=0):zaW m.name=true∧evsP [] m.evs 0=none∧(chkT m).2=0∧(chkI m).2=0∧(chkC m).2=0∧mdlE m=((0,0),0):=by
 have e:=zlj m;rw[e] at h ⊢
 by_cases h1:zaW m.name=false
 ·rw[if_pos h1] at h;simp at h
 rw[if_neg h1] at h ⊢;obtain⟨h2,h3⟩:=zfT (fun _ _ h=>zsY h) h;rw[h3] at h ⊢
 by_cases h4:(chkT m).2≠0
 ·rw[if_pos h4] at h;exact absurd h h4
 rw[if_neg h4] at h ⊢
 by_cases h5:(chkI m).2≠0
 ·rw[if_pos h5] at h;exact absurd h h5
 rw[if_neg h5] at h ⊢;exact⟨by simpa using h1,h2,by simpa using h4,by simpa using h5,h,ztf h⟩
theorem zpo {t:Tpl} (h:tplE t=0):(t.locs.length:Int)=t.mach.locs∧nmsE [] t.locs=0∧nmsE [] t.evs=0∧t.mach.alpha=(List.range t.evs.length).map (fun k=>((k:Nat):Int))∧chk t.mach=0:=by
 unfold tplE at h
 by_cases h1:(t.locs.length:Int)≠t.mach.locs
 ·rw[if_pos h1] at h;cases h
 rw[if_neg h1] at h
 by_cases h2:nmsE [] t.locs≠0
 ·rw[if_pos h2] at h;exact absurd h h2
 rw[if_neg h2] at h
 by_cases h3:nmsE [] t.evs≠0
 ·rw[if_pos h3] at h;exact absurd h h3
 rw[if_neg h3] at h
 by_cases h4:t.mach.alpha.length≠t.evs.length
 ·rw[if_pos h4] at h;cases h
 rw[if_neg h4] at h
 by_cases h5:t.mach.alpha≠(List.range t.evs.length).map (fun k=>((k:Nat):Int))
 ·rw[if_pos h5] at h;cases h
 rw[if_neg h5] at h;exact⟨by simpa using h1,by simpa using h2,by simpa using h3,by simpa using h5,h⟩
theorem zgt {m:Mdl} (hmv:∀t∈m.tpls,t.mach.moves.length≤19) (h:(mdlE m).2=0) {x:Ins} (hx:x∈m.comps∨x∈m.reqs):∃t,mchOk m x t∧mchR m x=mchE m x t∧(t.locs.length:Int)=t.mach.locs∧nmsE [] t.locs=0∧zev m [] x.evs=0:=by
 obtain⟨_,_,h3,h4,_⟩:=zd9 h;have hi:insE m x=0:=by
  rcases hx with hx|hx
  ·exact zlV h4 x hx
  ·exact zvO h4 x hx
 obtain⟨t,t1,t2,t3,t4⟩:=ziZ hi;obtain⟨u1,u2,u3,u4,u5⟩:=zpo (zxT h3 t t2);exact⟨t,⟨t1,t2,zhu u5,t3,u4,hmv t t2⟩,by unfold mchR;rw[t1],u1,u2,t4⟩
abbrev zIns:Ins:=⟨⟨#[]⟩,⟨#[]⟩,[]⟩
def zhH (m:Mdl) (p:Plc):Ins×Int:=match zdf m p with
 |.ok x=>(x,0)
 |.error e=>(zIns,e)
theorem zs7 {e:Int}:CoD (.tup [.agg [sD ⟨#[]⟩,sD ⟨#[]⟩,.i (.v (.slice none 0 0))],ii e]) (.tup [insD zIns,ii e]):=by
 repeat' (first|refine zbR ?_|refine zbu ?_|refine zcv ?_|refine CoDL.cons ?_ ?_|exact CoDL.nil|exact zbd|refine zcB ?_|refine CoLL.cons ?_ ?_|exact CoLL.nil|refine CoL.cons ?_ ?_|exact CoL.nil|exact CoI.refl _|exact CoL.refl _|exact CoLL.refl _|exact CoDL.refl _|exact CoD.refl _)
theorem zh6 (O:List Heap) (m:Mdl) (p:Plc) (hm:szOk m):zao Tryz.prog 61 [mdlD m,.agg [ii p.1,ii p.2]] O (.tup [insD (zhH m p).1,ii (zhH m p).2]) [] O:=by
 have hc:=hm.co;have hq:=hm.rq;obtain⟨a,b⟩:=p;simp only;generalize hR:zhH m (a,b)=R;unfold zhH zdf at hR;simp only at hR;obtain⟨nm,evs,tpls,comps,reqs,excs,cons⟩:=m;simp only at hR hc hq;refine zaa Tk Tryz.func61 rfl Tryz.call61 Tryz.ntmps61 (Nat.le_of_ble_eq_true rfl) fun E=>?_;refine zai Tk Tryz.func61 ?_;refine zae Tk Tryz.func61 rfl (fun c1=>?_) (fun c1=>?_)
 ·have c1:a=3:=beqT c1;rw[if_pos c1] at hR;refine zaK Tk Tryz.func61 rfl (fun c2=>?_) (fun c2=>?_)
  ·have c2:b<0:=of_decide_eq_true c2;rw[if_pos c2] at hR;simp only at hR;subst hR;refine gcT Tk Tryz.func61 rfl ?_;refine zaD Tk (r:=.tup [.agg [sD ⟨#[]⟩,sD ⟨#[]⟩,.i (.v (.slice none 0 0))],ii 10]) rfl rfl rfl trivial rfl rfl ?_;exact zs7
  have c2:¬b<0:=of_decide_eq_false c2;rw[if_neg c2] at hR;refine zae Tk Tryz.func61 rfl (fun c3=>?_) (fun c3=>?_)
  ·have c3:b≥(comps.length:Int):=of_decide_eq_true c3;rw[List.getElem?_eq_none (by omega)] at hR;simp only at hR;subst hR;refine zaD Tk (r:=.tup [.agg [sD ⟨#[]⟩,sD ⟨#[]⟩,.i (.v (.slice none 0 0))],ii 10]) rfl rfl rfl trivial rfl rfl ?_;exact zs7
  have c3:¬b≥(comps.length:Int):=of_decide_eq_false c3;have hb:b.toNat<comps.length:=by omega
  rw[List.getElem?_eq_getElem hb] at hR;simp only at hR;have gx:(comps.map insI)[b.toNat]? = some (insI comps[b.toNat]):=by simp[hb]
  generalize comps[b.toNat]=x at *;subst hR;refine zad Tk Tryz.func61 (by exact⟨by omega,by show b<(comps.length:Int);omega⟩) ?_;refine zap Tk Tryz.func61 (gx) ?_;refine zag Tk (r:=.tup [insD x,ii 0]) rfl rfl rfl trivial rfl rfl ?_;rfl
 have c1:¬a=3:=beqF c1;rw[if_neg c1] at hR;refine zae Tk Tryz.func61 rfl (fun c4=>?_) (fun c4=>?_)
 ·have c4:a=4:=beqT c4;rw[if_pos c4] at hR;refine zaK Tk Tryz.func61 rfl (fun c2=>?_) (fun c2=>?_)
  ·have c2:b<0:=of_decide_eq_true c2;rw[if_pos c2] at hR;simp only at hR;subst hR;refine gcT Tk Tryz.func61 rfl ?_;refine zaD Tk (r:=.tup [.agg [sD ⟨#[]⟩,sD ⟨#[]⟩,.i (.v (.slice none 0 0))],ii 10]) rfl rfl rfl trivial rfl rfl ?_;exact zs7
  have c2:¬b<0:=of_decide_eq_false c2;rw[if_neg c2] at hR;refine zae Tk Tryz.func61 rfl (fun c3=>?_) (fun c3=>?_)
  ·have c3:b≥(reqs.length:Int):=of_decide_eq_true c3;rw[List.getElem?_eq_none (by omega)] at hR;simp only at hR;subst hR;refine zaD Tk (r:=.tup [.agg [sD ⟨#[]⟩,sD ⟨#[]⟩,.i (.v (.slice none 0 0))],ii 10]) rfl rfl rfl trivial rfl rfl ?_;exact zs7
  have c3:¬b≥(reqs.length:Int):=of_decide_eq_false c3;have hb:b.toNat<reqs.length:=by omega
  rw[List.getElem?_eq_getElem hb] at hR;simp only at hR;have gx:(reqs.map insI)[b.toNat]? = some (insI reqs[b.toNat]):=by simp[hb]
  generalize reqs[b.toNat]=x at *;subst hR;refine zad Tk Tryz.func61 (by exact⟨by omega,by show b<(reqs.length:Int);omega⟩) ?_;refine zap Tk Tryz.func61 (gx) ?_;refine zag Tk (r:=.tup [insD x,ii 0]) rfl rfl rfl trivial rfl rfl ?_;rfl
 have c4:¬a=4:=beqF c4;rw[if_neg c4] at hR;simp only at hR;subst hR;refine zaD Tk (r:=.tup [.agg [sD ⟨#[]⟩,sD ⟨#[]⟩,.i (.v (.slice none 0 0))],ii 11]) rfl rfl rfl trivial rfl rfl ?_;exact zs7
def mchA (m:Mdl) (p:Plc):Ext×Int:=if (mdlE m).2≠0 then (zExt,(mdlE m).2) else match zdf m p with
 |.error e=>(zExt,e)
 |.ok x=>(mchR m x,0)
theorem zfx {m:Mdl} {p:Plc} {x:Ins} (h:zdf m p=.ok x):x∈m.comps∨x∈m.reqs:=by
 unfold zdf at h
 by_cases h1:p.1=3
 ·rw[if_pos h1] at h
  by_cases h2:p.2<0
  ·rw[if_pos h2] at h;cases h
  rw[if_neg h2] at h
  cases h3:m.comps[p.2.toNat]? with
  |none=>rw[h3] at h;cases h
  |some y=>rw[h3] at h;cases h;exact .inl (List.mem_of_getElem? h3)
 rw[if_neg h1] at h
 by_cases h1:p.1=4
 ·rw[if_pos h1] at h
  by_cases h2:p.2<0
  ·rw[if_pos h2] at h;cases h
  rw[if_neg h2] at h
  cases h3:m.reqs[p.2.toNat]? with
  |none=>rw[h3] at h;cases h
  |some y=>rw[h3] at h;cases h;exact .inr (List.mem_of_getElem? h3)
 rw[if_neg h1] at h;cases h
theorem zfy {m:Mdl} {p:Plc} {e:Int} (h:zdf m p=.error e):e≠0:=by
 unfold zdf at h
 by_cases h1:p.1=3
 ·rw[if_pos h1] at h
  by_cases h2:p.2<0
  ·rw[if_pos h2] at h;cases h;decide
  rw[if_neg h2] at h
  cases h3:m.comps[p.2.toNat]? with
  |none=>rw[h3] at h;cases h;decide
  |some y=>rw[h3] at h;cases h
 rw[if_neg h1] at h
 by_cases h1:p.1=4
 ·rw[if_pos h1] at h
  by_cases h2:p.2<0
  ·rw[if_pos h2] at h;cases h;decide
  rw[if_neg h2] at h
  cases h3:m.reqs[p.2.toNat]? with
  |none=>rw[h3] at h;cases h;decide
  |some y=>rw[h3] at h;cases h
 rw[if_neg h1] at h;cases h;decide
theorem zwi {e:Int}:CoD (.tup [.agg zpf,ii e]) (.tup [extD zExt,ii e]):=by
 repeat' (first|refine zbR ?_|refine zbu ?_|refine zcv ?_|refine CoDL.cons ?_ ?_|exact CoDL.nil|exact zbd|refine zcB ?_|refine CoLL.cons ?_ ?_|exact CoLL.nil|refine CoL.cons ?_ ?_|exact CoL.nil|exact CoI.refl _|exact CoL.refl _|exact CoLL.refl _|exact CoDL.refl _|exact CoD.refl _)
theorem zls {m:Mdl} (hm:mdlOk m) {x:Ins} (hx:x∈m.comps∨x∈m.reqs):x.evs.length≤1000000:=by
 rcases hx with h|h
 ·exact (hm.cok x h).el
 ·exact (hm.rqk x h).el
theorem zkV (O:List Heap) (m:Mdl) (p:Plc) (hm:mdlOk m) (hmv:∀t∈m.tpls,t.mach.moves.length≤19):zao Tryz.prog 18 [mdlD m,.agg [ii p.1,ii p.2]] O (.tup [extD (mchA m p).1,ii (mchA m p).2]) [] O:=by
 have h14:=fun O=>znc O m hm;have h61:=fun O=>zh6 O m p hm.toszOk;have hv:=fun h x hx=>zgt hmv h (x:=x) hx;have h55:=fun x (hx:x∈m.comps∨x∈m.reqs) t ht O=>zj5 O m x t hm (zls hm hx) ht;generalize hR:mchA m p=R;unfold mchA at hR;generalize mdlE m=E0 at *;obtain⟨⟨e1,e2⟩,e3⟩:=E0;simp only at hv hR;obtain⟨a,b⟩:=p;simp only at h61 ⊢;refine zaa Tk Tryz.func18 rfl Tryz.call18 Tryz.ntmps18 (Nat.le_of_ble_eq_true rfl) fun E=>?_;refine zai Tk Tryz.func18 ?_;refine zaj Tk Tryz.func18 (h14 _) rfl rfl rfl rfl rfl ?_;refine zae Tk Tryz.func18 rfl (fun c1=>?_) (fun c1=>?_)
 ·have c1:e3≠0:=bneT c1;rw[if_pos c1] at hR;subst hR;refine zaD Tk (r:=.tup [.agg zpf,ii e3]) rfl rfl rfl trivial rfl rfl ?_;exact zwi
 have c1:e3=0:=bneF c1;rw[if_neg (fun h=>h c1)] at hR
 cases hp:zdf m (a,b) with
 |error e=>
  have he:=zfy hp;rw[hp] at hR;simp only at hR;subst hR;rw[show zhH m (a,b)=(zIns,e) from by unfold zhH;rw[hp]] at h61;refine zaj Tk Tryz.func18 (h61 _) rfl rfl rfl rfl rfl ?_;refine zae Tk Tryz.func18 rfl (fun _=>?_) (fun h=>absurd h (by simpa using he));refine zaD Tk (r:=.tup [.agg zpf,ii e]) rfl rfl rfl trivial rfl rfl ?_;exact zwi
 |ok x=>
  have hx:=zfx hp;rw[hp] at hR;simp only at hR;subst hR;rw[show zhH m (a,b)=(x,0) from by unfold zhH;rw[hp]] at h61;obtain⟨t,ht,he,_⟩:=hv c1 x hx;have h:=h55 x hx t ht;rw[←he] at h;generalize mchR m x=X at *;refine zaj Tk Tryz.func18 (h61 _) rfl rfl rfl rfl rfl ?_;refine gcF Tk Tryz.func18 rfl ?_;refine zaj Tk Tryz.func18 (h _) rfl rfl rfl rfl rfl ?_;refine zag Tk (r:=.tup [extD X,ii 0]) rfl rfl rfl trivial rfl rfl ?_;rfl
theorem zr4 (O:List Heap) (m:Mdl) (hl:m.evs.length≤1000000):zao Tryz.prog 40 [mdlD m,ii 1] O (ssD (m.evs.map (·.name))) [] O:=by
 generalize hM:mdlC m=M;have hg:M=mdlC m:=hM.symm;subst hg;clear hM;refine zaa Tk Tryz.func40 rfl Tryz.call40 Tryz.ntmps40 (Nat.le_of_ble_eq_true rfl) fun E=>?_;refine zai Tk Tryz.func40 ?_;refine gcT Tk Tryz.func40 rfl ?_;refine g_wk (zbn 5 32 9 1 rfl rfl rfl) ?_;refine zah ?_;refine zak (fun i:Nat=>[(5,.osl 0 32),(22,.i (zbb m.evs)),(23,ii m.evs.length),(24,ii i)]) (fun i=>[(32,oss ((m.evs.take i).map (·.name)))]) (fun _=>O) 110
  (fun i=>i≤m.evs.length) (fun i=>m.evs.length-i) 0 (Nat.zero_le _) ⟨rfl,rfl,rfl,rfl,trivial⟩ rfl ⟨rfl,trivial⟩ rfl rfl ?_
 intro i hi ih;have hi:i≤m.evs.length:=hi;refine zai Tk Tryz.func40 ?_;refine zae Tk Tryz.func40 rfl (fun g1=>?_) (fun g1=>?_)
 ·have g1:i<m.evs.length:=by simpa using g1
  have gs:(m.evs.map evtI)[(i:Int).toNat]? = some (evtI m.evs[i]):=zan (f:=evtI) g1;have ht:=zaI Evt.name g1;have hll:((m.evs.take i).map (·.name)).length≤1000000:=by rw[List.length_map,List.length_take];omega
  generalize (m.evs.take i).map (·.name)=L at *;generalize m.evs[i]=x at *;refine zad Tk Tryz.func40 (by exact⟨by omega,by show (i:Int)<(m.evs.length:Int);omega⟩) ?_;refine zap Tk Tryz.func40 (gs) ?_;refine zad Tk Tryz.func40 (by exact⟨by show (L.length+1)*16≤140737488355328;omega,by show L.length+1≤9223372036854775807;omega⟩) ?_;refine zah ?_;refine ih (i+1) _ _ g1 (by omega) ⟨rfl,rfl,rfl,congrArg ii (zaC (n:=1000001) (by omega) (by decide)),trivial⟩ rfl ⟨?_,trivial⟩ rfl rfl;rw[ht];exact congrArg some (za9 L x.name)
 ·have g1:m.evs.length≤i:=by simpa using g1
  rw[List.take_of_length_le g1];refine za4 (zam 32 rfl rfl) ?_;refine zag Tk (r:=ssD (m.evs.map (·.name))) rfl rfl rfl trivial rfl rfl ?_;rfl
theorem zgV (O:List Heap) (m:Mdl) (hl:m.tpls.length≤1000000):zao Tryz.prog 40 [mdlD m,ii 2] O (ssD (m.tpls.map (·.name))) [] O:=by
 generalize hM:mdlC m=M;have hg:M=mdlC m:=hM.symm;subst hg;clear hM;refine zaa Tk Tryz.func40 rfl Tryz.call40 Tryz.ntmps40 (Nat.le_of_ble_eq_true rfl) fun E=>?_;refine zai Tk Tryz.func40 ?_
 repeat (first|refine gcT Tk Tryz.func40 rfl ?_|refine gkT Tk Tryz.func40 rfl ?_|refine skT Tk ?_|refine gcF Tk Tryz.func40 rfl ?_|refine gkF Tk Tryz.func40 rfl ?_|refine skF Tk ?_)
 refine g_wk (zbn 5 47 9 1 rfl rfl rfl) ?_;refine zah ?_;refine zak (fun i:Nat=>[(5,.osl 0 47),(37,.i (zbD m.tpls)),(38,ii m.tpls.length),(39,ii i)]) (fun i=>[(47,oss ((m.tpls.take i).map (·.name)))]) (fun _=>O) 110
  (fun i=>i≤m.tpls.length) (fun i=>m.tpls.length-i) 0 (Nat.zero_le _) ⟨rfl,rfl,rfl,rfl,trivial⟩ rfl ⟨rfl,trivial⟩ rfl rfl ?_
 intro i hi ih;have hi:i≤m.tpls.length:=hi;refine zai Tk Tryz.func40 ?_;refine zae Tk Tryz.func40 rfl (fun g1=>?_) (fun g1=>?_)
 ·have g1:i<m.tpls.length:=by simpa using g1
  have gs:(m.tpls.map tplI)[(i:Int).toNat]? = some (tplI m.tpls[i]):=zan (f:=tplI) g1;have ht:=zaI Tpl.name g1;have hll:((m.tpls.take i).map (·.name)).length≤1000000:=by rw[List.length_map,List.length_take];omega
  generalize (m.tpls.take i).map (·.name)=L at *;generalize m.tpls[i]=x at *;refine zad Tk Tryz.func40 (by exact⟨by omega,by show (i:Int)<(m.tpls.length:Int);omega⟩) ?_;refine zap Tk Tryz.func40 (gs) ?_;refine zad Tk Tryz.func40 (by exact⟨by show (L.length+1)*16≤140737488355328;omega,by show L.length+1≤9223372036854775807;omega⟩) ?_;refine zah ?_;refine ih (i+1) _ _ g1 (by omega) ⟨rfl,rfl,rfl,congrArg ii (zaC (n:=1000001) (by omega) (by decide)),trivial⟩ rfl ⟨?_,trivial⟩ rfl rfl;rw[ht];exact congrArg some (za9 L x.name)
 ·have g1:m.tpls.length≤i:=by simpa using g1
  rw[List.take_of_length_le g1];refine za4 (zam 47 rfl rfl) ?_;refine zag Tk (r:=ssD (m.tpls.map (·.name))) rfl rfl rfl trivial rfl rfl ?_;rfl
theorem zj2 (O:List Heap) (m:Mdl) (hl:m.comps.length≤1000000):zao Tryz.prog 40 [mdlD m,ii 3] O (ssD (m.comps.map (·.name))) [] O:=by
 generalize hM:mdlC m=M;have hg:M=mdlC m:=hM.symm;subst hg;clear hM;refine zaa Tk Tryz.func40 rfl Tryz.call40 Tryz.ntmps40 (Nat.le_of_ble_eq_true rfl) fun E=>?_;refine zai Tk Tryz.func40 ?_
 repeat (first|refine gcT Tk Tryz.func40 rfl ?_|refine gkT Tk Tryz.func40 rfl ?_|refine skT Tk ?_|refine gcF Tk Tryz.func40 rfl ?_|refine gkF Tk Tryz.func40 rfl ?_|refine skF Tk ?_)
 refine g_wk (zbn 5 62 9 1 rfl rfl rfl) ?_;refine zah ?_;refine zak (fun i:Nat=>[(5,.osl 0 62),(52,.i (zaP m.comps)),(53,ii m.comps.length),(54,ii i)]) (fun i=>[(62,oss ((m.comps.take i).map (·.name)))]) (fun _=>O) 110
  (fun i=>i≤m.comps.length) (fun i=>m.comps.length-i) 0 (Nat.zero_le _) ⟨rfl,rfl,rfl,rfl,trivial⟩ rfl ⟨rfl,trivial⟩ rfl rfl ?_
 intro i hi ih;have hi:i≤m.comps.length:=hi;refine zai Tk Tryz.func40 ?_;refine zae Tk Tryz.func40 rfl (fun g1=>?_) (fun g1=>?_)
 ·have g1:i<m.comps.length:=by simpa using g1
  have gs:(m.comps.map insI)[(i:Int).toNat]? = some (insI m.comps[i]):=zan (f:=insI) g1;have ht:=zaI Ins.name g1;have hll:((m.comps.take i).map (·.name)).length≤1000000:=by rw[List.length_map,List.length_take];omega
  generalize (m.comps.take i).map (·.name)=L at *;generalize m.comps[i]=x at *;refine zad Tk Tryz.func40 (by exact⟨by omega,by show (i:Int)<(m.comps.length:Int);omega⟩) ?_;refine zap Tk Tryz.func40 (gs) ?_;refine zad Tk Tryz.func40 (by exact⟨by show (L.length+1)*16≤140737488355328;omega,by show L.length+1≤9223372036854775807;omega⟩) ?_;refine zah ?_;refine ih (i+1) _ _ g1 (by omega) ⟨rfl,rfl,rfl,congrArg ii (zaC (n:=1000001) (by omega) (by decide)),trivial⟩ rfl ⟨?_,trivial⟩ rfl rfl;rw[ht];exact congrArg some (za9 L x.name)
 ·have g1:m.comps.length≤i:=by simpa using g1
  rw[List.take_of_length_le g1];refine za4 (zam 62 rfl rfl) ?_;refine zag Tk (r:=ssD (m.comps.map (·.name))) rfl rfl rfl trivial rfl rfl ?_;rfl
theorem zr3 (O:List Heap) (m:Mdl) (hl:m.excs.length≤1000000):zao Tryz.prog 40 [mdlD m,ii 5] O (ssD (m.excs.map (·.name))) [] O:=by
 generalize hM:mdlC m=M;have hg:M=mdlC m:=hM.symm;subst hg;clear hM;refine zaa Tk Tryz.func40 rfl Tryz.call40 Tryz.ntmps40 (Nat.le_of_ble_eq_true rfl) fun E=>?_;refine zai Tk Tryz.func40 ?_
 repeat (first|refine gcT Tk Tryz.func40 rfl ?_|refine gkT Tk Tryz.func40 rfl ?_|refine skT Tk ?_|refine gcF Tk Tryz.func40 rfl ?_|refine gkF Tk Tryz.func40 rfl ?_|refine skF Tk ?_)
 refine g_wk (zbn 5 92 9 1 rfl rfl rfl) ?_;refine zah ?_;refine zak (fun i:Nat=>[(5,.osl 0 92),(82,.i (zcN m.excs)),(83,ii m.excs.length),(84,ii i)]) (fun i=>[(92,oss ((m.excs.take i).map (·.name)))]) (fun _=>O) 110
  (fun i=>i≤m.excs.length) (fun i=>m.excs.length-i) 0 (Nat.zero_le _) ⟨rfl,rfl,rfl,rfl,trivial⟩ rfl ⟨rfl,trivial⟩ rfl rfl ?_
 intro i hi ih;have hi:i≤m.excs.length:=hi;refine zai Tk Tryz.func40 ?_;refine zae Tk Tryz.func40 rfl (fun g1=>?_) (fun g1=>?_)
 ·have g1:i<m.excs.length:=by simpa using g1
  have gs:(m.excs.map nexI)[(i:Int).toNat]? = some (nexI m.excs[i]):=zan (f:=nexI) g1;have ht:=zaI NEx.name g1;have hll:((m.excs.take i).map (·.name)).length≤1000000:=by rw[List.length_map,List.length_take];omega
  generalize (m.excs.take i).map (·.name)=L at *;generalize m.excs[i]=x at *;refine zad Tk Tryz.func40 (by exact⟨by omega,by show (i:Int)<(m.excs.length:Int);omega⟩) ?_;refine zap Tk Tryz.func40 (gs) ?_;refine zad Tk Tryz.func40 (by exact⟨by show (L.length+1)*16≤140737488355328;omega,by show L.length+1≤9223372036854775807;omega⟩) ?_;refine zah ?_;refine ih (i+1) _ _ g1 (by omega) ⟨rfl,rfl,rfl,congrArg ii (zaC (n:=1000001) (by omega) (by decide)),trivial⟩ rfl ⟨?_,trivial⟩ rfl rfl;rw[ht];exact congrArg some (za9 L x.name)
 ·have g1:m.excs.length≤i:=by simpa using g1
  rw[List.take_of_length_le g1];refine za4 (zam 92 rfl rfl) ?_;refine zag Tk (r:=ssD (m.excs.map (·.name))) rfl rfl rfl trivial rfl rfl ?_;rfl
theorem zr2 (O:List Heap) (m:Mdl) (hl:m.cons.length≤1000000):zao Tryz.prog 40 [mdlD m,ii 6] O (ssD (m.cons.map (·.name))) [] O:=by
 generalize hM:mdlC m=M;have hg:M=mdlC m:=hM.symm;subst hg;clear hM;refine zaa Tk Tryz.func40 rfl Tryz.call40 Tryz.ntmps40 (Nat.le_of_ble_eq_true rfl) fun E=>?_;refine zai Tk Tryz.func40 ?_
 repeat (first|refine gcT Tk Tryz.func40 rfl ?_|refine gkT Tk Tryz.func40 rfl ?_|refine skT Tk ?_|refine gcF Tk Tryz.func40 rfl ?_|refine gkF Tk Tryz.func40 rfl ?_|refine skF Tk ?_)
 refine g_wk (zbn 5 107 9 1 rfl rfl rfl) ?_;refine zah ?_;refine zak (fun i:Nat=>[(5,.osl 0 107),(97,.i (zdt m.cons)),(98,ii m.cons.length),(99,ii i)]) (fun i=>[(107,oss ((m.cons.take i).map (·.name)))]) (fun _=>O) 110
  (fun i=>i≤m.cons.length) (fun i=>m.cons.length-i) 0 (Nat.zero_le _) ⟨rfl,rfl,rfl,rfl,trivial⟩ rfl ⟨rfl,trivial⟩ rfl rfl ?_
 intro i hi ih;have hi:i≤m.cons.length:=hi;refine zai Tk Tryz.func40 ?_;refine zae Tk Tryz.func40 rfl (fun g1=>?_) (fun g1=>?_)
 ·have g1:i<m.cons.length:=by simpa using g1
  have gs:(m.cons.map ncnI)[(i:Int).toNat]? = some (ncnI m.cons[i]):=zan (f:=ncnI) g1;have ht:=zaI NCn.name g1;have hll:((m.cons.take i).map (·.name)).length≤1000000:=by rw[List.length_map,List.length_take];omega
  generalize (m.cons.take i).map (·.name)=L at *;generalize m.cons[i]=x at *;refine zad Tk Tryz.func40 (by exact⟨by omega,by show (i:Int)<(m.cons.length:Int);omega⟩) ?_;refine zap Tk Tryz.func40 (gs) ?_;refine zad Tk Tryz.func40 (by exact⟨by show (L.length+1)*16≤140737488355328;omega,by show L.length+1≤9223372036854775807;omega⟩) ?_;refine zah ?_;refine ih (i+1) _ _ g1 (by omega) ⟨rfl,rfl,rfl,congrArg ii (zaC (n:=1000001) (by omega) (by decide)),trivial⟩ rfl ⟨?_,trivial⟩ rfl rfl;rw[ht];exact congrArg some (za9 L x.name)
 ·have g1:m.cons.length≤i:=by simpa using g1
  rw[List.take_of_length_le g1];refine za4 (zam 107 rfl rfl) ?_;refine zag Tk (r:=ssD (m.cons.map (·.name))) rfl rfl rfl trivial rfl rfl ?_;rfl
theorem zcz (O:List Heap) (l:List ByteArray) (s:ByteArray) (hl:l.length≤1000000):zao Tryz.prog 39 [ssD l,sD s] O (ii (nmIx l s)) [] O:=by
 unfold nmIx;generalize hR:zaw (fun x=>sB x s) l 0=R;refine zaa Tk Tryz.func39 rfl Tryz.call39 Tryz.ntmps39 (Nat.le_of_ble_eq_true rfl) fun E=>?_;refine zai Tk Tryz.func39 ?_;refine zah ?_;refine zak (fun i:Nat=>[(0,ssD l),(1,sD s),(5,ii i)]) (fun _=>[]) (fun _=>O) 19
  (fun i=>i≤l.length∧zaw (fun x=>sB x s) (l.drop i) i=R) (fun i=>l.length-i) 0 ⟨Nat.zero_le _,hR⟩ ⟨rfl,rfl,rfl,trivial⟩ rfl trivial rfl rfl ?_
 rintro i ⟨hi,hno⟩ ih;clear hR;refine zai Tk Tryz.func39 ?_;refine zae Tk Tryz.func39 rfl (fun g1=>?_) (fun g1=>?_)
 ·have h1:i<l.length:=by simpa using g1
  have gs:(l.map fun s=>[strI s])[(i:Int).toNat]? = some [strI l[i]]:=zan (f:=fun s=>[strI s]) h1;have hd:l.drop i=l[i]::l.drop (i+1):=List.drop_eq_getElem_cons h1;rw[hd] at hno;simp only[zaw] at hno;clear hd;generalize l[i]=x at *;refine zad Tk Tryz.func39 (by exact⟨by omega,by show (i:Int)<(l.length:Int);omega⟩) ?_;refine zap Tk Tryz.func39 (gs) ?_;refine zae Tk Tryz.func39 rfl (fun g2=>?_) (fun g2=>?_)
  ·have g2:(x.toList==s.toList)=true:=g2;rw[zbg] at g2;rw[if_pos g2] at hno;subst hno;refine zag Tk (r:=ii (i:Int)) rfl rfl rfl trivial rfl rfl ?_;rfl
  ·have g2:(x.toList==s.toList)=false:=g2;rw[zbg] at g2;rw[if_neg (by rw[g2];decide)] at hno;refine zah ?_;exact ih (i+1) _ _ ⟨h1,hno⟩ (by omega) ⟨rfl,rfl,congrArg ii (zaC (n:=1000001) (by omega) (by decide)),trivial⟩ rfl trivial rfl rfl
 ·have h1:l.length≤i:=by simpa using g1
  rw[List.drop_eq_nil_of_le h1] at hno;have hno:(-1:Int)=R:=hno;subst hno;refine zag Tk (r:=ii (-1)) rfl rfl rfl trivial rfl rfl ?_;rfl
theorem zjB (O:List Heap) (m:Mdl) (x:Ins) (t:Tpl) (hm:szOk m) (h:zb4 m x=some t):zao Tryz.prog 35 [mdlD m,insD x] O (tplD t) [] O:=by
 have h1:=fun O=>zgV O m hm.tp;have h2:=fun O=>zcz O (m.tpls.map (·.name)) x.tpl (by rw[List.length_map];exact hm.tp);unfold zb4 at h;rcases zdD Tpl.name m.tpls x.tpl with ⟨f1,_⟩|⟨k,t',f1,f2,f3⟩
 ·rw[f1] at h;cases h
 rw[f2] at h
 cases h
 rw[f3] at h2;have hk:k<m.tpls.length:=(List.getElem?_eq_some_iff.1 f1).1;have gt:(m.tpls.map tplI)[(k:Int).toNat]? = some (tplI t):=by rw[Int.toNat_natCast,List.getElem?_map,f1];rfl
 obtain⟨xn,xt,xe⟩:=x;simp only at h2;refine zaa Tk Tryz.func35 rfl Tryz.call35 Tryz.ntmps35 (Nat.le_of_ble_eq_true rfl) fun E=>?_;refine zai Tk Tryz.func35 ?_;refine zav Tk Tryz.func35 zaz rfl ?_;refine zaJ Tk (fun _=>h1 _) rfl rfl rfl ?_;refine zaJ Tk (fun _=>h2 _) rfl rfl rfl ?_;refine zas Tk (by exact⟨by omega,by show (k:Int)<(m.tpls.length:Int);omega⟩) ?_;refine zaE Tk (gt) ?_;refine zdc Tk rfl rfl rfl ?_;refine zaB Tk Tryz.func35 (by kernel_rfl) ?_;refine zag Tk (r:=tplD t) rfl rfl rfl trivial rfl rfl ?_;rfl
abbrev mdlO (m:Mdl) (d nm:Nat):List D:=[.i (strI m.name),.i (zbb m.evs),.i (zbD m.tpls),.i (zaP m.comps),.i (zaP m.reqs),.osl d nm,.i (.v (.slice none 0 0))]
theorem zpV (O:List Heap) (m:Mdl) (d nm:Nat) (hl:m.tpls.length≤1000000):zao Tryz.prog 40 [.agg (mdlO m d nm),ii 2] O (ssD (m.tpls.map (·.name))) [] O:=by
 refine zaa Tk Tryz.func40 rfl Tryz.call40 Tryz.ntmps40 (Nat.le_of_ble_eq_true rfl) fun E=>?_;refine zai Tk Tryz.func40 ?_
 repeat (first|refine gcT Tk Tryz.func40 rfl ?_|refine gkT Tk Tryz.func40 rfl ?_|refine skT Tk ?_|refine gcF Tk Tryz.func40 rfl ?_|refine gkF Tk Tryz.func40 rfl ?_|refine skF Tk ?_)
 refine g_wk (zbn 5 47 9 1 rfl rfl rfl) ?_;refine zah ?_;refine zak (fun i:Nat=>[(5,.osl 0 47),(37,.i (zbD m.tpls)),(38,ii m.tpls.length),(39,ii i)]) (fun i=>[(47,oss ((m.tpls.take i).map (·.name)))]) (fun _=>O) 110
  (fun i=>i≤m.tpls.length) (fun i=>m.tpls.length-i) 0 (Nat.zero_le _) ⟨rfl,rfl,rfl,rfl,trivial⟩ rfl ⟨rfl,trivial⟩ rfl rfl ?_
 intro i hi ih;have hi:i≤m.tpls.length:=hi;refine zai Tk Tryz.func40 ?_;refine zae Tk Tryz.func40 rfl (fun g1=>?_) (fun g1=>?_)
 ·have g1:i<m.tpls.length:=by simpa using g1
  have gs:(m.tpls.map tplI)[(i:Int).toNat]? = some (tplI m.tpls[i]):=zan (f:=tplI) g1;have ht:=zaI Tpl.name g1;have hll:((m.tpls.take i).map (·.name)).length≤1000000:=by rw[List.length_map,List.length_take];omega
  generalize (m.tpls.take i).map (·.name)=L at *;generalize m.tpls[i]=x at *;refine zad Tk Tryz.func40 (by exact⟨by omega,by show (i:Int)<(m.tpls.length:Int);omega⟩) ?_;refine zap Tk Tryz.func40 (gs) ?_;refine zad Tk Tryz.func40 (by exact⟨by show (L.length+1)*16≤140737488355328;omega,by show L.length+1≤9223372036854775807;omega⟩) ?_;refine zah ?_;refine ih (i+1) _ _ g1 (by omega) ⟨rfl,rfl,rfl,congrArg ii (zaC (n:=1000001) (by omega) (by decide)),trivial⟩ rfl ⟨?_,trivial⟩ rfl rfl;rw[ht];exact congrArg some (za9 L x.name)
 ·have g1:m.tpls.length≤i:=by simpa using g1
  rw[List.take_of_length_le g1];refine za4 (zam 47 rfl rfl) ?_;refine zag Tk (r:=ssD (m.tpls.map (·.name))) rfl rfl rfl trivial rfl rfl ?_;rfl
theorem ze0 (O:List Heap) (m:Mdl) (d nm:Nat) (x:Ins) (t:Tpl) (hm:m.tpls.length≤1000000) (h:zb4 m x=some t):zao Tryz.prog 35 [.agg (mdlO m d nm),insD x] O (tplD t) [] O:=by
 have h1:=fun O=>zpV O m (d+1) nm hm;have h2:=fun O=>zcz O (m.tpls.map (·.name)) x.tpl (by rw[List.length_map];exact hm);unfold zb4 at h;rcases zdD Tpl.name m.tpls x.tpl with ⟨f1,_⟩|⟨k,t',f1,f2,f3⟩
 ·rw[f1] at h;cases h
 rw[f2] at h
 cases h
 rw[f3] at h2;have hk:k<m.tpls.length:=(List.getElem?_eq_some_iff.1 f1).1;have gt:(m.tpls.map tplI)[(k:Int).toNat]? = some (tplI t):=by rw[Int.toNat_natCast,List.getElem?_map,f1];rfl
 obtain⟨xn,xt,xe⟩:=x;simp only at h2;refine zaa Tk Tryz.func35 rfl Tryz.call35 Tryz.ntmps35 (Nat.le_of_ble_eq_true rfl) fun E=>?_;refine zai Tk Tryz.func35 ?_;refine zav Tk Tryz.func35 zaz rfl ?_;refine zaJ Tk (fun _=>h1 _) rfl rfl rfl ?_;refine zaJ Tk (fun _=>h2 _) rfl rfl rfl ?_;refine zas Tk (by exact⟨by omega,by show (k:Int)<(m.tpls.length:Int);omega⟩) ?_;refine zaE Tk (gt) ?_;refine zdc Tk rfl rfl rfl ?_;refine zaB Tk Tryz.func35 (by kernel_rfl) ?_;refine zag Tk (r:=tplD t) rfl rfl rfl trivial rfl rfl ?_;rfl
theorem zvD (O:List Heap) (l:List Ins) (evs:List ByteArray) (hl:l.length≤1000000) (he:evs.length≤1000000) (hx:∀x∈l,x.evs.length≤1000000):zao Tryz.prog 44 [.i (zaP l),ssD evs] O (bb (covB l evs)) [] O:=by
 unfold covB;generalize hR:(evs.all fun s=>l.any fun x=>decide (nmIx x.evs s≥0))=R;refine zaa Tk Tryz.func44 rfl Tryz.call44 Tryz.ntmps44 (Nat.le_of_ble_eq_true rfl) fun E=>?_;refine zai Tk Tryz.func44 ?_;refine zah ?_;refine zak (fun i:Nat=>[(0,.i (zaP l)),(9,ssD evs),(10,ii evs.length),(11,ii i)]) (fun _=>[]) (fun _=>O) 35
  (fun i=>i≤evs.length∧((evs.drop i).all fun s=>l.any fun x=>decide (nmIx x.evs s≥0))=R) (fun i=>evs.length-i) 0 ⟨Nat.zero_le _,hR⟩ ⟨rfl,rfl,rfl,rfl,trivial⟩ rfl trivial rfl rfl ?_
 rintro i ⟨hi,hno⟩ ih;clear hR;refine zai Tk Tryz.func44 ?_;refine zae Tk Tryz.func44 rfl (fun g1=>?_) (fun g1=>?_)
 ·have g1:i<evs.length:=by simpa using g1
  have gs:(evs.map fun s=>[strI s])[(i:Int).toNat]? = some [strI evs[i]]:=zan (f:=fun s=>[strI s]) g1;have hd:evs.drop i=evs[i]::evs.drop (i+1):=List.drop_eq_getElem_cons g1;have hi1:ii (IntKind.i64.wrap ((i:Int)+1))=ii ((i+1:Nat):Int):=congrArg ii (zaC (n:=1000001) (by omega) (by decide));rw[hd,List.all_cons] at hno;clear hd;generalize evs[i]=s at *;refine zad Tk Tryz.func44 (by exact⟨by omega,by show (i:Int)<(evs.length:Int);omega⟩) ?_;refine zap Tk Tryz.func44 (gs) ?_;refine zah ?_;refine zak (fun j:Nat=>[(0,.i (zaP l)),(6,sD s),(7,bb ((l.take j).any fun x=>decide (nmIx x.evs s≥0))),(8,ii j),(9,ssD evs),(10,ii evs.length),(11,ii i)]) (fun _=>[]) (fun _=>O) 35
   (fun j=>j≤l.length) (fun j=>l.length-j) 0 (Nat.zero_le _) ⟨rfl,rfl,rfl,rfl,rfl,rfl,rfl,trivial⟩ rfl trivial rfl rfl ?_
  intro j hj ih2;have hj:j≤l.length:=hj;refine zai Tk Tryz.func44 ?_;refine zae Tk Tryz.func44 rfl (fun g2=>?_) (fun g2=>?_)
  ·have g2:j<l.length:=by simpa using g2
   have gx:(l.map insI)[(j:Int).toNat]? = some (insI l[j]):=zan (f:=insI) g2;have hidx:=fun O=>zcz O l[j].evs s (hx l[j] (List.getElem_mem g2));have hs:((l.take (j+1)).any fun x=>decide (nmIx x.evs s≥0))=(((l.take j).any fun x=>decide (nmIx x.evs s≥0))||decide (nmIx l[j].evs s≥0)):=by
    rw[List.take_succ_eq_append_getElem g2,List.any_append];simp
   have hj1:ii (IntKind.i64.wrap ((j:Int)+1))=ii ((j+1:Nat):Int):=congrArg ii (zaC (n:=1000001) (by omega) (by decide));generalize ((l.take j).any fun x=>decide (nmIx x.evs s≥0))=B at *;generalize l[j]=x at *;obtain⟨xn,xt,xe⟩:=x;simp only at hidx hs;generalize nmIx xe s=q at *;refine zaK Tk Tryz.func44 rfl (fun g3=>?_) (fun g3=>?_)
   ·have g3:B=true:=g3;subst g3;refine zah ?_;refine ih2 (j+1) _ _ g2 (by omega) ⟨rfl,rfl,?_,hj1,rfl,rfl,rfl,trivial⟩ rfl trivial rfl rfl;rw[hs];rfl
   ·have g3:B=false:=g3;subst g3;refine zad Tk Tryz.func44 (by exact⟨by omega,by show (j:Int)<(l.length:Int);omega⟩) ?_;refine zap Tk Tryz.func44 (gx) ?_;refine zaj Tk Tryz.func44 (hidx _) rfl rfl rfl rfl rfl ?_;refine zah ?_;refine ih2 (j+1) _ _ g2 (by omega) ⟨rfl,rfl,?_,hj1,rfl,rfl,rfl,trivial⟩ rfl trivial rfl rfl;rw[hs];rfl
  ·have g2:l.length≤j:=by simpa using g2
   rw[List.take_of_length_le g2];generalize (l.any fun x=>decide (nmIx x.evs s≥0))=B at *;refine zae Tk Tryz.func44 rfl (fun g3=>?_) (fun g3=>?_)
   ·have g3:(!B)=true:=g3;have g3:B=false:=by simpa using g3
    subst g3;have hno:false=R:=hno;subst hno;refine zag Tk (r:=bb false) rfl rfl rfl trivial rfl rfl ?_;rfl
   ·have g3:(!B)=false:=g3;have g3:B=true:=by simpa using g3
    subst g3;rw[Bool.true_and] at hno;refine zah ?_;exact ih (i+1) _ _ ⟨g1,hno⟩ (by omega) ⟨rfl,rfl,rfl,hi1,trivial⟩ rfl trivial rfl rfl
 ·have g1:evs.length≤i:=by simpa using g1
  rw[List.drop_eq_nil_of_le g1] at hno;have hno:true=R:=hno;subst hno;refine zag Tk (r:=bb true) rfl rfl rfl trivial rfl rfl ?_;rfl
theorem zyK (n:Nat) (hn:n≤12):∃q:Int,∀O,zao Tryz.prog 191 [.i (.v (.int .u64 n))] O (ii q) [] O:=by
 have hw:IntKind.u8.wrap (n:Int)=(n:Int):=by
  have:IntKind.u8.wrap (n:Int)=(n:Int)%256:=rfl;rw[this];omega
 refine⟨?q,fun O=>?h⟩
 case h=>
  refine zaa Tk Tryz.func191 rfl Tryz.call191 Tryz.ntmps191 (Nat.le_of_ble_eq_true rfl) fun E=>?_;refine zai Tk Tryz.func191 ?_;refine zae Tk Tryz.func191 rfl (fun h=>absurd h (by simp;omega)) (fun _=>?_);refine zae Tk Tryz.func191 rfl (fun h=>absurd h (by simp;omega)) (fun _=>?_);refine zae Tk Tryz.func191 rfl (fun h=>absurd h (by simp;omega)) (fun _=>?_);refine zad Tk Tryz.func191 (by rw[hw];exact⟨by omega,by show (n:Int)<256;omega⟩) ?_;refine zag Tk (r:=ii _) rfl rfl rfl trivial rfl rfl ?_;rfl
theorem zil (n:Nat) (hn:n≤12):∃q:Int,∀O,zao Tryz.prog 141 [.i (.v (.int .u64 (IntKind.u64.wrap n)))] O (ii q) [] O:=by
 have w:IntKind.u64.wrap (n:Int)=(n:Int):=by
  have:IntKind.u64.wrap (n:Int)=(n:Int)%18446744073709551616:=rfl;rw[this];omega
 rw[w];obtain⟨q,h⟩:=zyK n hn;refine⟨q,fun O=>?_⟩;refine zaa Tk Tryz.func141 rfl Tryz.call141 Tryz.ntmps141 (Nat.le_of_ble_eq_true rfl) fun E=>?_;refine zai Tk Tryz.func141 ?_;refine gcF Tk Tryz.func141 rfl ?_;refine zaj Tk Tryz.func141 (h _) rfl rfl rfl rfl rfl ?_;refine zag Tk (r:=ii q) rfl rfl rfl trivial rfl rfl ?_;rfl
abbrev chcI (x:Chc):List I:=[vi x.1,zdj x.2]
abbrev olCh (l:List Chc):Ob:=.arr 304 2 l.length (l.map chcI) true
def zta (x y:Chc):Int:=cmpI x.1 y.1
abbrev ltCh (x y:Chc):Prop:=x.1<y.1
theorem zvJ {x y:Chc}:zta x y<0↔ltCh x y:=by
 unfold zta cmpI ltCh
 by_cases h1:x.1<y.1
 ·rw[if_pos h1];exact⟨fun _=>h1,fun _=>by decide⟩
 rw[if_neg h1]
 by_cases h2:x.1>y.1
 ·rw[if_pos h2];exact⟨fun h=>absurd h (by decide),fun h=>absurd h h1⟩
 ·rw[if_neg h2];exact⟨fun h=>absurd h (by decide),fun h=>absurd h h1⟩
abbrev zyc (l:List Chc):Prop:=l.Pairwise fun x y=>¬ltCh y x
theorem zeO {x:Chc}:∀{P S:List Chc},(∀p∈P,¬ltCh x p)→(∀s∈S,ltCh x s)→zeP x (P++S)=P++x::S
 |[],[],_,_=>rfl
 |[],s::r,_,h=>by
  have:=h s (by simp);simp only[List.nil_append,zeP];rw[if_pos this]
 |p::P,S,h,h2=>by
  have:=h p (by simp);simp only[List.cons_append,zeP];rw[if_neg this,zeO (fun q hq=>h q (by simp[hq])) h2]
theorem zjI {x:Chc} {P S:List Chc} (h:zyc (P++S)) (hp:∀p∈P,¬ltCh x p) (hs:∀s∈S,ltCh x s):zyc (P++x::S):=by
 obtain⟨h1,h2,h3⟩:=List.pairwise_append.1 h;refine List.pairwise_append.2 ⟨h1,List.pairwise_cons.2 ⟨fun s hs'=>?_,h2⟩,fun a ha b hb=>?_⟩
 ·have:=hs s hs';unfold ltCh at *;omega
 ·rcases List.mem_cons.1 hb with rfl|hb
  ·exact hp a ha
  ·exact h3 a ha b hb
theorem zvZ:∀(P:List Chc) (p x:Chc) (T:List Chc),(((P++p::x::T).map chcI).set (P.length+1) (chcI p)).set P.length (chcI x)=(P++x::p::T).map chcI
 |[],p,x,T=>rfl
 |q::P,p,x,T=>by
  have:=zvZ P p x T;simp only[List.cons_append,List.map_cons,List.length_cons,List.set_cons_succ,this]
theorem zym (P:List Chc):P=[]∨∃Q p,P=Q++[p]:=by
 by_cases h:P=[]
 ·exact .inl h
 ·exact .inr ⟨P.dropLast,P.getLast h,(List.dropLast_concat_getLast h).symm⟩
theorem zpu (A:List Chc) (x:Chc):zeA (A++[x])=zeP x (zeA A):=by simp[zeA,List.foldl_append]
theorem zxt (O:List Heap) (x y:Chc):zao Tryz.prog 179 [.agg [ii x.1,ints x.2],.agg [ii y.1,ints y.2]] O (ii (zta x y)) [] O:=by
 have h1:=fun O=>zn2 O x.1 y.1;unfold zta;generalize cmpI x.1 y.1=a at *;refine zaa Tk Tryz.func179 rfl Tryz.call179 Tryz.ntmps179 (Nat.le_of_ble_eq_true rfl) fun E=>?_;refine zai Tk Tryz.func179 ?_;refine zaj Tk Tryz.func179 (h1 _) rfl rfl rfl rfl rfl ?_;refine zag Tk (r:=ii a) rfl rfl rfl trivial rfl rfl ?_;rfl
abbrev zsG:D:=.fn (.func 179) [] []
theorem zyV {A:List Chc} {x:Chc} {T:List Chc} {k:Nat} (hk:k=A.length):((A++x::T).map chcI)[((k:Nat):Int).toNat]? = some (chcI x):=by
 subst hk;simp
set_option maxHeartbeats 8000000 in
theorem zyP (O:List Heap) (d nm:Nat) (l:List Chc) (hl:l.length≤1000) (ho:zab O d nm=some (olCh l)):zao Tryz.prog 262 [.osl d nm,ii 0,ii l.length,zsG] O (.tup []) [] (setAt O d nm (olCh (zeA l))):=by
 have hc:=fun O x y=>zxt O x y
 cases l with
 |nil=>
  refine zaa Tk Tryz.func262 rfl Tryz.call262 Tryz.ntmps262 (Nat.le_of_ble_eq_true rfl) fun E=>?_;refine zai Tk Tryz.func262 ?_;refine zah ?_;refine zai Tk Tryz.func262 ?_;refine gcF Tk Tryz.func262 rfl ?_;refine za4 (wk_S (S':=_::setAt O d nm (olCh [])) (zaG (zbl ho))) ?_;refine zag Tk (r:=.tup []) rfl rfl rfl trivial rfl rfl ?_;rfl
 |cons z r=>
 generalize hL:z::r=l at *;have hpos:1≤l.length:=by rw[←hL];simp
 refine zaa Tk Tryz.func262 rfl Tryz.call262 Tryz.ntmps262 (Nat.le_of_ble_eq_true rfl) fun E=>?_;refine zai Tk Tryz.func262 ?_;refine g_wk (wk_S (S':=_::setAt O d nm (olCh ([z]++r))) (zaG (zbl (by rw[ho,←hL];rfl)))) ?_;refine zah ?_;refine zak (fun x:List Chc×List Chc=>[(0,.osl (d+1) nm),(1,ii 0),(2,ii l.length),(3,zsG),(8,ii x.1.length)]) (fun _=>[]) (fun x=>setAt O d nm (olCh (x.1++x.2))) 53
  (fun x=>zyc x.1∧(∃T,T++x.2=l∧zeA T=x.1)∧x.1.length+x.2.length=l.length) (fun x=>x.2.length) ([z],r) ⟨List.pairwise_singleton _ _,⟨[z],hL,rfl⟩,by rw[←hL];simp;omega⟩ ⟨rfl,rfl,rfl,rfl,rfl,trivial⟩ rfl trivial rfl rfl ?_
 rintro ⟨A,R⟩ ⟨hA,hp,hlen⟩ ih;simp only at hA hp hlen;refine zai Tk Tryz.func262 ?_;refine zae Tk Tryz.func262 rfl (fun g1=>?_) (fun g1=>?_)
 ·have g1:A.length<l.length:=by simpa using g1
  obtain⟨x,R',rfl⟩:∃x R',R=x::R':=by
   cases R with
   |nil=>simp at hlen;omega
   |cons x R'=>exact⟨x,R',rfl⟩
  obtain⟨T,hT,hTA⟩:=hp;have hTn:(T++[x])++R'=l:=by rw[←hT];simp
  have hTs:zeA (T++[x])=zeP x A:=by rw[zpu,hTA]
  rw[List.length_cons] at hlen;refine zah ?_;refine zak (fun y:List Chc×List Chc=>[(0,.osl (d+1) nm),(1,ii 0),(2,ii l.length),(3,zsG),(8,ii A.length),(9,ii y.1.length)]) (fun _=>[]) (fun y=>setAt O d nm (olCh (y.1++x::(y.2++R')))) 53
   (fun y=>(∀s∈y.2,ltCh x s)∧y.1++y.2=A) (fun y=>y.1.length) (A,[]) ⟨by simp,by simp⟩ ⟨rfl,rfl,rfl,rfl,rfl,rfl,trivial⟩ rfl trivial rfl rfl ?_
  rintro ⟨P,S⟩ ⟨hS,hA2⟩ ih2;simp only at hS hA2;rcases zym P with rfl|⟨Q,p,rfl⟩
  ·rw[List.nil_append] at hA2;subst hA2;have hi1:ii (IntKind.i64.wrap ((S.length:Int)+1))=ii ((x::S:List Chc).length:Int):=congrArg ii (zaC (n:=1000001) (by omega) (by decide));refine zai Tk Tryz.func262 ?_;refine zav Tk Tryz.func262 zaz rfl ?_;refine zbS Tk (fun h=>absurd h (by simp)) (fun _=>?_);refine zaB Tk Tryz.func262 (by kernel_rfl) ?_;refine zae Tk Tryz.func262 rfl (fun h=>absurd h (by simp)) (fun _=>?_);refine zah ?_;have e1:zeP x S=x::S:=zeO (P:=[]) (by simp) hS;refine ih (x::S,R') _ _ ⟨zjI (P:=[]) hA (by simp) hS,⟨T++[x],hTn,hTs.trans e1⟩,by simp only[List.length_cons];omega⟩ (by simp) ⟨rfl,rfl,rfl,rfl,hi1,trivial⟩ rfl trivial rfl rfl
  ·have e1:(Q++[p])++x::(S++R')=Q++p::x::(S++R'):=by simp
   have e2:((Q++[p]).length:Int)=((Q.length+1:Nat):Int):=by simp
   have hQA:Q.length+1+S.length=A.length:=by rw[←hA2];simp;omega
   have w1:IntKind.i64.wrap (((Q.length+1:Nat):Int)-1)=(Q.length:Int):=by rw[w64 (by omega) (by omega)];omega
   have gx:((Q++p::x::(S++R')).map chcI)[(((Q.length+1:Nat):Int)).toNat]? = some (chcI x):=by
    have:=zyV (A:=Q++[p]) (x:=x) (T:=S++R') (k:=Q.length+1) (by simp);rwa [e1] at this
   have gp:((Q++p::x::(S++R')).map chcI)[(IntKind.i64.wrap (((Q.length+1:Nat):Int)-1)).toNat]? = some (chcI p):=by rw[w1];exact zyV rfl
   have hlt:=zvJ (x:=x) (y:=p);have hcc:=fun O=>hc O x p;rw[e2,e1];have hll:(Q++p::x::(S++R')).length=l.length:=by simp;omega
   generalize zta x p=cw at *;refine zai Tk Tryz.func262 ?_;refine zav Tk Tryz.func262 zaz rfl ?_;refine zbS Tk (fun _=>?_) (fun h=>absurd h (by simp));refine zcf Tk (zay (H:=([]:Heap)) (zaf ho)) ?_;refine zas Tk (by exact⟨by omega,by show ((Q.length+1:Nat):Int)<((Q++p::x::(S++R')).length:Int);rw[hll];omega⟩) ?_;refine zcf Tk (zay (H:=([]:Heap)) (zaf ho)) ?_;refine zaE Tk (gx) ?_;refine zcf Tk (zay (H:=([]:Heap)) (zaf ho)) ?_;refine zas Tk (by exact⟨by show (0:Int)≤IntKind.i64.wrap (((Q.length+1:Nat):Int)-1);rw[w1];omega,by show IntKind.i64.wrap (((Q.length+1:Nat):Int)-1)<((Q++p::x::(S++R')).length:Int);rw[w1,hll];omega⟩) ?_;refine zcf Tk (zay (H:=([]:Heap)) (zaf ho)) ?_;refine zaE Tk (gp) ?_;refine zaJ Tk (fun _=>hcc _) rfl rfl rfl ?_;refine zaB Tk Tryz.func262 (by kernel_rfl) ?_;refine zae Tk Tryz.func262 rfl (fun c1=>?_) (fun c1=>?_)
   ·have c1:cw<0:=of_decide_eq_true c1;have hrk:=hlt.1 c1;have e3:Ob.arr 304 2 (Q++p::x::(S++R')).length ((((Q++p::x::(S++R')).map chcI).set (((Q.length+1:Nat):Int)).toNat (chcI p)).set (IntKind.i64.wrap (((Q.length+1:Nat):Int)-1)).toNat (chcI x)) true=olCh (Q++x::(p::S++R')):=by
     rw[w1];show Ob.arr 304 2 _ ((((Q++p::x::(S++R')).map chcI).set (Q.length+1) (chcI p)).set Q.length (chcI x)) true=_;rw[zvZ];simp[olCh]
    refine zi2 Tk 15 rfl ?_;refine zcf Tk (zay (H:=([]:Heap)) (zaf ho)) ?_;refine zas Tk (by exact⟨by show (0:Int)≤IntKind.i64.wrap (((Q.length+1:Nat):Int)-1);rw[w1];omega,by show IntKind.i64.wrap (((Q.length+1:Nat):Int)-1)<((Q++p::x::(S++R')).length:Int);rw[w1,hll];omega⟩) ?_;refine zcf Tk (zay (H:=([]:Heap)) (zaf ho)) ?_;refine zaE Tk (gp) ?_;refine zcf Tk (zay (H:=([]:Heap)) (zaf ho)) ?_;refine zas Tk (by exact⟨by omega,by show ((Q.length+1:Nat):Int)<((Q++p::x::(S++R')).length:Int);rw[hll];omega⟩) ?_;refine zcf Tk (zay (H:=([]:Heap)) (zaf ho)) ?_;refine zaE Tk (gx) ?_;refine zcf Tk (zay (H:=([]:Heap)) (zaf ho)) ?_;refine zas Tk (by exact⟨by omega,by show ((Q.length+1:Nat):Int)<((Q++p::x::(S++R')).length:Int);rw[hll];omega⟩) ?_
    refine zxL Tk Tryz.func262 zaz (N:=15) [16,17] [2,3,4] (by kernel_rfl) rfl rfl rfl rfl rfl rfl rfl rfl rfl rfl (zaf ho) (by kernel_rfl) (by kernel_rfl) ?_ (by kernel_rfl) ?_
    ·intro i hi;simp only[List.mem_cons,List.not_mem_nil,or_false] at hi;rcases hi with rfl|rfl|rfl
     ·exact⟨_,_,_,rfl,rfl,rfl,rfl,rfl,rfl,rfl⟩
     ·exact⟨_,_,_,rfl,rfl,rfl,rfl,rfl,rfl,rfl⟩
     ·exact⟨_,_,_,rfl,rfl,rfl,rfl,rfl,rfl,rfl⟩
    refine zbE Tk Tryz.func262 (zay (H:=([]:Heap)) (zaf (zaf ho))) ?_;refine zad Tk Tryz.func262 (by exact⟨by show (0:Int)≤IntKind.i64.wrap (((Q.length+1:Nat):Int)-1);rw[w1];omega,by show IntKind.i64.wrap (((Q.length+1:Nat):Int)-1)<((Q++p::x::(S++R')).length:Int);rw[w1,hll];omega⟩) ?_;refine zbE Tk Tryz.func262 (zay (H:=([]:Heap)) (zaf (zaf ho))) ?_;refine g_wk (wk_S (S':=_::setAt O d nm (olCh (Q++x::(p::S++R')))) (zaG fun d' n'=>by rw[←e3];exact (zbM d' n').trans (zbM d' n'))) ?_;refine zah ?_;refine ih2 (Q,p::S) _ _ ⟨fun s hs=>?_,by simpa using hA2⟩ (by simp) ⟨rfl,rfl,rfl,rfl,rfl,congrArg ii w1,trivial⟩ rfl trivial rfl rfl;rcases List.mem_cons.1 hs with rfl|hs
    ·exact hrk
    ·exact hS s hs
   ·have c1:¬cw<0:=of_decide_eq_false c1;have hrk:¬ltCh x p:=fun h=>c1 (hlt.2 h);have hall:∀q∈Q++[p],¬ltCh x q:=by
     rw[←hA2] at hA;have h1:=(List.pairwise_append.1 hA).1;intro q hq;rcases List.mem_append.1 hq with hq|hq
     ·have:=(List.pairwise_append.1 h1).2.2 q hq p (by simp);unfold ltCh at *;omega
     ·rw[List.mem_singleton] at hq;subst hq;exact hrk
    have e4:zeP x A=(Q++[p])++x::S:=by rw[←hA2];exact zeO hall hS
    have hi1:ii (IntKind.i64.wrap ((A.length:Int)+1))=ii (((Q++[p])++x::S:List Chc).length:Int):=by
     rw[zaC (n:=1000001) (by omega) (by decide),←hA2];simp;omega
    refine zah ?_;refine ih ((Q++[p])++x::S,R') _ _ ⟨zjI (by rw[hA2];exact hA) hall hS,⟨T++[x],hTn,hTs.trans e4⟩,by simp;omega⟩ (by simp) ⟨rfl,rfl,rfl,rfl,hi1,trivial⟩ (congrArg (fun L=>_::setAt O d nm (olCh L)) (by simp:Q++p::x::(S++R')=((Q++[p])++x::S)++R')) trivial rfl rfl
 ·have g1:l.length≤A.length:=by simpa using g1
  obtain rfl:R=[]:=List.eq_nil_of_length_eq_zero (by omega);obtain⟨T,hT,hTA⟩:=hp;rw[List.append_nil] at hT ⊢;subst hT;rw[←hTA];refine zag Tk (r:=.tup []) rfl rfl rfl trivial rfl rfl ?_;rfl
theorem zkh (x:Chc):∀l,(zeP x l).length=l.length+1
 |[]=>rfl
 |y::r=>by
  unfold zeP
  split
  ·simp
  ·simp[zkh x r]
theorem zgC (l:List Chc):(zeA l).length=l.length:=by
 have:∀(r acc:List Chc),(r.foldl (fun acc x=>zeP x acc) acc).length=acc.length+r.length:=by
  intro r
  induction r with
  |nil=>simp
  |cons x r ih=>intro acc;rw[List.foldl_cons,ih,zkh,List.length_cons];omega
 have:=this l [];simpa [zeA] using this
theorem zyx (O:List Heap) (d nm:Nat) (l:List Chc) (q:Int) (hl:l.length≤12) (ho:zab O d nm=some (olCh l)):zao Tryz.prog 231 [.osl d nm,ii 0,ii l.length,ii q,zsG] O (.tup []) [] (setAt O d nm (olCh (zeA l))):=by
 have h:=fun O d ho=>zyP O d nm l (by omega) ho;have hsl:=zgC l;have w:IntKind.i64.wrap ((l.length:Int)-0)=(l.length:Int):=by rw[w64 (by omega) (by omega)];omega
 refine zaa Tk Tryz.func231 rfl Tryz.call231 Tryz.ntmps231 (Nat.le_of_ble_eq_true rfl) fun E=>?_;refine zai Tk Tryz.func231 ?_;refine zah ?_;refine zai Tk Tryz.func231 ?_;refine zae Tk Tryz.func231 rfl (fun _=>?_) (fun h=>absurd h (by rw[w];simp;omega));refine zaj Tk Tryz.func231 (h _ (d+1) (zay (H:=([]:Heap)) ho)) rfl rfl rfl (zaU (zay (H:=([]:Heap)) ho) (by simp[Ob.sh,hsl])) rfl ?_;refine zag Tk (r:=.tup []) rfl rfl rfl trivial rfl rfl ?_;rfl
theorem zwM (O:List Heap) (d nm:Nat) (l:List Chc) (hl:l.length≤12) (ho:zab O d nm=some (olCh l)):zao Tryz.prog 178 [.osl d nm,zsG] O (.tup []) [] (setAt O d nm (olCh (zeA l))):=by
 obtain⟨q,hb⟩:=zil l.length (by omega);have h:=fun O d q ho=>zyx O d nm l q hl ho;have hsl:=zgC l;refine zaa Tk Tryz.func178 rfl Tryz.call178 Tryz.ntmps178 (Nat.le_of_ble_eq_true rfl) fun E=>?_;refine zai Tk Tryz.func178 ?_;refine zbE Tk Tryz.func178 (zay ho) ?_;refine zaj Tk Tryz.func178 (hb _) rfl rfl rfl rfl rfl ?_;refine zaj Tk Tryz.func178 (h _ (d+1) _ (zay (H:=([]:Heap)) ho)) rfl rfl rfl (zaU (zay (H:=([]:Heap)) ho) (by simp[Ob.sh,hsl])) rfl ?_;refine zag Tk (r:=.tup []) rfl rfl rfl trivial rfl rfl ?_;rfl
theorem znj (loc:Int):∀(l r:List Sta) (i:Nat),stAt loc (l++r) i=stAt loc l i++stAt loc r (i+l.length)
 |[],r,i=>rfl
 |s::l,r,i=>by
  simp only[List.cons_append,stAt,znj loc l r (i+1),List.length_cons];rw[show i+1+l.length=i+(l.length+1) by omega]
  split<;>rfl
theorem ziz (loc:Int):∀(l:List Sta) (i:Nat),(stAt loc l i).length≤l.length
 |[],_=>Nat.le_refl _
 |s::l,i=>by
  have:=ziz loc l (i+1);unfold stAt
  split<;>simp<;>omega
theorem zzu (O:List Heap) (l:List Sta) (loc:Int) (hl:l.length≤1000000):zao Tryz.prog 175 [zjG l,ii loc] O (ints (stAt loc l 0)) [] O:=by
 refine zaa Tk Tryz.func175 rfl Tryz.call175 Tryz.ntmps175 (Nat.le_of_ble_eq_true rfl) fun E=>?_;refine zai Tk Tryz.func175 ?_;refine g_wk (zbn 5 22 3 1 rfl rfl rfl) ?_;refine zah ?_;refine zak (fun i:Nat=>[(1,ii loc),(5,.osl 0 22),(8,zjG l),(9,ii l.length),(10,ii i)]) (fun i=>[(22,zb7 (stAt loc (l.take i) 0))]) (fun _=>O) 25
  (fun i=>i≤l.length) (fun i=>l.length-i) 0 (Nat.zero_le _) ⟨rfl,rfl,rfl,rfl,rfl,trivial⟩ rfl ⟨rfl,trivial⟩ rfl rfl ?_
 intro i hi ih;have hi:i≤l.length:=hi;refine zai Tk Tryz.func175 ?_;refine zae Tk Tryz.func175 rfl (fun g1=>?_) (fun g1=>?_)
 ·have g1:i<l.length:=by simpa using g1
  have gs:(l.map staI)[(i:Int).toNat]? = some (staI l[i]):=zan (f:=staI) g1;have ht:stAt loc (l.take (i+1)) 0=stAt loc (l.take i) 0++(if l[i].loc=loc then [(i:Int)] else []):=by
   rw[List.take_succ_eq_append_getElem g1,znj,List.length_take,Nat.min_eq_left hi,Nat.zero_add];rfl
  have hll:=ziz loc (l.take i) 0;rw[List.length_take] at hll;have hj1:ii (IntKind.i64.wrap ((i:Int)+1))=ii ((i+1:Nat):Int):=congrArg ii (zaC (n:=1000001) (by omega) (by decide));generalize stAt loc (l.take i) 0=L at *;generalize l[i]=s at *;obtain⟨sl,sv⟩:=s;simp only at ht;refine zad Tk Tryz.func175 (by exact⟨by omega,by show (i:Int)<(l.length:Int);omega⟩) ?_;refine zap Tk Tryz.func175 (gs) ?_;refine zae Tk Tryz.func175 rfl (fun c1=>?_) (fun c1=>?_)
  ·have c1:sl=loc:=beqT c1;rw[if_pos c1] at ht;refine zad Tk Tryz.func175 (by exact⟨by show (L.length+1)*8≤140737488355328;omega,by show L.length+1≤9223372036854775807;omega⟩) ?_;refine zah ?_;exact ih (i+1) _ _ g1 (by omega) ⟨rfl,rfl,rfl,rfl,hj1,trivial⟩ rfl ⟨by rw[ht];exact congrArg some (zcM L i),trivial⟩ rfl rfl
  ·have c1:¬sl=loc:=beqF c1;rw[if_neg c1,List.append_nil] at ht;refine zah ?_;exact ih (i+1) _ _ g1 (by omega) ⟨rfl,rfl,rfl,rfl,hj1,trivial⟩ rfl ⟨by rw[ht];rfl,trivial⟩ rfl rfl
 ·have g1:l.length≤i:=by simpa using g1
  rw[List.take_of_length_le g1];refine za4 (zam 22 rfl rfl) ?_;refine zag Tk (r:=ints (stAt loc l 0)) rfl rfl rfl trivial rfl rfl ?_;rfl
abbrev olc (l:List Loc2):Ob:=.arr 131 2 l.length (l.map zcc) true
abbrev lcsI (l:List Loc2):I:=.sl 2 l.length (l.map zcc)
theorem zvK (O:List Heap) (l:List Loc2) (hl:l.length≤1000000):zao Tryz.prog 180 [.i (lcsI l)] O (.osl 0 95) [(95,olc l)] O:=by
 refine zaa Tk Tryz.func180 rfl Tryz.call180 Tryz.ntmps180 (Nat.le_of_ble_eq_true rfl) fun E=>?_;refine zai Tk Tryz.func180 ?_;refine znP Tk Tryz.func180 rfl rfl fun b hb=>?_;refine zae Tk Tryz.func180 rfl (fun h1=>?_) (fun h1=>?_)
 ·have hl0:l=[]:=List.eq_nil_of_length_eq_zero (hb h1);subst hl0;refine za4 (zbn 2 95 131 2 rfl rfl rfl) ?_;exact⟨zaF (hT:=Tk) (r:=.osl 0 95) rfl rfl rfl ⟨⟨_,rfl,rfl⟩,trivial⟩ (zgK _ _ _) rfl rfl⟩
 ·refine zad Tk Tryz.func180 (by exact⟨by show (0+l.length)*16≤140737488355328;omega,by show 0+l.length≤9223372036854775807;omega⟩) ?_;refine za4 (zbo (l:=[(2,.osl 0 7)]) (Hv:=[(7,.arr 131 2 (0+l.length) ([]++l.map zcc) true)]) ⟨rfl,trivial⟩ rfl ⟨rfl,trivial⟩ rfl rfl) ?_;rw[Nat.zero_add,List.nil_append];refine za4 (zq4 7 95 rfl rfl rfl) ?_;exact⟨zaF (hT:=Tk) (r:=.osl 0 95) rfl rfl rfl ⟨⟨_,rfl,rfl⟩,trivial⟩ (zgK _ _ _) rfl rfl⟩
theorem zxh (O:List Heap) (x:Chc):zao Tryz.prog 177 [.agg [ii x.1,ints x.2]] O (bb (decide (x.2.length=0))) [] O:=by
 refine zaa Tk Tryz.func177 rfl Tryz.call177 Tryz.ntmps177 (Nat.le_of_ble_eq_true rfl) fun E=>?_;refine zai Tk Tryz.func177 ?_;refine zag Tk (r:=bb ((x.2.length:Int)==0)) rfl rfl rfl trivial rfl rfl ?_;refine congrArg bb ?_
 by_cases h:x.2.length=0<;>simp[h]
theorem zxs (O:List Heap) (x:XEx):zao Tryz.prog 139 [.agg [.i (strI x.name),.i (lcsI x.locals)]] O (bb (decide (x.name.size>32))) [] O:=by
 refine zaa Tk Tryz.func139 rfl Tryz.call139 Tryz.ntmps139 (Nat.le_of_ble_eq_true rfl) fun E=>?_;refine zai Tk Tryz.func139 ?_;refine zag Tk (r:=bb (decide ((x.name.size:Int)>32))) rfl rfl rfl trivial rfl rfl ?_;refine congrArg bb (decide_eq_decide.2 ?_);omega
theorem zva (O:List Heap) (l:List Chc) (f:Nat) (p:Chc→Bool) (hl:l.length≤zar) (hp:∀x∈l,zao Tryz.prog f [.agg [ii x.1,ints x.2]] ([]::O) (bb (p x)) [] ([]::O)) :
  zao Tryz.prog 230 [.i (.sl 2 l.length (l.map chcI)),.fn (.func f) [] []] O (ii (zaw p l 0)) [] O:=by
 generalize hR:zaw p l 0=R;refine zaa Tk Tryz.func230 rfl Tryz.call230 Tryz.ntmps230 (Nat.le_of_ble_eq_true rfl) fun E=>?_;refine zai Tk Tryz.func230 ?_;refine zah ?_;refine zak (fun i:Nat=>[(0,.i (.sl 2 l.length (l.map chcI))),(1,.fn (.func f) [] []),(6,.i (.sl 2 l.length (l.map chcI))),(7,ii l.length),(8,ii i)]) (fun _=>[]) (fun _=>O) 19
  (fun i=>i≤l.length∧zaw p (l.drop i) i=R) (fun i=>l.length-i) 0 ⟨Nat.zero_le _,hR⟩ ⟨rfl,rfl,rfl,rfl,rfl,trivial⟩ rfl trivial rfl rfl ?_
 rintro i ⟨hi,hno⟩ ih;clear hR;refine zai Tk Tryz.func230 ?_;refine zae Tk Tryz.func230 rfl (fun g1=>?_) (fun g1=>?_)
 ·have h1:i<l.length:=by simpa using g1
  have gs:(l.map chcI)[(i:Int).toNat]? = some (chcI l[i]):=zan h1;have hps:=hp l[i] (List.getElem_mem h1);have hd:l.drop i=l[i]::l.drop (i+1):=List.drop_eq_getElem_cons h1;rw[hd] at hno;simp only[zaw] at hno;clear hd;generalize l[i]=s at *;refine zad Tk Tryz.func230 (by exact⟨by omega,by show (i:Int)<(l.length:Int);omega⟩) ?_;refine zap Tk Tryz.func230 (gs) ?_;refine zaj Tk Tryz.func230 (hps) rfl rfl rfl rfl rfl ?_;refine zae Tk Tryz.func230 rfl (fun g2=>?_) (fun g2=>?_)
  ·rw[if_pos g2] at hno;subst hno;refine zag Tk (r:=ii (i:Int)) rfl rfl rfl trivial rfl rfl ?_;rfl
  ·have g2:p s=false:=g2;rw[if_neg (by rw[g2];decide)] at hno;refine zah ?_;exact ih (i+1) _ _ ⟨h1,hno⟩ (by omega) ⟨rfl,rfl,rfl,rfl,congrArg ii (zaC h1 hl),trivial⟩ rfl trivial rfl rfl
 ·have h1:l.length≤i:=by simpa using g1
  rw[List.drop_eq_nil_of_le h1] at hno;have hno:(-1:Int)=R:=hno;subst hno;refine zag Tk (r:=ii (-1)) rfl rfl rfl trivial rfl rfl ?_;rfl
theorem zlP (O:List Heap) (l:List Chc) (f:Nat) (p:Chc→Bool) (hl:l.length≤zar) (hp:∀x∈l,zao Tryz.prog f [.agg [ii x.1,ints x.2]] ([]::[]::O) (bb (p x)) [] ([]::[]::O)) :
  zao Tryz.prog 176 [.i (.sl 2 l.length (l.map chcI)),.fn (.func f) [] []] O (bb (l.any p)) [] O:=by
 have h:=fun O hp=>zva O l f p hl hp;rw[←zbq p l 0];generalize zaw p l 0=R at *;refine zaa Tk Tryz.func176 rfl Tryz.call176 Tryz.ntmps176 (Nat.le_of_ble_eq_true rfl) fun E=>?_;refine zai Tk Tryz.func176 ?_;refine zaj Tk Tryz.func176 (h _ hp) rfl rfl rfl rfl rfl ?_;refine zag Tk (r:=bb (decide (R≥0))) rfl rfl rfl trivial rfl rfl ?_;rfl
theorem zvd (O:List Heap) (l:List XEx) (f:Nat) (p:XEx→Bool) (hl:l.length≤zar) (hp:∀x∈l,zao Tryz.prog f [.agg [.i (strI x.name),.i (lcsI x.locals)]] ([]::O) (bb (p x)) [] ([]::O)) :
  zao Tryz.prog 181 [.i (.sl 2 l.length (l.map xexI)),.fn (.func f) [] []] O (ii (zaw p l 0)) [] O:=by
 generalize hR:zaw p l 0=R;refine zaa Tk Tryz.func181 rfl Tryz.call181 Tryz.ntmps181 (Nat.le_of_ble_eq_true rfl) fun E=>?_;refine zai Tk Tryz.func181 ?_;refine zah ?_;refine zak (fun i:Nat=>[(0,.i (.sl 2 l.length (l.map xexI))),(1,.fn (.func f) [] []),(6,.i (.sl 2 l.length (l.map xexI))),(7,ii l.length),(8,ii i)]) (fun _=>[]) (fun _=>O) 19
  (fun i=>i≤l.length∧zaw p (l.drop i) i=R) (fun i=>l.length-i) 0 ⟨Nat.zero_le _,hR⟩ ⟨rfl,rfl,rfl,rfl,rfl,trivial⟩ rfl trivial rfl rfl ?_
 rintro i ⟨hi,hno⟩ ih;clear hR;refine zai Tk Tryz.func181 ?_;refine zae Tk Tryz.func181 rfl (fun g1=>?_) (fun g1=>?_)
 ·have h1:i<l.length:=by simpa using g1
  have gs:(l.map xexI)[(i:Int).toNat]? = some (xexI l[i]):=zan h1;have hps:=hp l[i] (List.getElem_mem h1);have hd:l.drop i=l[i]::l.drop (i+1):=List.drop_eq_getElem_cons h1;rw[hd] at hno;simp only[zaw] at hno;clear hd;generalize l[i]=s at *;refine zad Tk Tryz.func181 (by exact⟨by omega,by show (i:Int)<(l.length:Int);omega⟩) ?_;refine zap Tk Tryz.func181 (gs) ?_;refine zaj Tk Tryz.func181 (hps) rfl rfl rfl rfl rfl ?_;refine zae Tk Tryz.func181 rfl (fun g2=>?_) (fun g2=>?_)
  ·rw[if_pos g2] at hno;subst hno;refine zag Tk (r:=ii (i:Int)) rfl rfl rfl trivial rfl rfl ?_;rfl
  ·have g2:p s=false:=g2;rw[if_neg (by rw[g2];decide)] at hno;refine zah ?_;exact ih (i+1) _ _ ⟨h1,hno⟩ (by omega) ⟨rfl,rfl,rfl,rfl,congrArg ii (zaC h1 hl),trivial⟩ rfl trivial rfl rfl
 ·have h1:l.length≤i:=by simpa using g1
  rw[List.drop_eq_nil_of_le h1] at hno;have hno:(-1:Int)=R:=hno;subst hno;refine zag Tk (r:=ii (-1)) rfl rfl rfl trivial rfl rfl ?_;rfl
theorem zlS (O:List Heap) (l:List XEx) (f:Nat) (p:XEx→Bool) (hl:l.length≤zar) (hp:∀x∈l,zao Tryz.prog f [.agg [.i (strI x.name),.i (lcsI x.locals)]] ([]::[]::O) (bb (p x)) [] ([]::[]::O)) :
  zao Tryz.prog 138 [.i (.sl 2 l.length (l.map xexI)),.fn (.func f) [] []] O (bb (l.any p)) [] O:=by
 have h:=fun O hp=>zvd O l f p hl hp;rw[←zbq p l 0];generalize zaw p l 0=R at *;refine zaa Tk Tryz.func138 rfl Tryz.call138 Tryz.ntmps138 (Nat.le_of_ble_eq_true rfl) fun E=>?_;refine zai Tk Tryz.func138 ?_;refine zaj Tk Tryz.func138 (h _ hp) rfl rfl rfl rfl rfl ?_;refine zag Tk (r:=bb (decide (R≥0))) rfl rfl rfl trivial rfl rfl ?_;rfl
abbrev zle (l:List (List Sta)):I:=.sl 1 l.length (l.map fun s=>[I.sl 2 s.length (s.map staI)])
abbrev ochs (l:List Chc):Ob:=.arr 304 2 l.length (l.map chcI) true
abbrev llsI (l:List (List Loc2)):I:=.sl 1 l.length (l.map fun b=>[lcsI b])
abbrev olls (l:List (List Loc2)):Ob:=.arr 124 1 l.length (l.map fun b=>[lcsI b]) true
abbrev zio (l:List XEx):I:=.sl 2 l.length (l.map xexI)
abbrev zrO (l:List XEx):Ob:=.arr 126 2 l.length (l.map xexI) true
structure lcOk (m:Mdl) (og:List (List Sta)) (x:NLc):Prop where
 ex:∃(k k2:Nat) (c:Ins) (t:Tpl) (s:List Sta),nmIx (m.comps.map (·.name)) x.1=(k:Int)∧m.comps[k]? = some c∧nmIx (m.tpls.map (·.name)) c.tpl=(k2:Int)∧m.tpls[k2]? = some t∧zb4 m c=some t∧t.locs.length≤1000000∧og[k]? = some s∧s.length≤100000
theorem zvr {l:List ByteArray} {s:ByteArray} {k:Nat} (h:nmIx l s=(k:Int)):fndI l s=(k:Int):=by
 unfold fndI;rw[h,if_neg (by omega)]
theorem zx4 {m:Mdl} {og:List (List Sta)} {x:NLc} {k:Nat} {c:Ins} {t:Tpl} {s:List Sta} (h1:nmIx (m.comps.map (·.name)) x.1=(k:Int)) (h2:m.comps[k]? = some c) (h3:zb4 m c=some t) (h4:og[k]? = some s) :
  chcR m og x=((k:Int),stAt (nmIx t.locs x.2) s 0):=by
 unfold chcR;simp only[zvr h1,Int.toNat_natCast,h2,h3];rw[List.getD_eq_getElem?_getD,h4];rfl
theorem ztc (l:List Chc) (y:Chc) (n:Int):chsN (l++[y]) n=if chsN l n*(y.2.length:Int)<1048576 then chsN l n*(y.2.length:Int) else 1048576:=by
 induction l generalizing n with
 |nil=>rfl
 |cons x r ih=>simp only[List.cons_append,chsN];exact ih _
theorem zjh:∀(l:List Chc) {n:Int},0≤n→n≤1048576→0≤chsN l n∧chsN l n≤1048576
 |[],n,h,h2=>⟨h,h2⟩
 |y::r,n,h,h2=>by
  unfold chsN;have:0≤n*(y.2.length:Int):=Int.mul_nonneg h (by omega)
  split
  ·exact zjh r this (by omega)
  ·exact zjh r (by omega) (by omega)
def chsP:List Chc→Nat
 |[]=>1
 |y::r=>y.2.length*chsP r
theorem zn6:∀{l:List Chc},(l.any fun y=>y.2.isEmpty)=false→0<chsP l
 |[],_=>Nat.one_pos
 |y::r,h=>by
  simp only[List.any_cons,Bool.or_eq_false_iff] at h;have h1:0<y.2.length:=by
   cases hy:y.2 with
   |nil=>rw[hy] at h;simp at h
   |cons=>simp
  exact Nat.mul_pos h1 (zn6 h.2)
theorem ztd:∀{l:List Chc} {n:Nat},(l.any fun y=>y.2.isEmpty)=false→1≤n→chsN l n≤32→n*chsP l≤32
 |[],n,_,_,h=>by simp only[chsN] at h;simp only[chsP];omega
 |y::r,n,h0,hn,h=>by
  have h0':=h0;simp only[List.any_cons,Bool.or_eq_false_iff] at h0;have h1:0<y.2.length:=by
   cases hy:y.2 with
   |nil=>rw[hy] at h0;simp at h0
   |cons=>simp
  unfold chsN at h
  split at h
  ·have h2:=ztd (n:=n*y.2.length) h0.2 (Nat.mul_pos hn h1) (by simpa using h);unfold chsP;rw[←Nat.mul_assoc];exact h2
  ·exfalso;have:∀(l:List Chc),(l.any fun y=>y.2.isEmpty)=false→∀k:Int,1048576≤k→1048576≤chsN l k:=by
    intro l
    induction l with
    |nil=>intro _ k hk;exact hk
    |cons z q ih=>
     intro hz k hk;simp only[List.any_cons,Bool.or_eq_false_iff] at hz;unfold chsN
     split
     ·rename_i hlt;exfalso;have:0<z.2.length:=by
       cases hy:z.2 with
       |nil=>rw[hy] at hz;simp at hz
       |cons=>simp
      have:k*1≤k*(z.2.length:Int):=Int.mul_le_mul_of_nonneg_left (by omega) (by omega);omega
     ·exact ih hz.2 _ (Int.le_refl _)
   have:=this r h0.2 1048576 (Int.le_refl _);omega
theorem zkN {l l':List Chc} (h:l.Perm l'):chsP l=chsP l':=by
 induction h with
 |nil=>rfl
 |cons x _ ih=>simp only[chsP,ih]
 |swap x y l=>simp only[chsP];rw[←Nat.mul_assoc,←Nat.mul_assoc,Nat.mul_comm x.2.length]
 |trans _ _ ih1 ih2=>exact ih1.trans ih2
theorem zh7 (x:Chc):∀l,(zeP x l).Perm (x::l)
 |[]=>.refl _
 |y::r=>by
  unfold zeP
  split
  ·exact .refl _
  ·exact ((zh7 x r).cons y).trans (.swap x y r)
theorem zhR (l:List Chc):(zeA l).Perm l:=by
 have:∀(r acc:List Chc),(r.foldl (fun acc x=>zeP x acc) acc).Perm (acc++r):=by
  intro r
  induction r with
  |nil=>intro acc;rw[List.append_nil];exact .refl _
  |cons x r ih=>
   intro acc;rw[List.foldl_cons];refine (ih _).trans ?_;refine ((zh7 x acc).append_right r).trans ?_;exact List.perm_middle.symm
 exact this l []
theorem ztb (l:List Chc) (y:Chc) (all:List (List Loc2)):chsR (l++[y]) all=(chsR l all).flatMap fun b=>y.2.map fun s=>b++[(y.1,s)]:=by
 induction l generalizing all with
 |nil=>rfl
 |cons x r ih=>simp only[List.cons_append,chsR];exact ih _
theorem zfm:∀(l:List Chc) (all:List (List Loc2)),(chsR l all).length=all.length*chsP l
 |[],all=>by simp[chsR,chsP]
 |y::r,all=>by
  unfold chsR chsP;rw[zfm r];have:(all.flatMap fun b=>y.2.map fun s=>b++[(y.1,s)]).length=all.length*y.2.length:=by
   induction all with
   |nil=>simp
   |cons a q ih=>rw[List.flatMap_cons,List.length_append,List.length_map,ih,List.length_cons,Nat.add_mul];omega
  rw[this,Nat.mul_assoc]
theorem zkM {l:List Chc} (h:0<chsP l) (i:Nat):chsP (l.take i)≤chsP l:=by
 have:∀(a b:List Chc),chsP (a++b)=chsP a*chsP b:=by
  intro a
  induction a with
  |nil=>intro b;simp[chsP]
  |cons x r ih=>intro b;simp only[List.cons_append,chsP,ih,Nat.mul_assoc]
 have h2:=this (l.take i) (l.drop i);rw[List.take_append_drop] at h2;rw[h2] at h ⊢;exact Nat.le_mul_of_pos_right _ (Nat.pos_of_mul_pos_left h)
theorem zn5:∀(l:List Chc) {all:List (List Loc2)} {k:Nat},(∀b∈all,b.length≤k)→∀b∈chsR l all,b.length≤k+l.length
 |[],all,k,h,b,hb=>h b hb
 |y::r,all,k,h,b,hb=>by
  unfold chsR at hb;have:=zn5 r (k:=k+1) (fun c hc=>by
   simp only[List.mem_flatMap,List.mem_map] at hc;obtain⟨a,ha,s,_,rfl⟩:=hc;have:=h a ha;simp;omega) b hb
  rw[List.length_cons];omega
theorem zjZ (nm:ByteArray) (b:List Loc2):∀(l:List (List Loc2)) (i:Nat),numX nm (l++[b]) i=numX nm l i++[⟨nm++⟨#[95]⟩++zcW ((i+l.length:Nat):Int),b⟩]
 |[],i=>rfl
 |a::r,i=>by
  simp only[List.cons_append,numX,zjZ nm b r (i+1),List.length_cons];rw[show i+1+r.length=i+(r.length+1) by omega]
theorem ziN (nm:ByteArray):∀(l:List (List Loc2)) (i:Nat),(numX nm l i).length=l.length
 |[],_=>rfl
 |a::r,i=>by simp[numX,ziN nm r]
theorem zuZ (l:List Chc) (x:Chc):Ob.arr 304 2 (l.length+1) (l.map chcI++[chcI x]) true=ochs (l++[x]):=by simp
set_option maxHeartbeats 8000000 in
theorem zsQ {g:Nat} (hg:zda g) {ty:TypeId} {fr:Nat×Nat} (O:List Heap) (m:Mdl) (x:NEx) (og:List (List Sta)) (most:Int) (hm:szOk m) (hl:x.locals.length≤12) (hlc:∀y∈x.locals,lcOk m og y) (hmost:most≤32) (hxn:x.name.size≤1000) :
  za3 g (ptab ty fr) Tryz.prog 137 [mdlD m,nexD x,.i (zle og),ii most] O (.tup [.i (zio (expX m og x most).1),ii (expX m og x most).2]) [] O:=by
 have hf1:=fun O s=>zew O m 3 s hm;rw[show namK m 3=m.comps.map (·.name) from rfl] at hf1;obtain⟨xn,lcs⟩:=x;simp only at hl hlc hxn;generalize hR:expX m og ⟨xn,lcs⟩ most=R;unfold expX at hR;simp only at hR;have hlen:(lcs.map (chcR m og)).length=lcs.length:=List.length_map ..;generalize hL:lcs.map (chcR m og)=l at *;have h1:=zjh l (n:=1) (by decide) (by decide);refine zaN [200067,17,30] Tk Tryz.func137 rfl Tryz.call137 Tryz.ntmps137 (Nat.le_of_ble_eq_true rfl) fun E hE=>?_;refine zai Tk Tryz.func137 ?_;refine g_wk (zbn 10 59 304 2 rfl rfl rfl) ?_;refine zah ?_;refine zak (fun i:Nat=>[(2,.i (zle og)),(3,ii most),(4,.own 0 4 0 0),(5,.own 0 5 0 0),(10,.osl 0 59),(11,ii (chsN (l.take i) 1)),(29,.i (zr0 lcs)),(30,ii lcs.length),(31,ii i)])
  (fun i=>[(4,.box (mdlC m)),(5,.box (nexC ⟨xn,lcs⟩)),(59,ochs (l.take i))]) (fun _=>O) 138
  (fun i=>i≤lcs.length) (fun i=>lcs.length-i) 0 (Nat.zero_le _) ⟨rfl,rfl,rfl,rfl,rfl,rfl,rfl,rfl,rfl,trivial⟩ rfl ⟨rfl,rfl,rfl,trivial⟩ rfl rfl ?_
 intro i hi ih;have hi:i≤lcs.length:=hi;refine zai Tk Tryz.func137 ?_;refine zae Tk Tryz.func137 rfl (fun g1=>?_) (fun g1=>?_)
 ·have g1:i<lcs.length:=by simpa using g1
  have gs:(lcs.map nlcI)[(i:Int).toNat]? = some (nlcI lcs[i]):=zan (f:=nlcI) g1;obtain⟨k,k2,c,t,s,e1,e2,e3,e4,e5,e6,e7,e8⟩:=(hlc lcs[i] (List.getElem_mem g1)).ex;have hch:=zx4 (x:=lcs[i]) e1 e2 e5 e7;have ht:l.take (i+1)=l.take i++[((k:Int),stAt (nmIx t.locs lcs[i].2) s 0)]:=by
   rw[List.take_succ_eq_append_getElem (by rw[hlen];exact g1)];congr 2;rw[←hch];subst hL;simp
  have hN:=ztc (l.take i) ((k:Int),stAt (nmIx t.locs lcs[i].2) s 0) 1;rw[←ht] at hN;have hNb:=zjh (l.take i) (n:=1) (by decide) (by decide);have hf2:=fun O=>hf1 O lcs[i].1;rw[e1,zfi] at hf2;have hT:=fun O=>zgz O m k k2 c t hm e2 e3 e4;have hI:=fun O=>znM O t.locs lcs[i].2 (by simp only[zar];omega);have hA:=fun O=>zzu O s (nmIx t.locs lcs[i].2) (by omega);have hsl:=ziz (nmIx t.locs lcs[i].2) s 0;have gk:k<og.length:=(List.getElem?_eq_some_iff.1 e7).1;have gg:(og.map fun s=>[I.sl 2 s.length (s.map staI)])[(k:Int).toNat]? = some [I.sl 2 s.length (s.map staI)]:=by rw[Int.toNat_natCast,List.getElem?_map,e7];rfl
  have hl2:(l.take i).length=i:=by rw[List.length_take,hlen];omega
  have hj1:ii (IntKind.i64.wrap ((i:Int)+1))=ii ((i+1:Nat):Int):=congrArg ii (zaC (n:=1000001) (by omega) (by decide));clear hch e1 e2 e3 e4 e5 e7 hf1 hlc hL;generalize stAt (nmIx t.locs lcs[i].2) s 0=S at *;generalize nmIx t.locs lcs[i].2=q at *;generalize chsN (l.take i) 1=N at *;generalize l.take i=L at *;generalize lcs[i]=y at *;obtain⟨cn,ln⟩:=y;simp only at hf2 hI hN;have hprod:0≤N*(S.length:Int)∧N*(S.length:Int)≤1048576*100000:=by
   refine⟨Int.mul_nonneg hNb.1 (by omega),?_⟩;exact Int.mul_le_mul hNb.2 (by omega) (by omega) (by decide)
  have hw:IntKind.i64.wrap (N*(S.length:Int))=N*(S.length:Int):=w64 (by omega) (by omega);have hmin:(if (1048576:Int)<IntKind.i64.wrap (N*(S.length:Int)) then (1048576:Int) else IntKind.i64.wrap (N*(S.length:Int)))=chsN (l.take (i+1)) 1:=by
   rw[hN,hw];generalize N*(S.length:Int)=P at *
   split<;>split<;>omega
  refine zad Tk Tryz.func137 (by exact⟨by omega,by show (i:Int)<(lcs.length:Int);omega⟩) ?_;refine zap Tk Tryz.func137 (gs) ?_;refine zaj Tk Tryz.func137 (hf2 _) rfl rfl rfl rfl rfl ?_;refine zav Tk Tryz.func137 zaz rfl ?_;refine zas Tk (by exact⟨by omega,by show (k:Int)<(og.length:Int);omega⟩) ?_;refine zaE Tk (gg) ?_;refine zaJ Tk (fun _=>hT _) rfl rfl rfl ?_;refine zaJ Tk (fun _=>hI _) rfl rfl rfl ?_;refine zaJ Tk (fun _=>hA _) rfl rfl rfl ?_;refine zaB Tk Tryz.func137 (by kernel_rfl) ?_;refine zad Tk Tryz.func137 (by exact⟨by show (L.length+1)*32≤140737488355328;omega,by show L.length+1≤9223372036854775807;omega⟩) ?_;refine zah ?_;refine ih (i+1) _ _ g1 (by omega) ⟨rfl,rfl,rfl,rfl,rfl,congrArg ii hmin,rfl,rfl,hj1,trivial⟩ rfl ⟨rfl,rfl,?_,trivial⟩ rfl rfl;rw[ht];exact congrArg some (zuZ L (k,S))
 have g1:lcs.length≤i:=by simpa using g1
 rw[List.take_of_length_le (by rw[hlen];exact g1)];rw[←hlen] at hl;clear ih hL hlc hf1 hi g1 hlen;have hany:=fun O=>zlP O l 177 (fun y=>decide (y.2.length=0)) (by simp only[zar];omega) fun y _=>zxh _ y;have hae:(l.any fun y=>decide (y.2.length=0))=l.any fun y=>y.2.isEmpty:=by
  congr 1;funext y
  cases y.2<;>rfl
 rw[hae] at hany;have hP:=fun h=>zn6 (l:=l) h;have hNP:=fun h=>ztd (l:=l) (n:=1) h (Nat.le_refl _);generalize (l.any fun y=>y.2.isEmpty)=A at *;refine zb8 Tk Tryz.func137 rfl rfl rfl rfl (zbt (hany []) (zeq _) (.osl (.f .nil)) rfl (show 67<138 by decide) rfl rfl) ?_;refine zae Tk Tryz.func137 rfl (fun c1=>?_) (fun c1=>?_)
 ·have c1:A=true:=c1;rw[if_pos c1] at hR;subst hR;refine zaD Tk (r:=.tup [.i (.v (.slice none 0 0)),ii 0]) rfl rfl rfl trivial rfl rfl ?_
  repeat' (first|refine zbR ?_|refine zbu ?_|refine zcv ?_|refine CoDL.cons ?_ ?_|exact CoDL.nil|exact zbd|refine zcB ?_|refine CoLL.cons ?_ ?_|exact CoLL.nil|refine CoL.cons ?_ ?_|exact CoL.nil|exact CoI.refl _|exact CoL.refl _|exact CoLL.refl _|exact CoDL.refl _|exact CoD.refl _)
 have c1:A=false:=c1;rw[if_neg (zgU c1)] at hR;generalize hN:chsN l 1=N at *;refine zae Tk Tryz.func137 rfl (fun c2=>?_) (fun c2=>?_)
 ·have c2:N>most:=of_decide_eq_true c2;rw[if_pos c2] at hR;subst hR;refine zaD Tk (r:=.tup [.i (.v (.slice none 0 0)),ii 3]) rfl rfl rfl trivial rfl rfl ?_
  repeat' (first|refine zbR ?_|refine zbu ?_|refine zcv ?_|refine CoDL.cons ?_ ?_|exact CoDL.nil|exact zbd|refine zcB ?_|refine CoLL.cons ?_ ?_|exact CoLL.nil|refine CoL.cons ?_ ?_|exact CoL.nil|exact CoI.refl _|exact CoL.refl _|exact CoLL.refl _|exact CoDL.refl _|exact CoD.refl _)
 have c2:¬N>most:=of_decide_eq_false c2;rw[if_neg c2] at hR;have hP:=hP c1;have hNP:=hNP c1 (by omega);rw[Nat.one_mul] at hNP;have hpm:=zhR l;rw[←zkN hpm] at hP hNP;have hsl:=zgC l;have h178:=fun O d ho=>zwM O d 59 l hl ho;refine zaj Tk Tryz.func137 (h178 _ 0 rfl) rfl rfl rfl (za7 (ob:=ochs l) rfl (by simp[Ob.sh,hsl])) rfl ?_;rw[←hsl] at hl;clear hpm h178 hsl;generalize zeA l=sl at *;refine zat ?_;refine zaq (zam 59 rfl rfl) ?_;refine zaq (zum 73 (ys:=[[lcsI []]]) rfl rfl rfl (by simp;rfl) fun K vs h=>?_) ?_
 ·have h:RepL K vs [.v (.slice none 0 0)]:=h;show RepL K vs [lcsI []]
  cases h with
  |cons h1 h=>
   cases h
   cases h1
   exact .cons .nil .nil
 refine zaq (zam 73 rfl rfl) ?_;refine zai Tk Tryz.func137 ?_;refine g_go Tk Tryz.func137 ?_;refine zah ?_;refine zak (fun i:Nat=>[(5,.own 0 5 0 0),(17,.i (llsI (chsR (sl.take i) [[]]))),(74,.i (.sl 2 sl.length (sl.map chcI))),(75,ii sl.length),(76,ii i)])
  (fun i=>[(5,.box (nexC ⟨xn,lcs⟩))]) (fun _=>O) 138
  (fun i=>i≤sl.length) (fun i=>sl.length-i) 0 (Nat.zero_le _) ⟨rfl,rfl,rfl,rfl,rfl,trivial⟩ rfl ⟨rfl,trivial⟩ rfl rfl ?_
 intro i hi ih;have hi:i≤sl.length:=hi;refine zai Tk Tryz.func137 ?_;refine zae Tk Tryz.func137 rfl (fun g1=>?_) (fun g1=>?_)
 ·have g1:i<sl.length:=by simpa using g1
  have gs:(sl.map chcI)[(i:Int).toNat]? = some (chcI sl[i]):=zan (f:=chcI) g1;have hs1:chsR (sl.take (i+1)) [[]]=(chsR (sl.take i) [[]]).flatMap fun b=>sl[i].2.map fun s=>b++[(sl[i].1,s)]:=by
   rw[List.take_succ_eq_append_getElem g1,ztb]
  have hlen1:(chsR (sl.take i) [[]]).length*sl[i].2.length≤32:=by
   have h2:=zfm (sl.take (i+1)) [[]];have h3:=zkM hP (i+1);rw[hs1] at h2;have h4:((chsR (sl.take i) [[]]).flatMap fun b=>sl[i].2.map fun s=>b++[(sl[i].1,s)]).length=(chsR (sl.take i) [[]]).length*sl[i].2.length:=by
    generalize chsR (sl.take i) [[]]=Q
    induction Q with
    |nil=>simp
    |cons a q ihq=>rw[List.flatMap_cons,List.length_append,List.length_map,ihq,List.length_cons,Nat.add_mul];omega
   rw[h4] at h2;rw[h2];simp only[List.length_singleton,Nat.one_mul];omega
  have hmem:∀b∈chsR (sl.take i) [[]],b.length≤12:=by
   intro b hb;have:=zn5 (sl.take i) (all:=[[]]) (k:=0) (by simp) b hb;rw[List.length_take] at this;omega
  have hal:(chsR (sl.take i) [[]]).length≤32:=by
   have h2:=zfm (sl.take i) [[]];have h3:=zkM hP i;rw[h2];simp only[List.length_singleton,Nat.one_mul];omega
  have hj1:ii (IntKind.i64.wrap ((i:Int)+1))=ii ((i+1:Nat):Int):=congrArg ii (zaC (n:=1000001) (by omega) (by decide));generalize chsR (sl.take i) [[]]=all at *;generalize sl[i]=y at *;obtain⟨yc,st⟩:=y;simp only at hs1 hlen1;have hstl:all.length=0∨st.length≤32:=by
   rcases Nat.eq_zero_or_pos all.length with h|h
   ·exact .inl h
   ·right;exact Nat.le_trans (Nat.le_mul_of_pos_left _ h) hlen1
  refine zad Tk Tryz.func137 (by exact⟨by omega,by show (i:Int)<(sl.length:Int);omega⟩) ?_;refine zap Tk Tryz.func137 (gs) ?_;refine g_wk (zbn 20 103 124 1 rfl rfl rfl) ?_;refine zah ?_;refine zak (fun j:Nat=>[(5,.own 0 5 0 0),(19,.own 0 19 0 0),(20,.osl 0 103),(74,.i (.sl 2 sl.length (sl.map chcI))),(75,ii sl.length),(76,ii i),(80,.i (llsI all)),(81,ii all.length),(82,ii j)])
   (fun j=>[(5,.box (nexC ⟨xn,lcs⟩)),(19,.box [ii yc,ints st]),(103,olls ((all.take j).flatMap fun b=>st.map fun s=>b++[(yc,s)]))]) (fun _=>O) 138
   (fun j=>j≤all.length) (fun j=>all.length-j) 0 (Nat.zero_le _) ⟨rfl,rfl,rfl,rfl,rfl,rfl,rfl,rfl,rfl,trivial⟩ rfl ⟨rfl,rfl,rfl,trivial⟩ rfl rfl ?_
  intro j hj ih2;have hj:j≤all.length:=hj;refine zai Tk Tryz.func137 ?_;refine zae Tk Tryz.func137 rfl (fun g2=>?_) (fun g2=>?_)
  ·have g2:j<all.length:=by simpa using g2
   have gb:(all.map fun b=>[lcsI b])[(j:Int).toNat]? = some [lcsI all[j]]:=zan (f:=fun b=>[lcsI b]) g2;have hb12:=hmem all[j] (List.getElem_mem g2);have hs2:(all.take (j+1)).flatMap (fun b=>st.map fun s=>b++[(yc,s)])=((all.take j).flatMap fun b=>st.map fun s=>b++[(yc,s)])++st.map fun s=>all[j]++[(yc,s)]:=by
    rw[List.take_succ_eq_append_getElem g2,List.flatMap_append];simp
   have hacc:((all.take j).flatMap fun b=>st.map fun s=>b++[(yc,s)]).length=j*st.length:=by
    have:∀Q:List (List Loc2),(Q.flatMap fun b=>st.map fun s=>b++[(yc,s)]).length=Q.length*st.length:=by
     intro Q
     induction Q with
     |nil=>simp
     |cons a q ihq=>rw[List.flatMap_cons,List.length_append,List.length_map,ihq,List.length_cons,Nat.add_mul];omega
    rw[this,List.length_take,Nat.min_eq_left hj]
   have hj2:ii (IntKind.i64.wrap ((j:Int)+1))=ii ((j+1:Nat):Int):=congrArg ii (zaC (n:=1000001) (by omega) (by decide));have hbd:j*st.length≤32:=Nat.le_trans (Nat.mul_le_mul_right _ (by omega)) hlen1;generalize ((all.take j).flatMap fun b=>st.map fun s=>b++[(yc,s)])=acc at *;generalize all[j]=b at *;refine zad Tk Tryz.func137 (by exact⟨by omega,by show (j:Int)<(all.length:Int);omega⟩) ?_;refine zap Tk Tryz.func137 (gb) ?_;refine zah ?_;refine zak (fun k:Nat=>[(5,.own 0 5 0 0),(19,.own 0 19 0 0),(20,.osl 0 103),(22,.i (lcsI b)),(74,.i (.sl 2 sl.length (sl.map chcI))),(75,ii sl.length),(76,ii i),(80,.i (llsI all)),(81,ii all.length),(82,ii j),(87,ints st),(88,ii st.length),(89,ii k)])
    (fun k=>[(5,.box (nexC ⟨xn,lcs⟩)),(19,.box [ii yc,ints st]),(103,olls (acc++(st.take k).map fun s=>b++[(yc,s)]))]) (fun _=>O) 138
    (fun k=>k≤st.length) (fun k=>st.length-k) 0 (Nat.zero_le _) ⟨rfl,rfl,rfl,rfl,rfl,rfl,rfl,rfl,rfl,rfl,rfl,rfl,rfl,trivial⟩ rfl ⟨rfl,rfl,by show some (olls acc)=some (olls (acc++[]));rw[List.append_nil],trivial⟩ rfl rfl ?_
   intro k hk ih3;have hk:k≤st.length:=hk;refine zai Tk Tryz.func137 ?_;refine zae Tk Tryz.func137 rfl (fun g3=>?_) (fun g3=>?_)
   ·have g3:k<st.length:=by simpa using g3
    have gk:(st.map fun x=>[vi x])[(k:Int).toNat]? = some [vi st[k]]:=zan (f:=fun x=>[vi x]) g3;have hs3:acc++(st.take (k+1)).map (fun s=>b++[(yc,s)])=(acc++(st.take k).map fun s=>b++[(yc,s)])++[b++[(yc,st[k])]]:=by
     rw[List.take_succ_eq_append_getElem g3,List.map_append,List.append_assoc];rfl
    have hll:(acc++(st.take k).map fun s=>b++[(yc,s)]).length≤64:=by
     rw[List.length_append,List.length_map,List.length_take];have:=hstl;omega
    have hk2:ii (IntKind.i64.wrap ((k:Int)+1))=ii ((k+1:Nat):Int):=congrArg ii (zaC (n:=1000001) (by omega) (by decide));have hc:=fun O=>zvK O b (by omega);generalize (acc++(st.take k).map fun s=>b++[(yc,s)])=A2 at *;generalize st[k]=s at *;refine zad Tk Tryz.func137 (by exact⟨by omega,by show (k:Int)<(st.length:Int);omega⟩) ?_;refine zap Tk Tryz.func137 (gk) ?_;refine zav Tk Tryz.func137 zaz rfl ?_;refine zaJ Tk (fun _=>hc _) rfl rfl rfl ?_;refine zyr Tk ⟨[(101,.osl 0 101),(95,.dead)],[(101,.arr 131 2 (b.length+1) ((b.map zcc)++[[vi yc,vi s]]) true)],some 95⟩ rfl rfl ?_ ?_
    ·refine zex Tk (by exact⟨by show (b.length+1)*16≤140737488355328;omega,by show b.length+1≤9223372036854775807;omega⟩) ?_;refine zlO Tk (p:=⟨[(101,.osl 0 101),(95,.dead)],[(101,.arr 131 2 (b.length+1) ((b.map zcc)++[[vi yc,vi s]]) true)],some 95⟩) rfl rfl rfl ?_;exact rfl
    refine zuC Tk ?_;refine zex Tk (by exact⟨by show (A2.length+1)*24≤140737488355328;omega,by show A2.length+1≤9223372036854775807;omega⟩) ?_;refine zlO Tk (p:=⟨[(103,.osl 0 103),(93,.dead),(20,.dead)],[(103,.arr 124 1 (A2.length+1) ((A2.map fun b=>[lcsI b])++[[.sl 2 (b.length+1) ((b.map zcc)++[[vi yc,vi s]])]]) true)],some 103⟩) rfl rfl rfl ?_;refine zkE Tk Tryz.func137 (by kernel_rfl) (GM.h ?_);refine zah ?_;refine ih3 (k+1) _ _ g3 (by omega) ⟨rfl,rfl,rfl,rfl,rfl,rfl,rfl,rfl,rfl,rfl,rfl,rfl,hk2,trivial⟩ rfl ⟨rfl,rfl,?_,trivial⟩ rfl rfl;rw[hs3];show some (Ob.arr 124 1 (A2.length+1) ((A2.map fun b=>[lcsI b])++[[.sl 2 (b.length+1) ((b.map zcc)++[[vi yc,vi s]])]]) true)=some (olls (A2++[b++[(yc,s)]]));simp
   ·have g3:st.length≤k:=by simpa using g3
    rw[List.take_of_length_le g3];refine zah ?_;refine ih2 (j+1) _ _ g2 (by omega) ⟨rfl,rfl,rfl,rfl,rfl,rfl,rfl,rfl,hj2,trivial⟩ rfl ⟨rfl,rfl,?_,trivial⟩ rfl rfl;rw[hs2];rfl
  ·have g2:all.length≤j:=by simpa using g2
   rw[List.take_of_length_le g2,←hs1];refine zat ?_;refine zaq (zam 103 rfl rfl) ?_;refine zai Tk Tryz.func137 ?_;refine g_go Tk Tryz.func137 ?_;refine zah ?_;exact ih (i+1) _ _ g1 (by omega) ⟨rfl,rfl,rfl,rfl,hj1,trivial⟩ rfl ⟨rfl,trivial⟩ rfl rfl
 have g1:sl.length≤i:=by simpa using g1
 rw[List.take_of_length_le g1];have hall:=zfm sl [[]];rw[List.length_singleton,Nat.one_mul] at hall;clear ih g1 hi;generalize chsR sl [[]]=all at *
 by_cases h5:all.length=1
 ·obtain⟨one,rfl⟩:∃one,all=[one]:=by
   cases all with
   |nil=>simp at h5
   |cons a r=>cases r with
    |nil=>exact⟨a,rfl⟩
    |cons=>simp at h5
  simp only at hR;subst hR;refine gcT Tk Tryz.func137 rfl ?_;refine zav Tk Tryz.func137 zaz rfl ?_;refine zas Tk (by exact⟨by decide,by show (0:Int)<1;decide⟩) ?_;refine zaE Tk (rfl) ?_;refine zaB Tk Tryz.func137 (by kernel_rfl) ?_;refine zag Tk (r:=.tup [.i (zio [⟨xn,one⟩]),ii 0]) rfl rfl rfl trivial rfl rfl ?_;rfl
 ·have hR:(numX xn all 0,(0:Int))=R:=by
   rw[←hR]
   cases all with
   |nil=>rfl
   |cons a r=>cases r with
    |nil=>simp at h5
    |cons=>rfl
  subst hR;refine zae Tk Tryz.func137 rfl (fun h6=>?_) (fun h6=>?_)
  ·exact absurd (beqT h6) (by omega)
  refine g_wk (zbn 25 135 126 2 rfl rfl rfl) ?_;refine zah ?_;refine zak (fun i:Nat=>[(5,.own 0 5 0 0),(25,.osl 0 135),(118,.i (llsI all)),(119,ii all.length),(120,ii i)])
   (fun i=>[(5,.box (nexC ⟨xn,lcs⟩)),(135,zrO (numX xn (all.take i) 0))]) (fun _=>O) 138
   (fun i=>i≤all.length) (fun i=>all.length-i) 0 (Nat.zero_le _) ⟨rfl,rfl,rfl,rfl,rfl,trivial⟩ rfl ⟨rfl,rfl,trivial⟩ rfl rfl ?_
  intro i hi ih;have hi:i≤all.length:=hi;refine zai Tk Tryz.func137 ?_;refine zae Tk Tryz.func137 rfl (fun g1=>?_) (fun g1=>?_)
  ·have g1:i<all.length:=by simpa using g1
   have gb:(all.map fun b=>[lcsI b])[(i:Int).toNat]? = some [lcsI all[i]]:=zan (f:=fun b=>[lcsI b]) g1;have hs:numX xn (all.take (i+1)) 0=numX xn (all.take i) 0++[⟨xn++⟨#[95]⟩++zcW (i:Int),all[i]⟩]:=by
    rw[List.take_succ_eq_append_getElem g1,zjZ,List.length_take,Nat.min_eq_left hi,Nat.zero_add]
   have hn:=ziN xn (all.take i) 0;rw[List.length_take] at hn;have hit:=fun O=>zkd hg (ty:=ty) (fr:=fr) O (i:Int) (by omega) (by omega);have hsz:=zcI (n:=(i:Int)) (by omega) (by omega);have hj1:ii (IntKind.i64.wrap ((i:Int)+1))=ii ((i+1:Nat):Int):=congrArg ii (zaC (n:=1000001) (by omega) (by decide));generalize numX xn (all.take i) 0=X at *;generalize all[i]=b at *;generalize zcW (i:Int)=T at *;refine zad Tk Tryz.func137 (by exact⟨by omega,by show (i:Int)<(all.length:Int);omega⟩) ?_;refine zap Tk Tryz.func137 (gb) ?_;refine zav Tk Tryz.func137 zaz rfl ?_;refine zas Tk (by show xn.size+1≤9223372036854775807;omega) ?_;refine zcg Tk hE (hit _) rfl rfl rfl rfl ?_;refine zas Tk (by rw[ByteArray.size_append];show xn.size+1+T.size≤9223372036854775807;omega) ?_;refine zdY Tk Tryz.func137 ([10,11]) (by kernel_rfl) (by kernel_rfl) ?_
   refine zad Tk Tryz.func137 (by exact⟨by show (X.length+1)*40≤140737488355328;omega,by show X.length+1≤9223372036854775807;omega⟩) ?_;refine zah ?_;refine ih (i+1) _ _ g1 (by omega) ⟨rfl,rfl,rfl,rfl,hj1,trivial⟩ rfl ⟨rfl,?_,trivial⟩ rfl rfl;rw[hs];show some (Ob.arr 126 2 (X.length+1) (X.map xexI++[xexI ⟨xn++⟨#[95]⟩++T,b⟩]) true)=_;simp[zrO]
  ·have g1:all.length≤i:=by simpa using g1
   rw[List.take_of_length_le g1];refine za4 (zam 135 rfl rfl) ?_;refine zag Tk (r:=.tup [.i (zio (numX xn all 0)),ii 0]) rfl rfl rfl trivial rfl rfl ?_;rfl
theorem zvu (m:Mdl) (og:List (List Sta)) (x:NEx) (most:Int) (hmost:most≤32):(expX m og x most).1.length≤40:=by
 unfold expX;simp only;generalize x.locals.map (chcR m og)=l
 cases hA:(l.any fun y=>y.2.isEmpty) with
 |true=>rw[if_pos rfl];simp
 |false=>
  rw[if_neg (by decide)]
  by_cases h:chsN l 1>most
  ·rw[if_pos h];simp
  ·rw[if_neg h];have h1:=ztd (l:=l) (n:=1) hA (Nat.le_refl _) (by show chsN l 1≤32;omega);rw[Nat.one_mul,←zkN (zhR l)] at h1;have h2:=zfm (zeA l) [[]];rw[List.length_singleton,Nat.one_mul] at h2;generalize chsR (zeA l) [[]]=all at *
   cases all with
   |nil=>simp[numX]
   |cons a r=>cases r with
    |nil=>simp
    |cons b q=>
     show (numX x.name (a::b::q) 0).length≤40;rw[ziN];omega
def excX (m:Mdl) (og:List (List Sta)):List XEx×Plc×Int:=match zf7 m og m.excs 0 [] [] with
 |.error (i,e)=>([],(5,(i:Int)),e)
 |.ok out=>(out,(0,0),0)
abbrev excD (r:List XEx×Plc×Int):D:=.tup [.i (zio r.1),.agg [ii r.2.1.1,ii r.2.1.2],ii r.2.2]
theorem zxO {a b c:Int}:CoD (.tup [.i (.v (.slice none 0 0)),.agg [ii a,ii b],ii c]) (excD ([],(a,b),c)):=by
 repeat' (first|refine zbR ?_|refine zbu ?_|refine zcv ?_|refine CoDL.cons ?_ ?_|exact CoDL.nil|exact zbd|refine zcB ?_|refine CoLL.cons ?_ ?_|exact CoLL.nil|refine CoL.cons ?_ ?_|exact CoL.nil|exact CoI.refl _|exact CoL.refl _|exact CoLL.refl _|exact CoDL.refl _|exact CoD.refl _)
theorem zrN (a b:List XEx):Ob.arr 126 2 (a.length+b.length) (a.map xexI++b.map xexI) true=zrO (a++b):=by simp
theorem zkF (O:List Heap) (b:List ByteArray) (s:ByteArray) (hl:b.length≤1000000):zao Tryz.prog 124 [.i (.sl 1 b.length (b.map fun s=>[strI s])),.i (strI s)] O (bb (hasB b s)) [] O:=zcp O b s (by simp only[zar];omega)
theorem zky {g:Nat} (hg:zda g) {ty:TypeId} {fr:Nat×Nat} (O:List Heap) (m:Mdl) (og:List (List Sta)) (hm:szOk m) (hlen:m.excs.length≤32) (hx:∀x∈m.excs,x.locals.length≤12∧(∀y∈x.locals,lcOk m og y)∧x.name.size≤1000) :
  za3 g (ptab ty fr) Tryz.prog 56 [mdlD m,.i (zle og)] O (excD (excX m og)) [] O:=by
 have he:=fun O x (h:x∈m.excs) most (h2:most≤32)=>zsQ hg (ty:=ty) (fr:=fr) O m x og most hm (hx x h).1 (hx x h).2.1 h2 (hx x h).2.2;have hxl:=fun x most (h2:most≤32)=>zvu m og x most h2;unfold excX;generalize hK:zf7 m og m.excs 0 [] []=K;clear hx;have hex:∀(x:NEx) (most:Int),∃l e,expX m og x most=(l,e):=fun x most=>⟨_,_,rfl⟩;have hun:∀x r i seen out,zf7 m og (x::r) i seen out=if (expX m og x (32-(out.length:Int))).2≠0 then .error (i,(expX m og x (32-(out.length:Int))).2)
  else if (expX m og x (32-(out.length:Int))).1.any (fun y=>decide (y.name.size>32))=true then .error (i,7)
  else match dupX seen (expX m og x (32-(out.length:Int))).1 with
   |.error _=>.error (i,8)
   |.ok seen'=>zf7 m og r (i+1) seen' (out++(expX m og x (32-(out.length:Int))).1):=fun x r i seen out=>rfl
 have hnil:∀i seen out,zf7 m og [] i seen out=.ok out:=fun _ _ _=>rfl;generalize expX m og=fX at *;generalize zf7 m og=fR at *;obtain⟨nm,evs,tpls,comps,reqs,l,cons⟩:=m;simp only at hlen he hK;refine zaN [200050] Tk Tryz.func56 rfl Tryz.call56 Tryz.ntmps56 (Nat.le_of_ble_eq_true rfl) fun E hE=>?_;refine zai Tk Tryz.func56 ?_;refine g_wk (zbn 7 57 9 1 rfl rfl rfl) ?_;refine g_wk (zbn 4 61 126 2 rfl rfl rfl) ?_;refine zah ?_;refine zak (fun x:Nat×List ByteArray×List XEx=>[(1,.i (zle og)),(2,.own 0 2 0 0),(4,.osl 0 61),(5,.own 0 5 0 0),(7,.osl 0 57),(15,.i (zcN l)),(16,ii l.length),(17,ii x.1)])
  (fun x=>[(2,.box (mdlC ⟨nm,evs,tpls,comps,reqs,l,cons⟩)),(5,plcN),(61,zrO x.2.2),(57,oss x.2.1)]) (fun _=>O) 65
  (fun x=>x.1≤l.length∧x.2.1.length≤40*x.1∧x.2.2.length≤40*x.1∧fR (l.drop x.1) x.1 x.2.1 x.2.2=K) (fun x=>l.length-x.1) (0,[],[]) ⟨Nat.zero_le _,Nat.le_refl _,Nat.le_refl _,hK⟩ ⟨rfl,rfl,rfl,rfl,rfl,rfl,rfl,rfl,trivial⟩ rfl ⟨rfl,rfl,rfl,rfl,trivial⟩ rfl rfl ?_
 clear hK;rintro ⟨i,seen,out⟩ ⟨hi,hse,hou,hno⟩ ih;simp only at hi hse hou hno;refine zai Tk Tryz.func56 ?_;refine zae Tk Tryz.func56 rfl (fun g1=>?_) (fun g1=>?_)
 ·have g1:i<l.length:=by simpa using g1
  have gs:(l.map nexI)[(i:Int).toNat]? = some (nexI l[i]):=zan (f:=nexI) g1;have hw:IntKind.i64.wrap (32-(out.length:Int))=32-(out.length:Int):=w64 (by omega) (by omega);have hc:=fun O=>he O l[i] (List.getElem_mem g1) (32-(out.length:Int)) (by omega);rw[←hw] at hc;have hX:=hxl l[i] (32-(out.length:Int)) (by omega);rw[List.drop_eq_getElem_cons g1,hun] at hno;have hj1:ii (IntKind.i64.wrap ((i:Int)+1))=ii ((i+1:Nat):Int):=congrArg ii (zaC (n:=1000001) (by omega) (by decide));rw[←hw] at hno hX;clear he hxl hun;generalize l[i]=x at *;obtain⟨xl,xe,hx⟩:=hex x (IntKind.i64.wrap (32-(out.length:Int)));rw[hx] at hc hX hno;clear hx hex;obtain⟨xn,xlc⟩:=x;simp only at hc hX hno;have hany:=fun O=>zlS O xl 139 (fun y=>decide (y.name.size>32)) (by simp only[zar];omega) fun y _=>zxs _ y;generalize (xl.any fun y=>decide (y.name.size>32))=A at *
  refine zad Tk Tryz.func56 (by exact⟨by omega,by show (i:Int)<(l.length:Int);omega⟩) ?_;refine zap Tk Tryz.func56 (gs) ?_;refine zbB Tk Tryz.func56 hE (hc _) rfl rfl rfl rfl rfl rfl ?_;refine zae Tk Tryz.func56 rfl (fun c1=>?_) (fun c1=>?_)
  ·have c1:xe≠0:=bneT c1;rw[if_pos c1] at hno;subst hno;refine zaD Tk (r:=.tup [.i (.v (.slice none 0 0)),.agg [ii 5,ii i],ii xe]) rfl rfl rfl trivial rfl rfl ?_;exact zxO
  have c1:¬xe≠0:=fun h=>h (bneF c1);rw[if_neg c1] at hno;refine zaj Tk Tryz.func56 (hany _) rfl rfl rfl rfl rfl ?_;refine zae Tk Tryz.func56 rfl (fun c2=>?_) (fun c2=>?_)
  ·have c2:A=true:=c2;rw[if_pos c2] at hno;subst hno;refine zaD Tk (r:=.tup [.i (.v (.slice none 0 0)),.agg [ii 5,ii i],ii 7]) rfl rfl rfl trivial rfl rfl ?_;exact zxO
  have c2:¬A=true:=zgU c2;rw[if_neg c2] at hno;clear hc hany;generalize hD:dupX seen xl=Dp at hno;refine zah ?_;refine zak (fun x:Nat×List ByteArray=>[(1,.i (zle og)),(2,.own 0 2 0 0),(4,.osl 0 61),(5,.own 0 5 0 0),(7,.osl 0 57),(8,ii i),(10,.i (zio xl)),(15,.i (zcN l)),(16,ii l.length),(17,ii i),(41,.i (zio xl)),(42,ii xl.length),(43,ii x.1)])
   (fun x=>[(2,.box (mdlC ⟨nm,evs,tpls,comps,reqs,l,cons⟩)),(5,plcN),(61,zrO out),(57,oss x.2)]) (fun _=>O) 65
   (fun x=>x.1≤xl.length∧x.2.length=seen.length+x.1∧dupX x.2 (xl.drop x.1)=Dp) (fun x=>xl.length-x.1) (0,seen) ⟨Nat.zero_le _,rfl,hD⟩ ⟨rfl,rfl,rfl,rfl,rfl,rfl,rfl,rfl,rfl,rfl,rfl,rfl,rfl,trivial⟩ rfl ⟨rfl,rfl,rfl,rfl,trivial⟩ rfl rfl ?_
  clear hD;rintro ⟨k,sk⟩ ⟨hk,hskl,hdk⟩ ih2;simp only at hk hskl hdk;refine zai Tk Tryz.func56 ?_;refine zae Tk Tryz.func56 rfl (fun g2=>?_) (fun g2=>?_)
  ·have g2:k<xl.length:=by simpa using g2
   have gk:(xl.map xexI)[(k:Int).toNat]? = some (xexI xl[k]):=zan (f:=xexI) g2;have hk1:ii (IntKind.i64.wrap ((k:Int)+1))=ii ((k+1:Nat):Int):=congrArg ii (zaC (n:=1000001) (by omega) (by decide));rw[List.drop_eq_getElem_cons g2] at hdk;simp only[dupX] at hdk;generalize xl[k]=y at *;obtain⟨yn,yl⟩:=y;simp only at hdk;have hh:=zkF [] sk yn (by omega);generalize hasB sk yn=hb at *;refine zad Tk Tryz.func56 (by exact⟨by omega,by show (k:Int)<(xl.length:Int);omega⟩) ?_;refine zap Tk Tryz.func56 (gk) ?_;refine zb8 Tk Tryz.func56 rfl rfl rfl rfl (zbt hh (zeq _) (.osl (.i .nil)) rfl (show 50<65 by decide) rfl rfl) ?_;refine zae Tk Tryz.func56 rfl (fun c3=>?_) (fun c3=>?_)
   ·have c3:hb=true:=c3;rw[if_pos c3] at hdk;subst hdk;simp only at hno;subst hno;refine zaD Tk (r:=.tup [.i (.v (.slice none 0 0)),.agg [ii 5,ii i],ii 8]) rfl rfl rfl trivial rfl rfl ?_;exact zxO
   have c3:¬hb=true:=zgU c3;rw[if_neg c3] at hdk;refine zad Tk Tryz.func56 (by exact⟨by show (sk.length+1)*16≤140737488355328;omega,by show sk.length+1≤9223372036854775807;omega⟩) ?_;refine zah ?_;exact ih2 (k+1,sk++[yn]) _ _ ⟨g2,by simp only[List.length_append,List.length_singleton];omega,hdk⟩ (by simp only;omega) ⟨rfl,rfl,rfl,rfl,rfl,rfl,rfl,rfl,rfl,rfl,rfl,rfl,hk1,trivial⟩ rfl ⟨rfl,rfl,rfl,congrArg some (za9 sk yn),trivial⟩ rfl rfl
  ·have g2:xl.length≤k:=by simpa using g2
   rw[List.drop_eq_nil_of_le g2] at hdk;have hdk:Except.ok sk=Dp:=hdk;subst hdk;simp only at hno;refine zad Tk Tryz.func56 (by exact⟨by show (out.length+xl.length)*40≤140737488355328;omega,by show out.length+xl.length≤9223372036854775807;omega⟩) ?_;refine zah ?_;exact ih (i+1,sk,out++xl) _ _ ⟨g1,by simp only;omega,by simp only[List.length_append];omega,hno⟩ (by simp only;omega) ⟨rfl,rfl,rfl,rfl,rfl,rfl,rfl,hj1,trivial⟩ rfl ⟨rfl,rfl,congrArg some (zrN out xl),rfl,trivial⟩ rfl rfl
 ·have g1:l.length≤i:=by simpa using g1
  rw[List.drop_eq_nil_of_le g1,hnil] at hno;subst hno;refine za4 (zam 61 rfl rfl) ?_;refine zag Tk (r:=excD (out,(0,0),0)) rfl rfl rfl trivial rfl rfl ?_;rfl
end Go.AI
