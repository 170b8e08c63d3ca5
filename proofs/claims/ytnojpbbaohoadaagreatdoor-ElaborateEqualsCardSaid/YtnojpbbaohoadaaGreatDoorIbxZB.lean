/- The layer of abstract runs, part 28. -/
import Derived.Test.YtnojpbbaohoadaaGreatDoorIbxZA
import Derived.RangeFuncBox
import Derived.RangeFuncLeaves
import Derived.Shelf.Abstract
import Derived.WalkKit
import Derived.OwnWalkIn
import Derived.TacticsInMore
import Derived.LoopNIn
import Derived.LoopIn
import Derived.Maps.AppendAt
import Derived.KernelRfl
set_option linter.unusedSimpArgs false
set_option linter.unusedVariables false
set_option linter.all false
set_option maxHeartbeats 4000000
namespace Go.AI
open Go.Proofs
set_option maxRecDepth 20000
theorem zfL (O:List Heap) (m:Mdl) (hm:mdlOk m) (hT:∀c∈m.comps,∃t,zc5 m c=some t∧t.locs.length≤1000000):zao Tryz.prog 49 [mdlD m] O (plcD (chkC m)) [] O:=by
 have hlt:=hm.ex;have hct:=hm.cn;have hk:=hm.exk;have hck:=hm.cnk;have hL:=fun O l hl=>zhK O m l hm.toszOk hl hT;have hC:=fun O x hx=>zji O m x hm.toszOk hx;unfold chkC;have hxe:∀x:NEx,lcsW m x.locals=excE m x:=fun x=>rfl;generalize excE m=fE at *;generalize conE m=fC at *;generalize hR2:(if m.cons.length>32 then (((6,32),3):Plc×Int) else plc 6 (zbt NCn.name fC [] m.cons 0) ((0,0),0) id)=R2;generalize hR:zbt NEx.name fE [] m.excs 0=R;obtain⟨nm,evs,tpls,comps,reqs,l,cl⟩:=m;simp only at hlt hct hk hck hR hR2 ⊢;refine za2 [200030,200062] Tk Tryz.func49 rfl Tryz.call49 Tryz.ntmps49 (Nat.le_of_ble_eq_true rfl) fun E=>?_;refine zai Tk Tryz.func49 ?_;refine zad Tk Tryz.func49 rfl (fun c1=>?_) (fun c1=>?_)
 ·have c1:l.length>32:=by have:(l.length:Int)>32:=of_decide_eq_true c1;omega
  rw[if_pos c1];refine zae Tk (r:=plcD ((5,32),3)) rfl rfl rfl trivial rfl rfl ?_;rfl
 have c1:¬l.length>32:=by have:¬(l.length:Int)>32:=of_decide_eq_false c1;omega
 rw[if_neg c1];refine g_wk (zcp 4 28 9 1 rfl rfl rfl) ?_;refine zah ?_;refine zal (fun x:Nat×List ByteArray=>[(1,.own 0 1 0 0),(2,.own 0 2 0 0),(4,.osl 0 28),(17,.i (zcS l)),(18,ii l.length),(19,ii x.1)]) (fun x=>[(1,.box (mdlC ⟨nm,evs,tpls,comps,reqs,l,cl⟩)),(2,plcN),(28,oss x.2)]) (fun _=>O) 75
  (fun x=>x.1≤l.length∧x.2.length=x.1∧zbt NEx.name fE x.2 (l.drop x.1) x.1=R) (fun x=>l.length-x.1) (0,[]) ⟨Nat.zero_le _,rfl,hR⟩ ⟨rfl,rfl,rfl,rfl,rfl,rfl,trivial⟩ rfl ⟨rfl,rfl,rfl,trivial⟩ rfl rfl ?_
 clear hR;rintro ⟨i,b⟩ ⟨hi,hb,hno⟩ ih;simp only at hi hb hno;refine zai Tk Tryz.func49 ?_;refine zad Tk Tryz.func49 rfl (fun g1=>?_) (fun g1=>?_)
 ·have g1:i<l.length:=by simpa using g1
  have gs:(l.map nexI)[(i:Int).toNat]? = some (nexI l[i]):=zak (f:=nexI) g1;have hxk:=hk l[i] (List.getElem_mem g1);rw[List.drop_eq_getElem_cons g1] at hno;simp only[zbt] at hno;have hj1:ii (IntKind.i64.wrap ((i:Int)+1))=ii ((i+1:Nat):Int):=congrArg ii (zaE (n:=1000001) (by omega) (by decide));generalize l[i]=x at *;have h1:=ze6 [] b x.name (by omega) hxk.1;have h2:=fun O=>hL O x.locals hxk.2;rw[hxe] at h2;obtain⟨xn,xl⟩:=x;simp only at hno h1 h2;generalize nmE b xn=e1 at *;generalize fE ⟨xn,xl⟩=e2 at *;refine zaf Tk Tryz.func49 (by exact⟨by omega,by show (i:Int)<(l.length:Int);omega⟩) ?_;refine zaq Tk Tryz.func49 (gs) ?_;refine zaf Tk Tryz.func49 (by exact⟨by show (b.length+1)*16≤140737488355328;omega,by show b.length+1≤9223372036854775807;omega⟩) ?_;refine zcx Tk Tryz.func49 rfl rfl rfl rfl (zbv h1 (zfS _) (.osl .nil) rfl (show 30<75 by decide) rfl rfl) ?_
  refine zad Tk Tryz.func49 rfl (fun c2=>?_) (fun c2=>?_)
  ·have c2:e1=0:=beqT c2;rw[if_neg (fun h=>h c2)] at hno;refine zaj Tk Tryz.func49 (h2 _) rfl rfl rfl rfl rfl ?_;refine zad Tk Tryz.func49 rfl (fun c3=>?_) (fun c3=>?_)
   ·have c3:e2≠0:=bneT c3;rw[if_pos c3] at hno;subst hno;refine zae Tk (r:=plcD ((5,i),e2)) rfl rfl rfl trivial rfl rfl ?_;rfl
   have c3:¬e2≠0:=fun h=>h (bneF c3);rw[if_neg c3] at hno;refine zah ?_;exact ih (i+1,b++[xn]) _ _ ⟨g1,by simp[hb],hno⟩ (by simp only;omega) ⟨rfl,rfl,rfl,rfl,rfl,hj1,trivial⟩ rfl ⟨rfl,rfl,congrArg some (zcD b xn),trivial⟩ rfl rfl
  have c2:e1≠0:=beqF c2;rw[if_pos c2] at hno;subst hno;refine zad Tk Tryz.func49 rfl (fun _=>?_) (fun h=>absurd h (by simpa using c2));refine zae Tk (r:=plcD ((5,i),e1)) rfl rfl rfl trivial rfl rfl ?_;rfl
 have g1:l.length≤i:=by simpa using g1
 rw[List.drop_eq_nil_of_le g1] at hno;have hno:none=R:=hno;subst hno;have e0:plc 5 none R2 id=R2:=rfl;rw[e0];clear e0 ih hb;refine zad Tk Tryz.func49 rfl (fun c4=>?_) (fun c4=>?_)
 ·have c4:cl.length>32:=by have:(cl.length:Int)>32:=of_decide_eq_true c4;omega
  rw[if_pos c4] at hR2;subst hR2;refine zae Tk (r:=plcD ((6,32),3)) rfl rfl rfl trivial rfl rfl ?_;rfl
 have c4:¬cl.length>32:=by have:¬(cl.length:Int)>32:=of_decide_eq_false c4;omega
 rw[if_neg c4] at hR2;generalize hR:zbt NCn.name fC [] cl 0=R at *;refine g_wk (zcp 4 60 9 1 rfl rfl rfl) ?_;refine zah ?_;refine zal (fun x:Nat×List ByteArray=>[(1,.own 0 1 0 0),(2,.own 0 2 0 0),(4,.osl 0 60),(49,.i (zdC cl)),(50,ii cl.length),(51,ii x.1)]) (fun x=>[(1,.box (mdlC ⟨nm,evs,tpls,comps,reqs,l,cl⟩)),(2,plcN),(60,oss x.2)]) (fun _=>O) 75
  (fun x=>x.1≤cl.length∧x.2.length=x.1∧zbt NCn.name fC x.2 (cl.drop x.1) x.1=R) (fun x=>cl.length-x.1) (0,[]) ⟨Nat.zero_le _,rfl,hR⟩ ⟨rfl,rfl,rfl,rfl,rfl,rfl,trivial⟩ rfl ⟨rfl,rfl,rfl,trivial⟩ rfl rfl ?_
 clear hR;rintro ⟨i,b⟩ ⟨hi,hb,hno⟩ ih;simp only at hi hb hno;refine zai Tk Tryz.func49 ?_;refine zad Tk Tryz.func49 rfl (fun g2=>?_) (fun g2=>?_)
 ·have g2:i<cl.length:=by simpa using g2
  have gs:(cl.map ncnI)[(i:Int).toNat]? = some (ncnI cl[i]):=zak (f:=ncnI) g2;have hxk:=hck cl[i] (List.getElem_mem g2);rw[List.drop_eq_getElem_cons g2] at hno;simp only[zbt] at hno;have hj1:ii (IntKind.i64.wrap ((i:Int)+1))=ii ((i+1:Nat):Int):=congrArg ii (zaE (n:=1000001) (by omega) (by decide));generalize cl[i]=x at *;have h1:=ze6 [] b x.name (by omega) hxk.1;have h2:=fun O=>hC O x hxk.2;obtain⟨xn,xl,xb⟩:=x;simp only at hno h1 h2;generalize nmE b xn=e1 at *;generalize fC ⟨xn,xl,xb⟩=e2 at *;refine zaf Tk Tryz.func49 (by exact⟨by omega,by show (i:Int)<(cl.length:Int);omega⟩) ?_;refine zaq Tk Tryz.func49 (gs) ?_;refine zaf Tk Tryz.func49 (by exact⟨by show (b.length+1)*16≤140737488355328;omega,by show b.length+1≤9223372036854775807;omega⟩) ?_;refine zcx Tk Tryz.func49 rfl rfl rfl rfl (zbv h1 (zfS _) (.osl .nil) rfl (show 62<75 by decide) rfl rfl) ?_
  refine zad Tk Tryz.func49 rfl (fun c2=>?_) (fun c2=>?_)
  ·have c2:e1=0:=beqT c2;rw[if_neg (fun h=>h c2)] at hno;refine zaj Tk Tryz.func49 (h2 _) rfl rfl rfl rfl rfl ?_;refine zad Tk Tryz.func49 rfl (fun c3=>?_) (fun c3=>?_)
   ·have c3:e2≠0:=bneT c3;rw[if_pos c3] at hno;subst hno;subst hR2;refine zae Tk (r:=plcD ((6,i),e2)) rfl rfl rfl trivial rfl rfl ?_;rfl
   have c3:¬e2≠0:=fun h=>h (bneF c3);rw[if_neg c3] at hno;refine zah ?_;exact ih (i+1,b++[xn]) _ _ ⟨g2,by simp[hb],hno⟩ (by simp only;omega) ⟨rfl,rfl,rfl,rfl,rfl,hj1,trivial⟩ rfl ⟨rfl,rfl,congrArg some (zcD b xn),trivial⟩ rfl rfl
  have c2:e1≠0:=beqF c2;rw[if_pos c2] at hno;subst hno;subst hR2;refine zad Tk Tryz.func49 rfl (fun _=>?_) (fun h=>absurd h (by simpa using c2));refine zae Tk (r:=plcD ((6,i),e1)) rfl rfl rfl trivial rfl rfl ?_;rfl
 ·have g2:cl.length≤i:=by simpa using g2
  rw[List.drop_eq_nil_of_le g2] at hno;have hno:none=R:=hno;subst hno;subst hR2;refine zae Tk (r:=plcD ((0,0),0)) rfl rfl rfl trivial rfl rfl ?_;rfl
theorem zul {α:Type} {l:List α} {i:Nat} (h:l.length≤i):l.take i=l:=List.take_of_length_le h
theorem zsA {l:List Ins} {k:Nat} (h:∀x∈l,x.evs.length≤k):(l.flatMap (·.evs)).length≤l.length*k:=by
 induction l with
 |nil=>simp
 |cons x r ih=>
  rw[List.flatMap_cons,List.length_append,List.length_cons,Nat.add_mul];have:=h x (by simp);have:=ih fun y hy=>h y (by simp[hy]);omega
theorem zqm (O:List Heap) (b:List ByteArray) (s:ByteArray) (d nm:Nat) (hl:b.length≤8000000) (ho:zab O d nm=some (.box [ssD b])):zao Tryz.prog 123 [sD s,.own d nm 0 0] O (bb (!hasB b s)) [] O:=by
 have h:=fun O=>zcm O b s (by simp only[zan];omega);generalize hasB b s=hb at *;refine zaa Tk Tryz.func123 rfl Tryz.call123 Tryz.ntmps123 (Nat.le_of_ble_eq_true rfl) fun E=>?_;refine zai Tk Tryz.func123 ?_;refine zbF Tk Tryz.func123 (ho) ?_;refine zaj Tk Tryz.func123 (h _) rfl rfl rfl rfl rfl ?_;refine zae Tk (r:=bb (!hb)) rfl rfl rfl trivial rfl rfl ?_;rfl
theorem zga (O:List Heap) (m:Mdl) (hm:mdlOk m):zao Tryz.prog 48 [mdlD m] O (plcD (chkI m)) [] O:=by
 have hlt:=hm.co;have hrt:=hm.rq;have hk:=hm.cok;have hrk:=hm.rqk;have hI:=fun O x hx=>zgb O m x hm.toszOk hx;unfold chkI;have hrq:∀x,reqE m x=if insE m x≠0 then insE m x else if x.evs.any (fun s=>!hasB (m.comps.flatMap (·.evs)) s)=true then 9 else 0:=fun x=>rfl
 generalize insE m=fE at *;generalize reqE m=fQ at *;generalize hR2:zbt Ins.name fQ (m.comps.map (·.name)) m.reqs 0=R2;generalize hR:zbt Ins.name fE [] m.comps 0=R;obtain⟨nm,evs,tpls,l,rl,excs,cons⟩:=m;simp only at hlt hrt hk hrk hR hR2 hrq ⊢;refine za2 [200052,200082] Tk Tryz.func48 rfl Tryz.call48 Tryz.ntmps48 (Nat.le_of_ble_eq_true rfl) fun E=>?_;refine zai Tk Tryz.func48 ?_;refine zad Tk Tryz.func48 rfl (fun c1=>?_) (fun c1=>?_)
 ·have c1:l.length=0:=by have:(l.length:Int)=0:=beqT c1;omega
  rw[if_pos c1];refine zae Tk (r:=plcD ((3,0),12)) rfl rfl rfl trivial rfl rfl ?_;rfl
 have c1:¬l.length=0:=by have:¬(l.length:Int)=0:=beqF c1;omega
 rw[if_neg c1];refine zad Tk Tryz.func48 rfl (fun c2=>?_) (fun c2=>?_)
 ·have c2:l.length>8:=by have:(l.length:Int)>8:=of_decide_eq_true c2;omega
  rw[if_pos c2];refine zae Tk (r:=plcD ((3,8),3)) rfl rfl rfl trivial rfl rfl ?_;rfl
 have c2:¬l.length>8:=by have:¬(l.length:Int)>8:=of_decide_eq_false c2;omega
 rw[if_neg c2];have w1:IntKind.i64.wrap ((l.length:Int)+(rl.length:Int))=(l.length:Int)+(rl.length:Int):=w64 (by omega) (by omega);have w2:IntKind.i64.wrap (12-(l.length:Int))=12-(l.length:Int):=w64 (by omega) (by omega);refine zad Tk Tryz.func48 rfl (fun c3=>?_) (fun c3=>?_)
 ·have c3:l.length+rl.length>12:=by have:IntKind.i64.wrap ((l.length:Int)+(rl.length:Int))>12:=of_decide_eq_true c3;rw[w1] at this;omega
  rw[if_pos c3];refine zae Tk (r:=plcD ((4,IntKind.i64.wrap (12-(l.length:Int))),3)) rfl rfl rfl trivial rfl rfl ?_;rw[w2]
 have c3:¬l.length+rl.length>12:=by have:¬IntKind.i64.wrap ((l.length:Int)+(rl.length:Int))>12:=of_decide_eq_false c3;rw[w1] at this;omega
 rw[if_neg c3];refine g_wk (zcp 4 50 9 1 rfl rfl rfl) ?_;refine g_wk (zjq 5 66 9 1 rfl rfl rfl) ?_;refine zah ?_;refine zal (fun x:Nat×List ByteArray×List ByteArray=>[(1,.own 0 1 0 0),(2,.own 0 2 0 0),(4,.osl 0 50),(5,.own 0 5 0 0),(39,.i (zaK l)),(40,ii l.length),(41,ii x.1)])
  (fun x=>[(1,.box (mdlC ⟨nm,evs,tpls,l,rl,excs,cons⟩)),(2,plcN),(5,.box [.osl 0 66]),(66,oss x.2.2),(50,oss x.2.1)]) (fun _=>O) 103
  (fun x=>x.1≤l.length∧x.2.1=(l.take x.1).map (·.name)∧x.2.2=(l.take x.1).flatMap (·.evs)∧zbt Ins.name fE x.2.1 (l.drop x.1) x.1=R) (fun x=>l.length-x.1) (0,[],[]) ⟨Nat.zero_le _,rfl,rfl,hR⟩ ⟨rfl,rfl,rfl,rfl,rfl,rfl,rfl,trivial⟩ rfl ⟨rfl,rfl,rfl,rfl,rfl,trivial⟩ rfl rfl ?_
 clear hR;rintro ⟨i,b,ev⟩ ⟨hi,hb,hev,hno⟩ ih;simp only at hi hb hev hno;have hbl:b.length≤8:=by rw[hb];simp;omega
 have hel:ev.length≤8000000:=by
  have:=zsA (l:=l.take i) (k:=1000000) (fun x hx=>(hk x (List.mem_of_mem_take hx)).el);rw[hev];simp only[List.length_take] at this;omega
 refine zai Tk Tryz.func48 ?_;refine zad Tk Tryz.func48 rfl (fun g1=>?_) (fun g1=>?_)
 ·have g1:i<l.length:=by simpa using g1
  have gs:(l.map insI)[(i:Int).toNat]? = some (insI l[i]):=zak (f:=insI) g1;have hxk:=hk l[i] (List.getElem_mem g1);have ht:=zbl Ins.name g1;have ht2:(l.take (i+1)).flatMap (·.evs)=(l.take i).flatMap (·.evs)++l[i].evs:=by rw[List.take_succ_eq_append_getElem g1,List.flatMap_append];simp
  rw[List.drop_eq_getElem_cons g1] at hno;simp only[zbt] at hno;have hj1:ii (IntKind.i64.wrap ((i:Int)+1))=ii ((i+1:Nat):Int):=congrArg ii (zaE (n:=1000001) (by omega) (by decide));generalize l[i]=x at *;have h1:=ze6 [] b x.name (by omega) hxk.nm;have h2:=fun O=>hI O x hxk.el;have hxl:=hxk.el;obtain⟨xn,xt,xe⟩:=x;simp only at hno h1 h2 hxl ht ht2;generalize nmE b xn=e1 at *;generalize fE ⟨xn,xt,xe⟩=e2 at *;refine zaf Tk Tryz.func48 (by exact⟨by omega,by show (i:Int)<(l.length:Int);omega⟩) ?_;refine zaq Tk Tryz.func48 (gs) ?_;refine zaf Tk Tryz.func48 (by exact⟨by show (b.length+1)*16≤140737488355328;omega,by show b.length+1≤9223372036854775807;omega⟩) ?_;refine zcx Tk Tryz.func48 rfl rfl rfl rfl (zbv h1 (zfS _) (.osl .nil) rfl (show 52<103 by decide) rfl rfl) ?_;refine zad Tk Tryz.func48 rfl (fun d2=>?_) (fun d2=>?_)
  ·have d2:e1=0:=beqT d2;rw[if_neg (fun h=>h d2)] at hno;refine zaj Tk Tryz.func48 (h2 _) rfl rfl rfl rfl rfl ?_;refine zad Tk Tryz.func48 rfl (fun d3=>?_) (fun d3=>?_)
   ·have d3:e2≠0:=bneT d3;rw[if_pos d3] at hno;subst hno;refine zae Tk (r:=plcD ((3,i),e2)) rfl rfl rfl trivial rfl rfl ?_;rfl
   have d3:¬e2≠0:=fun h=>h (bneF d3);rw[if_neg d3] at hno;refine zaf Tk Tryz.func48 (by exact⟨by show (ev.length+xe.length)*16≤140737488355328;omega,by show ev.length+xe.length≤9223372036854775807;omega⟩) ?_;refine zah ?_;exact ih (i+1,b++[xn],ev++xe) _ _ ⟨g1,by simp only;rw[ht,hb],by simp only;rw[ht2,hev],hno⟩ (by simp only;omega) ⟨rfl,rfl,rfl,rfl,rfl,rfl,hj1,trivial⟩ rfl ⟨rfl,rfl,rfl,congrArg some (zxh ev xe),congrArg some (zcD b xn),trivial⟩ rfl rfl
  have d2:e1≠0:=beqF d2;rw[if_pos d2] at hno;subst hno;refine zad Tk Tryz.func48 rfl (fun _=>?_) (fun h=>absurd h (by simpa using d2));refine zae Tk (r:=plcD ((3,i),e1)) rfl rfl rfl trivial rfl rfl ?_;rfl
 have g1:l.length≤i:=by simpa using g1
 rw[List.drop_eq_nil_of_le g1] at hno;have hno:none=R:=hno;subst hno;have e0:∀z:Plc×Int,plc 3 none z id=z:=fun z=>rfl;rw[e0];clear e0 ih;rw[zul g1] at hb hev;rw[←hb] at hR2;simp only[←hev] at hrq;clear hb hev;have hbl2:b.length≤1000:=by omega
 clear hbl;refine g_wk (zap 66 rfl rfl) ?_;refine g_wk (zaR rfl) ?_;refine g_wk (zwB 50 80 rfl rfl) ?_;refine zah ?_;refine zal (fun x:Nat×List ByteArray=>[(1,.own 0 1 0 0),(2,.own 0 2 0 0),(4,.osl 0 80),(5,.own 0 5 0 0),(69,.i (zaK rl)),(70,ii rl.length),(71,ii x.1)])
  (fun x=>[(1,.box (mdlC ⟨nm,evs,tpls,l,rl,excs,cons⟩)),(2,plcN),(5,.box [ssD ev]),(80,oss x.2)]) (fun _=>O) 103
  (fun x=>x.1≤rl.length∧x.2.length≤1000+x.1∧zbt Ins.name fQ x.2 (rl.drop x.1) x.1=R2) (fun x=>rl.length-x.1) (0,b) ⟨Nat.zero_le _,hbl2,hR2⟩ ⟨rfl,rfl,rfl,rfl,rfl,rfl,rfl,trivial⟩ rfl ⟨rfl,rfl,rfl,rfl,trivial⟩ rfl rfl ?_
 clear hR2;rintro ⟨i,b⟩ ⟨hi,hb,hno⟩ ih;simp only at hi hb hno;have hrl12:rl.length≤12:=by omega
 refine zai Tk Tryz.func48 ?_;refine zad Tk Tryz.func48 rfl (fun g2=>?_) (fun g2=>?_)
 ·have g2:i<rl.length:=by simpa using g2
  have gs:(rl.map insI)[(i:Int).toNat]? = some (insI rl[i]):=zak (f:=insI) g2;have hxk:=hrk rl[i] (List.getElem_mem g2);rw[List.drop_eq_getElem_cons g2] at hno;simp only[zbt] at hno;have hj1:ii (IntKind.i64.wrap ((i:Int)+1))=ii ((i+1:Nat):Int):=congrArg ii (zaE (n:=1000001) (by omega) (by decide));generalize rl[i]=x at *;have h1:=ze6 [] b x.name (by omega) hxk.nm;have h2:=fun O=>hI O x hxk.el;have h3:∀S,zab S 0 5=some (.box [ssD ev])→zao Tryz.prog 122 [ssD x.evs,.fn (.func 123) [] [.own 0 5 0 0]] S (bb (x.evs.any fun s=>!hasB ev s)) [] S:=fun S ho=>
   zlF S x.evs 123 0 5 (fun s=>!hasB ev s) (by have:=hxk.el;simp only[zan];omega) fun s _=>zqm _ ev s 2 5 hel (zaB (zaB ho))
  rw[hrq] at hno;generalize (x.evs.any fun s=>!hasB ev s)=A at *;obtain⟨xn,xt,xe⟩:=x;simp only at hno h1 h2 h3;generalize nmE b xn=e1 at *;generalize fE ⟨xn,xt,xe⟩=e2 at *;refine zaf Tk Tryz.func48 (by exact⟨by omega,by show (i:Int)<(rl.length:Int);omega⟩) ?_;refine zaq Tk Tryz.func48 (gs) ?_;refine zaf Tk Tryz.func48 (by exact⟨by show (b.length+1)*16≤140737488355328;omega,by show b.length+1≤9223372036854775807;omega⟩) ?_;refine zcx Tk Tryz.func48 rfl rfl rfl rfl (zbv h1 (zfS _) (.osl .nil) rfl (show 82<103 by decide) rfl rfl) ?_;refine zad Tk Tryz.func48 rfl (fun d2=>?_) (fun d2=>?_)
  ·have d2:e1=0:=beqT d2;rw[if_neg (fun h=>h d2)] at hno;refine zaj Tk Tryz.func48 (h2 _) rfl rfl rfl rfl rfl ?_;refine zaw Tk Tryz.func48 rfl (fun d3=>?_) (fun d3=>?_)
   ·have d3:e2=0:=beqT d3;rw[if_neg (fun h:e2≠0=>h d3)] at hno;refine zaj Tk Tryz.func48 (h3 _ rfl) rfl rfl rfl rfl rfl ?_;refine zad Tk Tryz.func48 rfl (fun d4=>?_) (fun d4=>?_)
    ·have d4:A=true:=d4;rw[if_pos d4,if_pos (by decide)] at hno;subst hno;refine gcT Tk Tryz.func48 rfl ?_;refine zae Tk (r:=plcD ((4,i),9)) rfl rfl rfl trivial rfl rfl ?_;rfl
    have d4:¬A=true:=zgT d4;rw[if_neg d4,if_neg (by decide)] at hno;refine zad Tk Tryz.func48 rfl (fun h=>absurd h (by simpa using d3)) (fun _=>?_);refine zah ?_;exact ih (i+1,b++[xn]) _ _ ⟨g2,by simp only[List.length_append,List.length_singleton];omega,hno⟩ (by simp only;omega) ⟨rfl,rfl,rfl,rfl,rfl,rfl,hj1,trivial⟩ rfl ⟨rfl,rfl,rfl,congrArg some (zcD b xn),trivial⟩ rfl rfl
   have d3:e2≠0:=beqF d3;rw[if_pos d3,if_pos d3] at hno;subst hno;refine gcF Tk Tryz.func48 rfl ?_;refine zad Tk Tryz.func48 rfl (fun _=>?_) (fun h=>absurd h (by simpa using d3));refine zae Tk (r:=plcD ((4,i),e2)) rfl rfl rfl trivial rfl rfl ?_;rfl
  have d2:e1≠0:=beqF d2;rw[if_pos d2] at hno;subst hno;refine zaw Tk Tryz.func48 rfl (fun h=>absurd h (by simpa using d2)) (fun _=>?_);refine gcF Tk Tryz.func48 rfl ?_;refine zad Tk Tryz.func48 rfl (fun _=>?_) (fun h=>absurd h (by simpa using d2));refine zae Tk (r:=plcD ((4,i),e1)) rfl rfl rfl trivial rfl rfl ?_;rfl
 ·have g2:rl.length≤i:=by simpa using g2
  rw[List.drop_eq_nil_of_le g2] at hno;have hno:none=R2:=hno;subst hno;refine zae Tk (r:=plcD ((0,0),0)) rfl rfl rfl trivial rfl rfl ?_;rfl
abbrev zyI (l:List Ex):Ob:=.arr 184 4 l.length (exIs l) true
theorem zrX (l:List Ex) (x:Ex):Ob.arr 184 4 (l.length+1) (exIs l++[exI x]) true=zyI (l++[x]):=by simp[zjb]
theorem zvS (O:List Heap) (l:List Vr) (hl:l.length≤1000000):zao Tryz.prog 131 [vrs l] O (vrs l) [] O:=by
 refine zaa Tk Tryz.func131 rfl Tryz.call131 Tryz.ntmps131 (Nat.le_of_ble_eq_true rfl) fun E=>?_;refine zai Tk Tryz.func131 ?_;refine znK Tk Tryz.func131 rfl rfl fun b hb=>?_;refine zad Tk Tryz.func131 rfl (fun h1=>?_) (fun h1=>?_)
 ·have hl0:l=[]:=List.eq_nil_of_length_eq_zero (hb h1);subst hl0;refine zaF Tk (r:=.i (.v (.slice none 0 0))) rfl rfl rfl trivial rfl rfl ?_;exact zcz zbf
 ·refine zaf Tk Tryz.func131 (by exact⟨by show (0+l.length)*40≤140737488355328;omega,by show 0+l.length≤9223372036854775807;omega⟩) ?_;refine za9 (zbp (l:=[(2,.osl 0 7)]) (Hv:=[(7,.arr 115 4 (0+l.length) ([]++l.map vrI) true)]) ⟨rfl,trivial⟩ rfl ⟨rfl,trivial⟩ rfl rfl) ?_;rw[Nat.zero_add,List.nil_append];refine za9 (zap 7 rfl rfl) ?_;refine zae Tk (r:=vrs l) rfl rfl rfl trivial rfl rfl ?_;rfl
theorem zkB {n:Int}:∀(N:Nat) (x:Ex),SizeOf.sizeOf x<N→wfE n x→∀O,zao Tryz.prog 134 [exA x] O (exA x) [] O:=by
 intro N
 induction N with
 |zero=>intro x h;omega
 |succ N ihN=>
  intro x hs hwf O;obtain⟨op,v,ix,args⟩:=x;simp only[wfE] at hwf;obtain⟨hform,hwf⟩:=hwf;obtain⟨ha,hb,-,-⟩:=zb7 hform;have hch:∀e∈args,∀O,zao Tryz.prog 134 [exA e] O (exA e) [] O:=by
   intro e he O;refine ihN e ?_ (zeV hwf e he) O;have:=List.sizeOf_lt_of_mem he;simp only[Ex.mk.sizeOf_spec] at hs;omega
  have hlen3:args.length≤3:=by have:=zgm op;omega
  clear ihN hs;show zao Tryz.prog 134 [.agg [ii op,ii v,ii ix,exs args]] O (.agg [ii op,ii v,ii ix,exs args]) [] O;refine zaa Tk Tryz.func134 rfl Tryz.call134 Tryz.ntmps134 (Nat.le_of_ble_eq_true rfl) fun E=>?_;refine zai Tk Tryz.func134 ?_;refine g_wk (zaJ 3 20 184 4 (pre:=[ii op,ii v,ii ix]) (post:=[]) rfl rfl rfl) ?_;refine zah ?_;refine zal (fun i:Nat=>[(2,.own 0 2 0 0),(3,.own 0 3 0 0),(9,exs args),(10,ii args.length),(11,ii i)]) (fun i=>[(3,.box [ii op,ii v,ii ix,.osl 0 20]),(20,zyI (args.take i)),(2,.box [ii 0,ii 0,ii 0,.i (.v (.slice none 0 0))])]) (fun _=>O) 24
   (fun i=>i≤args.length) (fun i=>args.length-i) 0 (Nat.zero_le _) ⟨rfl,rfl,rfl,rfl,rfl,trivial⟩ rfl ⟨rfl,rfl,rfl,trivial⟩ rfl rfl ?_
  intro i hi ih;have hi:i≤args.length:=hi;refine zai Tk Tryz.func134 ?_;refine zad Tk Tryz.func134 rfl (fun g1=>?_) (fun g1=>?_)
  ·have g1:i<args.length:=by simpa using g1
   have hg:=zef g1;have hc:=hch _ (List.getElem_mem g1);have ht:args.take (i+1)=args.take i++[args[i]]:=List.take_succ_eq_append_getElem g1;have htl:(args.take i).length=i:=by rw[List.length_take];omega
   generalize args[i]=e at *;generalize args.take i=l at *;obtain⟨eo,ev,ex,ea⟩:=e;refine zaf Tk Tryz.func134 (by exact⟨by omega,by show (i:Int)<(args.length:Int);omega⟩) ?_;refine zaq Tk Tryz.func134 (hg) ?_;refine zat Tk Tryz.func134 zaA rfl ?_;refine zaT Tk (fun _=>hc _) rfl rfl rfl ?_;refine zfj Tk Tryz.func134 ([5,6,7]) (by kernel_rfl) (by kernel_rfl) ?_;refine zaf Tk Tryz.func134 (by exact⟨by show (l.length+1)*48≤140737488355328;omega,by show l.length+1≤9223372036854775807;omega⟩) ?_;refine zah ?_;refine ih (i+1) _ _ g1 (by omega) ⟨rfl,rfl,rfl,rfl,congrArg ii (zaE (n:=16) (by omega) (by decide)),trivial⟩ rfl ⟨rfl,by rw[ht];exact congrArg some (zrX l ⟨eo,ev,ex,ea⟩),rfl,trivial⟩ rfl rfl
  ·have g1:args.length≤i:=by simpa using g1
   rw[List.take_of_length_le g1];refine za9 (zap 20 rfl rfl) ?_;refine za9 (zaR rfl) ?_;refine zae Tk (r:=.agg [ii op,ii v,ii ix,exs args]) rfl rfl rfl trivial rfl rfl ?_;rfl
end Go.AI
namespace Go.AI
def cmpI (x y:Int):Int:=if x<y then -1 else if x>y then 1 else 0
end Go.AI
namespace Go.AI
open Go.Proofs
set_option maxRecDepth 20000
theorem znX (O:List Heap) (x y:Int):zao Tryz.prog 59 [ii x,ii y] O (ii (cmpI x y)) [] O:=by
 have h:=fun O x=>zsd O x;unfold cmpI;refine zaa Tk Tryz.func59 rfl Tryz.call59 Tryz.ntmps59 (Nat.le_of_ble_eq_true rfl) fun E=>?_;refine zai Tk Tryz.func59 ?_;refine zaj Tk Tryz.func59 (h _ _) rfl rfl rfl rfl rfl ?_;refine zaj Tk Tryz.func59 (h _ _) rfl rfl rfl rfl rfl ?_;refine gcF Tk Tryz.func59 rfl ?_;refine gcF Tk Tryz.func59 rfl ?_;refine zad Tk Tryz.func59 rfl (fun c1=>?_) (fun c1=>?_)
 ·have c1:x<y:=of_decide_eq_true c1;rw[if_pos c1];refine zae Tk (r:=ii (-1)) rfl rfl rfl trivial rfl rfl ?_;rfl
 have c1:¬x<y:=of_decide_eq_false c1;rw[if_neg c1];refine zad Tk Tryz.func59 rfl (fun c2=>?_) (fun c2=>?_)
 ·have c2:x>y:=of_decide_eq_true c2;rw[if_pos c2];refine zae Tk (r:=ii 1) rfl rfl rfl trivial rfl rfl ?_;rfl
 ·have c2:¬x>y:=of_decide_eq_false c2;rw[if_neg c2];refine zae Tk (r:=ii 0) rfl rfl rfl trivial rfl rfl ?_;rfl
theorem zzp (O:List Heap) (x y:Int):zao Tryz.prog 64 [.i (.sl 1 2 [[vi x],[vi y]])] O (ii (if x≠0 then x else y)) [] O:=by
 refine zaa Tk Tryz.func64 rfl Tryz.call64 Tryz.ntmps64 (Nat.le_of_ble_eq_true rfl) fun E=>?_;refine zai Tk Tryz.func64 ?_;refine zah ?_;refine zai Tk Tryz.func64 ?_;refine gcT Tk Tryz.func64 rfl ?_;refine zaf Tk Tryz.func64 (by decide) ?_;refine zaq Tk Tryz.func64 (rfl) ?_;refine zad Tk Tryz.func64 rfl (fun c1=>?_) (fun c1=>?_)
 ·have c1:x≠0:=by simpa using c1
  rw[if_pos c1];refine zae Tk (r:=ii x) rfl rfl rfl trivial rfl rfl ?_;rfl
 have c1:¬x≠0:=by simpa using c1
 rw[if_neg c1];refine zah ?_;refine zai Tk Tryz.func64 ?_;refine gcT Tk Tryz.func64 rfl ?_;refine zaf Tk Tryz.func64 (by decide) ?_;refine zaq Tk Tryz.func64 (rfl) ?_;refine zad Tk Tryz.func64 rfl (fun c2=>?_) (fun c2=>?_)
 ·refine zae Tk (r:=ii y) rfl rfl rfl trivial rfl rfl ?_;rfl
 have c2:¬y≠0:=by simpa using c2
 obtain rfl:y=0:=Classical.byContradiction c2;refine zah ?_;refine zai Tk Tryz.func64 ?_;refine gcF Tk Tryz.func64 rfl ?_;refine zae Tk (r:=ii 0) rfl rfl rfl trivial rfl rfl ?_;rfl
end Go.AI
namespace Go.AI
structure FlOK (c:Cx) (ops:Array Oper) (O:List Heap) (n:Nat) (x:SH) (o:Oper) (p:Pl):Prop where
 w:zaN ops (St.of O n (zaI ops o x)) o=some true
 r:p.rem=zby (St.of O n (zaI ops o x)) o
 d:Does c o (St.of O n (zaI ops o x)) (PQ O n (zaI ops o x) p) (exec c.T (St.of O n (zaI ops o x)) o)
theorem zxe {c:Cx} (hT:TOk c.P c.T) (hm:c.P.follows .mixedOrders=true) {id:Nat} {ops:Array Oper} {O O':List Heap} {n:Nat} {x0:SH} {ps:List Pl} {k:List Item} {oF:Oper}
  (hoF:ops[ps.length]? = some oF) (hg:oF.guard=none)
  (hF:∀x:SH,(∀t d,look (zaI ops oF (zbS ps x0)).1 t=some d→look x.1 t=some d)→Does c oF (St.of O n x) (fun s'=>s'=St.of O' n x) (exec c.T (St.of O n x) oF))
  (hok:okT ops (ps++[noPl]) x0=true) (hch:zdX c ops O n ops.toList ps x0)
  (hfl:∀i o p,ops[i]? = some o→ps[i]? = some p→i ∉ getL (zcK ops.toList []) ps.length→zc3 c ops O' n o (zaI ops o (zbS (ps.take i) x0)) p)
  (hend:RG c ops (List.range' (ps.length+1) (ops.size-(ps.length+1))) (St.of O' n (zbS ps x0)) k):Rch c (.code (.region id ops true)::k) (St.of O n x0):=by
 have hun:zjS ops (zcK ops.toList [])=true∧zrd ops (zcK ops.toList []) (ps.length+1)=true∧ps.length+1≤ops.size ∧
   ∀i o p,ops.toList[i]? = some o→(ps++[noPl])[i]? = some p→okI ops (zcK ops.toList []) (ps++[noPl]) x0 (0+i) o (zbS ((ps++[noPl]).take i) x0) p=true:=by
  have h:=hok;simp only[okT,Bool.and_eq_true] at h;obtain⟨⟨hpre,hgo⟩,htl⟩:=h;obtain⟨hlen,hget⟩:=zgg hgo;exact⟨hpre,by simpa using htl,by simpa using hlen,hget⟩
 obtain⟨hpre,htl,hlen,hget⟩:=hun;have hpl:pl (ps++[noPl]) ps.length=noPl:=by
  unfold pl;rw[List.getElem?_append_right (Nat.le_refl _),Nat.sub_self];rfl
 refine zjN (p:=ps.length+1) hm rfl hpre htl hlen (fun L a w=>∃K ρ,Inv c.E K ρ (St.of (if L ps.length=true then O' else O) n (fold (ps++[noPl]) (ord ops.size L) x0)) a w) ?_ ?_ ?_ ?_
 ·rintro L L' a w hL ⟨K,ρ,hi⟩;refine⟨K,ρ,?_⟩;rw[←hL _ (by omega),←ze1 fun k hk=>hL k hk];exact hi
 ·intro K ρ a w hi;refine⟨K,ρ,?_⟩;have e:ord ops.size (fun _=>false)=[]:=by simp[ord]
  rw[e];exact hi
 ·rintro L hc i o ho hip hLi hbef hno a w ⟨K,ρ,hinv⟩ Q next hnext
  by_cases hie:i=ps.length
  ·subst hie;rw[hLi,if_neg (by decide)] at hinv;rw[hoF] at ho;simp only[Option.some.injEq] at ho;subst ho;have hok1:=hget ps.length oF noPl (by simpa using hoF) (by rw[List.getElem?_append_right (Nat.le_refl _),Nat.sub_self];rfl);rw[Nat.zero_add] at hok1;have e:(ps++[noPl]).take ps.length=ps:=by simp
   rw[e] at hok1;have e2:zbS ps x0=fold (ps++[noPl]) (ord ops.size fun k=>Nat.ble (k+1) ps.length) x0:=by
    rw[zcq (n:=ops.size) (by omega),zbA _ (by simp),e]
   have hok2:okI ops (zcK ops.toList []) (ps++[noPl]) x0 ps.length oF (zbS ps x0) (pl (ps++[noPl]) ps.length)=true:=by
    rw[hpl];exact hok1
   obtain⟨hf,hy1,hy2⟩:=fits hpre hoF hok2 e2 hc hLi hbef;have hw:zaN ops (St.of O n (fold (ps++[noPl]) (ord ops.size L) x0)) oF=some true:=by unfold zaN;rw[hg]
   unfold wpOp;rw[hoF]
   dsimp only
   rw[zb4 hinv hw,if_pos rfl];refine .inl ?_;refine zbJ hT (hF _ fun t d e=>hf.v1 t d e) K ρ a w hinv _ _ fun v w' s' K' ρ' _ _ hi' hq=>hnext _ _ ⟨K',ρ',?_⟩;have e3:(if (L ps.length||Nat.beq ps.length ps.length)=true then O' else O)=O':=by
    rw[if_pos (by rw[beq_of_eq rfl,Bool.or_true])]
   show Inv c.E K' ρ' (St.of (if (L ps.length||Nat.beq ps.length ps.length)=true then O' else O) n _) (a.put oF.dst v) w';rw[e3];subst hq;refine Inv.sameX hi' (fun t=>?_) fun nm=>?_
   ·rw[hy1,hpl];simp[noPl,Pl.ap]
   ·rw[hy2,hpl];simp[noPl,Pl.ap,rmv]
  ·have hil:i<ps.length:=by omega
   have hp:(ps++[noPl])[i]? = some ps[i]:=by rw[List.getElem?_append_left hil,List.getElem?_eq_getElem hil]
   have hok1:=hget i o _ (by simpa using ho) hp;have e:(ps++[noPl]).take i=ps.take i:=by rw[List.take_append_of_le_length (by omega)]
   have hbq:Nat.beq ps.length i=false:=by
    cases hb:Nat.beq ps.length i with
    |false=>rfl
    |true=>exact absurd (Nat.eq_of_beq_eq_true hb).symm hie
   have hst:zc3 c ops (if L ps.length=true then O' else O) n o (zaI ops o (zbS (ps.take i) x0)) ps[i]:=by
    cases hL:L ps.length with
    |false=>
     rw[if_neg (by decide)];exact zfp hch i o _ (by simpa using ho) (List.getElem?_eq_getElem hil)
    |true=>
     rw[if_pos rfl];refine hfl i o _ ho (List.getElem?_eq_getElem hil) fun hmem=>?_;have:=(zdr hpre hc (ps.length+1) ps.length oF (Nat.lt_succ_self _) hoF (fun j hj=>hc ps.length oF hoF hL j hj) i hmem).1;rw[this] at hLi;cases hLi
   rw[←e] at hst;have hpl':pl (ps++[noPl]) i=ps[i]:=by simp[pl,hp]
   rw[Nat.zero_add] at hok1;rw[←zbA i (by simp;omega),←zcq (n:=ops.size) (by omega)] at hok1 hst;rw[←hpl'] at hok1 hst;obtain⟨hf,hy1,hy2⟩:=fits hpre ho hok1 rfl hc hLi hbef;refine zft ho hst hf hy1 hy2 hinv fun a' w' K' ρ' hinv'=>?_;refine hnext a' w' ⟨K',ρ',?_⟩;have e3:(L ps.length||Nat.beq ps.length i)=L ps.length:=by rw[hbq,Bool.or_false]
   show Inv c.E K' ρ' (St.of (if (L ps.length||Nat.beq ps.length i)=true then O' else O) n _) a' w';rw[e3];exact hinv'
 ·rintro a w ⟨K,ρ,hinv⟩;rw[if_pos (Nat.ble_eq_true_of_le (Nat.le_refl _)),zcq (n:=ops.size) hlen,zbA _ (by simp),List.take_of_length_le (by simp)] at hinv;have e:zbS (ps++[noPl]) x0=zbS ps x0:=by
   unfold zbS;rw[List.foldl_append];simp[noPl,Pl.ap,rmv]
  rw[e] at hinv;exact hend K ρ a w hinv
theorem zlz {c:Cx} {s:St} {o:Oper} {t nm d n j:Nat} {px pv:Operand} {ti:TI} {es:Nat} {ty:Nat} {xs:List (List I)} {cs:List D} {l:List I} (hop:o.op=.store t px pv) (hdn:o.dst=none) (h1:look c.T t=some ti) (hx:evD s px=.own (d+1) nm j 0) (hv:evD s pv=.agg cs) (hl:D.toIs cs=some l)
  (hc:(Nat.beq cs.length ti.size&&D.ones cs)=true) (hes:Nat.beq ti.size es=true) (hS:zab s.S (d+1) nm=some (.arr ty es n xs true)):Does c o s (fun s'=>s'={ s with S:=setAt s.S (d+1) nm (.arr ty es n (xs.set j l) true)}) (exec c.T s o):=by
 have e:exec c.T s o=zc9 c.T s t (.own (d+1) nm j 0) (.agg cs):=by
  unfold exec;rw[hop];simp only[hx,hv,hdn]
 rw[e];unfold zc9;rw[h1];have hcells:(D.agg cs).cells=cs:=rfl;simp only[hcells];rw[hc];show Does c o s _ (zcv s (d+1) nm _);unfold zcv;refine⟨_,hS,?_⟩;simp only[hl,hes];refine⟨?_,rfl⟩;unfold turns;rw[hop]
theorem zpr {c:Cx} (hT:TOk c.P c.T) {ops:Array Oper} {O:List Heap} {n:Nat} {o:Oper} {v:SH} {t:Nat} {d:D} (hw:zaN ops (St.of O n v) o=some true) (ht:o.dst=some t) (hn:Nat.ble (t+1) n=true) (hex:exec c.T (St.of O n v) o=.val d) (hro:roB o=true) :
  zc3 c ops O n o v ⟨[(t,d)],[],none⟩:=by
 refine zeX hw (zhg hro).symm fun E hE=>zbJ (c:={ c with E:=E}) hT ?_;rw[show exec ({c with E:=E}:Cx).T (St.of O n v) o=.val d from hex];show match o.dst with
  |some t=>t<(St.of O n v).n∧_
  |none=>False
 rw[ht];refine⟨Nat.le_of_ble_eq_true hn,rfl,rfl,fun t' d' e=>?_⟩;obtain⟨rfl,rfl⟩:=zaU e;exact .inr (.inl (by simp[St.set,zac]))
def FDS (c:Cx) (id:Nat) (ops:Array Oper) (O:List Heap) (n:Nat) (x0:SH) (k:List Item) (x:SH) (ps:List Pl):Prop:=
 x=zbS ps x0→zdX c ops O n ops.toList ps x0→Rch c (.code (.region id ops true)::k) (St.of O n x0)
theorem zi3 {c:Cx} {s:St} {k:List Item} {ops:Array Oper} (hT:TOk c.P c.T) (m:Nat) {id:Nat} {O:List Heap} {H:Heap} (hS:s.S=H::O)
  (h:GE c ops O s.n (FDS c id ops O s.n (s.σ,H) k) (runS c.T ops O s.n 0 (ops.toList.take m) (s.σ,H) [])):GM c (.drawn id ops s k):=by
 obtain⟨qs,h1,h2⟩:=zbb (c:=c) hT _ _ _ _ h.h;rw[List.nil_append] at h2;have hs:s=St.of O s.n (s.σ,H):=by
  cases s
  simp only at hS;subst hS;rfl
 refine⟨?_⟩;show Rch c (.code (.region id ops true)::k) s;rw[hs];exact h2 rfl (zei h1)
theorem zxT {c:Cx} (hT:TOk c.P c.T) (hfn:c.P.funcs[c.f]? = some c.fn) (hm:c.P.follows .mixedOrders=true) {id:Nat} {ops:Array Oper} {O:List Heap} {n:Nat} {x0 x:SH} {acc:List Pl} {k:List Item} {oF:Oper} {N:Nat} {t tx tv nm d nn j:Nat} {ti:TI} {es ty:Nat} {xs:List (List I)} {cs:List D} {l0:List I} (l:List Nat)
  (fl:List Nat) (hN:acc.length=N) (hoF:ops[N]? = some oF) (hg:oF.guard=none) (hdn:oF.dst=none) (hop:oF.op=.store t (.tmp tx) (.tmp tv)) (h1:look c.T t=some ti) (hx:look (zaI ops oF x).1 tx=some (.own (d+1) nm j 0)) (hv:look (zaI ops oF x).1 tv=some (.agg cs)) (hl0:D.toIs cs=some l0)
  (hc:(Nat.beq cs.length ti.size&&D.ones cs)=true) (hes:Nat.beq ti.size es=true) (hO:zab O d nm=some (.arr ty es nn xs true))
  (hok:okT ops (acc++[noPl]) x0=true)
  (hfi:allN N (fun i=>memN fl i||memN (getL (zcK ops.toList []) N) i)=true)
  (hfl:∀i∈fl,∃o t' d',ops[i]? = some o∧acc[i]? = some ⟨[(t',d')],[],none⟩∧zaN ops (St.of (setAt O d nm (.arr ty es nn (xs.set j l0) true)) n (zaI ops o (zbS (acc.take i) x0))) o=some true∧o.dst=some t'∧Nat.ble (t'+1) n=true∧exec c.T (St.of (setAt O d nm (.arr ty es nn (xs.set j l0) true)) n (zaI ops o (zbS (acc.take i) x0))) o=.val d'∧roB o=true)
  (hl:List.range' (N+1) (ops.size-(N+1))=l)
  (hend:GM c (zhi x fun x=>run c.T c.stop 1000 (.inRegion ops l::k) (St.of (setAt O d nm (.arr ty es nn (xs.set j l0) true)) n x))) :
  GE c ops O n (FDS c id ops O n x0 k) (.done x acc):=by
 subst hl;subst hN;refine⟨?_⟩;show FDS c id ops O n x0 k x acc;intro hx0 hch;subst hx0;refine zxe (O':=setAt O d nm (.arr ty es nn (xs.set j l0) true)) hT hm hoF hg (fun x' hsub=>?_) hok hch (fun i o p ho hp hni=>?_) ?_;rotate_left 1
 ·have hil:i<acc.length:=(List.getElem?_eq_some_iff.1 hp).1;have h:=zbX hfi i hil;simp only[Bool.or_eq_true] at h;rcases h with h|h
  ·obtain⟨o',t',d',f1,f2,f3,f4,f5,f6,f7⟩:=hfl i (zco.1 h);rw[ho] at f1;obtain rfl:=Option.some.inj f1;rw[hp] at f2;obtain rfl:=Option.some.inj f2;exact zpr hT f3 f4 f5 f6 f7
  ·exact absurd (zco.1 h) hni
 rotate_left 1
 ·have e1:=hsub _ _ hx;have e2:=hsub _ _ hv;refine zlz (s:=St.of O n x') hop hdn h1 ?_ ?_ hl0 hc hes ?_
  ·show St.get (St.of O n x') tx=_;unfold St.get;have:look (St.of O n x').σ tx=some (.own (d+1) nm j 0):=e1;rw[this]
  ·show St.get (St.of O n x') tv=_;unfold St.get;have:look (St.of O n x').σ tv=some (.agg cs):=e2;rw[this]
  ·exact hO
 ·have h:=hend.h;rw[zfa] at h;exact za5 hT hfn 1000 (.inRegion ops _::k) _ h
end Go.AI
namespace Go.AI
open Go.Proofs
set_option maxRecDepth 20000
abbrev mvDc (m:Mv):D:=.agg [ii m.frm,ii m.ev,ii m.to,ii m.g.op,ii m.g.vl,ii m.g.ix,exs m.g.args,upds m.us]
abbrev zds (l:List Mv):Ob:=.arr 187 8 l.length (l.map mvI) true
def zs3 (x y:Mv):Int:=if cmpI x.frm y.frm≠0 then cmpI x.frm y.frm else cmpI x.ev y.ev
abbrev ltMv (x y:Mv):Prop:=x.frm<y.frm∨x.frm=y.frm∧x.ev<y.ev
theorem zvP {x y:Mv}:zs3 x y<0↔ltMv x y:=by
 unfold zs3 cmpI ltMv
 by_cases h1:x.frm<y.frm
 ·rw[if_pos h1,if_pos (by decide)];simp[h1]
 rw[if_neg h1]
 by_cases h2:x.frm>y.frm
 ·rw[if_pos h2,if_pos (by decide)];constructor
  ·intro h;omega
  ·intro h;omega
 rw[if_neg h2,if_neg (by decide)]
 by_cases h3:x.ev<y.ev
 ·rw[if_pos h3];constructor
  ·intro _;exact .inr ⟨by omega,h3⟩
  ·intro _;decide
 rw[if_neg h3]
 by_cases h4:x.ev>y.ev
 ·rw[if_pos h4];constructor
  ·intro h;omega
  ·intro h;omega
 ·rw[if_neg h4];constructor
  ·intro h;omega
  ·intro h;omega
abbrev SrtM (l:List Mv):Prop:=l.Pairwise fun x y=>¬ltMv y x
theorem zeI {x:Mv}:∀{P S:List Mv},(∀p∈P,¬ltMv x p)→(∀s∈S,ltMv x s)→zek x (P++S)=P++x::S
 |[],[],_,_=>rfl
 |[],s::r,_,h=>by
  have:=h s (by simp);simp only[List.nil_append,zek];rw[if_pos this]
 |p::P,S,h,h2=>by
  have:=h p (by simp);simp only[List.cons_append,zek];rw[if_neg this,zeI (fun q hq=>h q (by simp[hq])) h2]
theorem zhQ {x:Mv} {P S:List Mv} (h:SrtM (P++S)) (hp:∀p∈P,¬ltMv x p) (hs:∀s∈S,ltMv x s):SrtM (P++x::S):=by
 obtain⟨h1,h2,h3⟩:=List.pairwise_append.1 h;refine List.pairwise_append.2 ⟨h1,List.pairwise_cons.2 ⟨fun s hs'=>?_,h2⟩,fun a ha b hb=>?_⟩
 ·have:=hs s hs';unfold ltMv at *;omega
 ·rcases List.mem_cons.1 hb with rfl|hb
  ·exact hp a ha
  ·exact h3 a ha b hb
theorem zrf:∀(P:List Mv) (p x:Mv) (T:List Mv),(((P++p::x::T).map mvI).set (P.length+1) (mvI p)).set P.length (mvI x)=(P++x::p::T).map mvI
 |[],p,x,T=>rfl
 |q::P,p,x,T=>by
  have:=zrf P p x T;simp only[List.cons_append,List.map_cons,List.length_cons,List.set_cons_succ,this]
theorem zzq (P:List Mv):P=[]∨∃Q p,P=Q++[p]:=by
 by_cases h:P=[]
 ·exact .inl h
 ·exact .inr ⟨P.dropLast,P.getLast h,(List.dropLast_concat_getLast h).symm⟩
theorem zpt (A:List Mv) (x:Mv):zdG (A++[x])=zek x (zdG A):=by simp[zdG,List.foldl_append]
theorem zxz (O:List Heap) (x y:Mv):zao Tryz.prog 136 [mvDc x,mvDc y] O (ii (zs3 x y)) [] O:=by
 have h1:=fun O=>znX O x.frm y.frm;have h2:=fun O=>znX O x.ev y.ev;have h3:=fun O=>zzp O (cmpI x.frm y.frm) (cmpI x.ev y.ev);unfold zs3;generalize cmpI x.frm y.frm=a at *;generalize cmpI x.ev y.ev=b at *;refine zaa Tk Tryz.func136 rfl Tryz.call136 Tryz.ntmps136 (Nat.le_of_ble_eq_true rfl) fun E=>?_;refine zai Tk Tryz.func136 ?_;refine zat Tk Tryz.func136 zaA rfl ?_;refine zaT Tk (fun _=>h1 _) rfl rfl rfl ?_;refine zaT Tk (fun _=>h2 _) rfl rfl rfl ?_;refine zaT Tk (fun _=>h3 _) rfl rfl rfl ?_;refine zaC Tk Tryz.func136 (by kernel_rfl) ?_;refine zae Tk (r:=ii (if a≠0 then a else b)) rfl rfl rfl trivial rfl rfl ?_;rfl
abbrev zsy:D:=.fn (.func 136) [] []
theorem mget {A:List Mv} {x:Mv} {T:List Mv} {k:Nat} (hk:k=A.length):((A++x::T).map mvI)[((k:Nat):Int).toNat]? = some (mvI x):=by
 subst hk;simp
set_option maxHeartbeats 8000000 in
theorem zyY (O:List Heap) (d nm:Nat) (l:List Mv) (hl:l.length≤1000) (ho:zab O d nm=some (zds l)):zao Tryz.prog 228 [.osl d nm,ii 0,ii l.length,zsy] O (.tup []) [] (setAt O d nm (zds (zdG l))):=by
 have hc:=fun O x y=>zxz O x y
 cases l with
 |nil=>
  refine zaa Tk Tryz.func228 rfl Tryz.call228 Tryz.ntmps228 (Nat.le_of_ble_eq_true rfl) fun E=>?_;refine zai Tk Tryz.func228 ?_;refine zah ?_;refine zai Tk Tryz.func228 ?_;refine gcF Tk Tryz.func228 rfl ?_;refine za9 (wk_S (S':=_::setAt O d nm (zds [])) (zaH (zbm ho))) ?_;refine zae Tk (r:=.tup []) rfl rfl rfl trivial rfl rfl ?_;rfl
 |cons z r=>
 generalize hL:z::r=l at *;have hpos:1≤l.length:=by rw[←hL];simp
 refine zaa Tk Tryz.func228 rfl Tryz.call228 Tryz.ntmps228 (Nat.le_of_ble_eq_true rfl) fun E=>?_;refine zai Tk Tryz.func228 ?_;refine g_wk (wk_S (S':=_::setAt O d nm (zds ([z]++r))) (zaH (zbm (by rw[ho,←hL];rfl)))) ?_;refine zah ?_;refine zal (fun x:List Mv×List Mv=>[(0,.osl (d+1) nm),(1,ii 0),(2,ii l.length),(3,zsy),(8,ii x.1.length)]) (fun _=>[]) (fun x=>setAt O d nm (zds (x.1++x.2))) 53
  (fun x=>SrtM x.1∧(∃T,T++x.2=l∧zdG T=x.1)∧x.1.length+x.2.length=l.length) (fun x=>x.2.length) ([z],r) ⟨List.pairwise_singleton _ _,⟨[z],hL,rfl⟩,by rw[←hL];simp;omega⟩ ⟨rfl,rfl,rfl,rfl,rfl,trivial⟩ rfl trivial rfl rfl ?_
 rintro ⟨A,R⟩ ⟨hA,hp,hlen⟩ ih;simp only at hA hp hlen;refine zai Tk Tryz.func228 ?_;refine zad Tk Tryz.func228 rfl (fun g1=>?_) (fun g1=>?_)
 ·have g1:A.length<l.length:=by simpa using g1
  obtain⟨x,R',rfl⟩:∃x R',R=x::R':=by
   cases R with
   |nil=>simp at hlen;omega
   |cons x R'=>exact⟨x,R',rfl⟩
  obtain⟨T,hT,hTA⟩:=hp;have hTn:(T++[x])++R'=l:=by rw[←hT];simp
  have hTs:zdG (T++[x])=zek x A:=by rw[zpt,hTA]
  rw[List.length_cons] at hlen;refine zah ?_;refine zal (fun y:List Mv×List Mv=>[(0,.osl (d+1) nm),(1,ii 0),(2,ii l.length),(3,zsy),(8,ii A.length),(9,ii y.1.length)]) (fun _=>[]) (fun y=>setAt O d nm (zds (y.1++x::(y.2++R')))) 53
   (fun y=>(∀s∈y.2,ltMv x s)∧y.1++y.2=A) (fun y=>y.1.length) (A,[]) ⟨by simp,by simp⟩ ⟨rfl,rfl,rfl,rfl,rfl,rfl,trivial⟩ rfl trivial rfl rfl ?_
  rintro ⟨P,S⟩ ⟨hS,hA2⟩ ih2;simp only at hS hA2;rcases zzq P with rfl|⟨Q,p,rfl⟩
  ·rw[List.nil_append] at hA2;subst hA2;have hi1:ii (IntKind.i64.wrap ((S.length:Int)+1))=ii ((x::S:List Mv).length:Int):=congrArg ii (zaE (n:=1000001) (by omega) (by decide));refine zai Tk Tryz.func228 ?_;refine zat Tk Tryz.func228 zaA rfl ?_;refine zbP Tk (fun h=>absurd h (by simp)) (fun _=>?_);refine zaC Tk Tryz.func228 (by kernel_rfl) ?_;refine zad Tk Tryz.func228 rfl (fun h=>absurd h (by simp)) (fun _=>?_);refine zah ?_;have e1:zek x S=x::S:=zeI (P:=[]) (by simp) hS;refine ih (x::S,R') _ _ ⟨zhQ (P:=[]) hA (by simp) hS,⟨T++[x],hTn,hTs.trans e1⟩,by simp only[List.length_cons];omega⟩ (by simp) ⟨rfl,rfl,rfl,rfl,hi1,trivial⟩ rfl trivial rfl rfl
  ·have e1:(Q++[p])++x::(S++R')=Q++p::x::(S++R'):=by simp
   have e2:((Q++[p]).length:Int)=((Q.length+1:Nat):Int):=by simp
   have hQA:Q.length+1+S.length=A.length:=by rw[←hA2];simp;omega
   have w1:IntKind.i64.wrap (((Q.length+1:Nat):Int)-1)=(Q.length:Int):=by rw[w64 (by omega) (by omega)];omega
   have gx:((Q++p::x::(S++R')).map mvI)[(((Q.length+1:Nat):Int)).toNat]? = some (mvI x):=by
    have:=mget (A:=Q++[p]) (x:=x) (T:=S++R') (k:=Q.length+1) (by simp);rwa [e1] at this
   have gp:((Q++p::x::(S++R')).map mvI)[(IntKind.i64.wrap (((Q.length+1:Nat):Int)-1)).toNat]? = some (mvI p):=by rw[w1];exact mget rfl
   have hlt:=zvP (x:=x) (y:=p);have hcc:=fun O=>hc O x p;rw[e2,e1];have hll:(Q++p::x::(S++R')).length=l.length:=by simp;omega
   generalize zs3 x p=cw at *;obtain⟨xf,xe,xt,⟨xo,xv,xi,xa⟩,xu⟩:=x;obtain⟨pf,pe,pt,⟨po,pv,pi,pa⟩,pu⟩:=p;generalize hxx:(⟨xf,xe,xt,⟨xo,xv,xi,xa⟩,xu⟩:Mv)=x at *;generalize hpp:(⟨pf,pe,pt,⟨po,pv,pi,pa⟩,pu⟩:Mv)=p at *;refine zai Tk Tryz.func228 ?_;refine zat Tk Tryz.func228 zaA rfl ?_;refine zbP Tk (fun _=>?_) (fun h=>absurd h (by simp));refine zce Tk (zaB (H:=([]:Heap)) (zag ho)) ?_;refine zar Tk (by exact⟨by omega,by show ((Q.length+1:Nat):Int)<((Q++p::x::(S++R')).length:Int);rw[hll];omega⟩) ?_;refine zce Tk (zaB (H:=([]:Heap)) (zag ho)) ?_;refine zax Tk (gx) ?_;refine zce Tk (zaB (H:=([]:Heap)) (zag ho)) ?_;refine zar Tk (by exact⟨by show (0:Int)≤IntKind.i64.wrap (((Q.length+1:Nat):Int)-1);rw[w1];omega,by show IntKind.i64.wrap (((Q.length+1:Nat):Int)-1)<((Q++p::x::(S++R')).length:Int);rw[w1,hll];omega⟩) ?_
   refine zce Tk (zaB (H:=([]:Heap)) (zag ho)) ?_;refine zax Tk (gp) ?_;refine zaT Tk (fun _=>hcc _) rfl rfl rfl ?_;refine zaC Tk Tryz.func228 (by kernel_rfl) ?_;refine zad Tk Tryz.func228 rfl (fun c1=>?_) (fun c1=>?_)
   ·have c1:cw<0:=of_decide_eq_true c1;have hrk:=hlt.1 c1;have e3:Ob.arr 187 8 (Q++p::x::(S++R')).length ((((Q++p::x::(S++R')).map mvI).set (((Q.length+1:Nat):Int)).toNat (mvI p)).set (IntKind.i64.wrap (((Q.length+1:Nat):Int)-1)).toNat (mvI x)) true=zds (Q++x::(p::S++R')):=by
     rw[w1];show Ob.arr 187 8 _ ((((Q++p::x::(S++R')).map mvI).set (Q.length+1) (mvI p)).set Q.length (mvI x)) true=_;rw[zrf];simp[zds]
    refine zi3 Tk 15 rfl ?_;refine zce Tk (zaB (H:=([]:Heap)) (zag ho)) ?_;refine zar Tk (by exact⟨by show (0:Int)≤IntKind.i64.wrap (((Q.length+1:Nat):Int)-1);rw[w1];omega,by show IntKind.i64.wrap (((Q.length+1:Nat):Int)-1)<((Q++p::x::(S++R')).length:Int);rw[w1,hll];omega⟩) ?_;refine zce Tk (zaB (H:=([]:Heap)) (zag ho)) ?_;refine zax Tk (gp) ?_;refine zce Tk (zaB (H:=([]:Heap)) (zag ho)) ?_;refine zar Tk (by exact⟨by omega,by show ((Q.length+1:Nat):Int)<((Q++p::x::(S++R')).length:Int);rw[hll];omega⟩) ?_;refine zce Tk (zaB (H:=([]:Heap)) (zag ho)) ?_;refine zax Tk (gx) ?_;refine zce Tk (zaB (H:=([]:Heap)) (zag ho)) ?_;refine zar Tk (by exact⟨by omega,by show ((Q.length+1:Nat):Int)<((Q++p::x::(S++R')).length:Int);rw[hll];omega⟩) ?_
    refine zxT Tk Tryz.func228 zaA (N:=15) [16,17] [2,3,4] (by kernel_rfl) rfl rfl rfl rfl rfl rfl rfl rfl rfl rfl (zag ho) (by kernel_rfl) (by kernel_rfl) ?_ (by kernel_rfl) ?_
    ·intro i hi;simp only[List.mem_cons,List.not_mem_nil,or_false] at hi;rcases hi with rfl|rfl|rfl
     ·exact⟨_,_,_,rfl,rfl,rfl,rfl,rfl,rfl,rfl⟩
     ·exact⟨_,_,_,rfl,rfl,rfl,rfl,rfl,rfl,rfl⟩
     ·exact⟨_,_,_,rfl,rfl,rfl,rfl,rfl,rfl,rfl⟩
    refine zbF Tk Tryz.func228 (zaB (H:=([]:Heap)) (zag (zag ho))) ?_;refine zaf Tk Tryz.func228 (by exact⟨by show (0:Int)≤IntKind.i64.wrap (((Q.length+1:Nat):Int)-1);rw[w1];omega,by show IntKind.i64.wrap (((Q.length+1:Nat):Int)-1)<((Q++p::x::(S++R')).length:Int);rw[w1,hll];omega⟩) ?_;refine zbF Tk Tryz.func228 (zaB (H:=([]:Heap)) (zag (zag ho))) ?_;refine g_wk (wk_S (S':=_::setAt O d nm (zds (Q++x::(p::S++R')))) (zaH fun d' n'=>by rw[←e3];exact (zbO d' n').trans (zbO d' n'))) ?_;refine zah ?_;refine ih2 (Q,p::S) _ _ ⟨fun s hs=>?_,by simpa using hA2⟩ (by simp) ⟨rfl,rfl,rfl,rfl,rfl,congrArg ii w1,trivial⟩ rfl trivial rfl rfl;rcases List.mem_cons.1 hs with rfl|hs
    ·exact hrk
    ·exact hS s hs
   ·have c1:¬cw<0:=of_decide_eq_false c1;have hrk:¬ltMv x p:=fun h=>c1 (hlt.2 h);have hall:∀q∈Q++[p],¬ltMv x q:=by
     rw[←hA2] at hA;have h1:=(List.pairwise_append.1 hA).1;intro q hq;rcases List.mem_append.1 hq with hq|hq
     ·have:=(List.pairwise_append.1 h1).2.2 q hq p (by simp);unfold ltMv at *;omega
     ·rw[List.mem_singleton] at hq;subst hq;exact hrk
    have e4:zek x A=(Q++[p])++x::S:=by rw[←hA2];exact zeI hall hS
    have hi1:ii (IntKind.i64.wrap ((A.length:Int)+1))=ii (((Q++[p])++x::S:List Mv).length:Int):=by
     rw[zaE (n:=1000001) (by omega) (by decide),←hA2];simp;omega
    refine zah ?_;refine ih ((Q++[p])++x::S,R') _ _ ⟨zhQ (by rw[hA2];exact hA) hall hS,⟨T++[x],hTn,hTs.trans e4⟩,by simp;omega⟩ (by simp) ⟨rfl,rfl,rfl,rfl,hi1,trivial⟩ (congrArg (fun L=>_::setAt O d nm (zds L)) (by simp:Q++p::x::(S++R')=((Q++[p])++x::S)++R')) trivial rfl rfl
 ·have g1:l.length≤A.length:=by simpa using g1
  obtain rfl:R=[]:=List.eq_nil_of_length_eq_zero (by omega);obtain⟨T,hT,hTA⟩:=hp;rw[List.append_nil] at hT ⊢;subst hT;rw[←hTA];refine zae Tk (r:=.tup []) rfl rfl rfl trivial rfl rfl ?_;rfl
theorem zkb (x:Mv):∀l,(zek x l).length=l.length+1
 |[]=>rfl
 |y::r=>by
  unfold zek
  split
  ·simp
  ·simp[zkb x r]
theorem zeY (l:List Mv):(zdG l).length=l.length:=by
 have:∀(r acc:List Mv),(r.foldl (fun acc x=>zek x acc) acc).length=acc.length+r.length:=by
  intro r
  induction r with
  |nil=>simp
  |cons x r ih=>intro acc;rw[List.foldl_cons,ih,zkb,List.length_cons];omega
 have:=this l [];simpa [zdG] using this
theorem zrj (O:List Heap) (d nm:Nat) (l:List Mv) (hl:l.length≤19) (ho:zab O d nm=some (zds l)):zao Tryz.prog 174 [.osl d nm,ii l.length,zsy] O (.tup []) [] (setAt O d nm (zds (zdG l))):=by
 have h:=fun O d ho=>zyY O d nm l (by omega) ho;have hsl:=zeY l;refine zaa Tk Tryz.func174 rfl Tryz.call174 Tryz.ntmps174 (Nat.le_of_ble_eq_true rfl) fun E=>?_;refine zai Tk Tryz.func174 ?_;refine zah ?_;refine zai Tk Tryz.func174 ?_;refine zad Tk Tryz.func174 rfl (fun h=>absurd h (by simp;omega)) (fun _=>?_);refine zaj Tk Tryz.func174 (h _ (d+1) (zaB (H:=([]:Heap)) ho)) rfl rfl rfl (zaS (zaB (H:=([]:Heap)) ho) (by simp[Ob.sh,hsl])) rfl ?_;refine zah ?_;refine zai Tk Tryz.func174 ?_;refine zad Tk Tryz.func174 rfl (fun h=>absurd h (by simp;omega)) (fun _=>?_);refine zae Tk (r:=.tup []) rfl rfl rfl trivial rfl rfl ?_;rfl
theorem zwS (O:List Heap) (d nm:Nat) (l:List Mv) (hl:l.length≤19) (ho:zab O d nm=some (zds l)):zao Tryz.prog 135 [.osl d nm,zsy] O (.tup []) [] (setAt O d nm (zds (zdG l))):=by
 have h:=fun O d ho=>zrj O d nm l hl ho;have hsl:=zeY l;refine zaa Tk Tryz.func135 rfl Tryz.call135 Tryz.ntmps135 (Nat.le_of_ble_eq_true rfl) fun E=>?_;refine zai Tk Tryz.func135 ?_;refine zbF Tk Tryz.func135 (zaB ho) ?_;refine zaj Tk Tryz.func135 (h _ (d+1) (zaB (H:=([]:Heap)) ho)) rfl rfl rfl (zaS (zaB (H:=([]:Heap)) ho) (by simp[Ob.sh,hsl])) rfl ?_;refine zae Tk (r:=.tup []) rfl rfl rfl trivial rfl rfl ?_;rfl
end Go.AI
namespace Go.Proofs
open Go.RowKit Go.Shelf
attribute [local go_sem] Oper.semAt_some
def zeu {α:Type} (f:Nat→α) (k:Nat):List α:=(List.range k).map f
theorem zhP {α:Type} (f:Nat→α) (k:Nat):zeu f (k+1)=zeu f k++[f k]:=by simp[zeu,List.range_succ]
theorem zjs {α:Type} (f:Nat→α) (k:Nat):(zeu f k).length=k:=by simp[zeu]
theorem zq6 (zs:List Int):zeu (fun j=>zs[j]?.getD 0) zs.length=zs:=by
 apply List.ext_getElem
 ·simp[zeu]
 ·intro i h1 h2;simp[zeu,h2]
set_option maxRecDepth 100000 in
theorem zuj (F:Fence) (n:Nat) (h7:F.fn 173) (hro:F.round=none) (hn:1≤n) (l Bs Bo n₀ b off len cap:Nat) (zs:List Int) (hreach:len*8≤140737488351232) (hb:b<n₀) (J Jx:List Int→World→Prop)
  (hY:∀pre x W,J pre W→pre.length<len→YieldAt F (n-1) Tryz.prog l #[.int .i64 x] W fun e W'=>
   (e=.returned (.bool true)∧J (pre++[x]) W'∧Below n₀ W W')∨(e=.returned (.bool false)∧Jx (pre++[x]) W'))
  (W:World) (hBs:W.cell? ⟨Bs,Bo,none⟩=some (.slice (some ⟨b,off,none⟩) len cap)) (hc:∀j,j<len→W.cell? ⟨b,off+j,none⟩=some (.int .i64 (zs[j]?.getD 0))) (h0:J [] W) :
  CallsIn F n Tryz.prog 173 #[.func (.yield l) #[] #[],.pointer (some ⟨Bs,Bo,none⟩)] W fun e W'=>(∃v,e=.returned v) ∧
   ((∃ys,ys=zeu (fun j=>zs[j]?.getD 0) len∧J ys W')∨(∃pre,(∃k,k≤len∧pre=zeu (fun j=>zs[j]?.getD 0) k)∧Jx pre W')):=by
 refine callsIn_of_wp Tryz.func173 rfl h7 ?_ hro;simp only[Tryz.ntmps173,List.size_toArray,List.length_cons,List.length_nil,Nat.reduceAdd,Nat.reduceSub,Array.replicate_succ,Array.replicate_zero,List.push_toArray,List.append_toArray,List.nil_append,List.cons_append]
 gi_wp2
 gi_loopw [7] (fun i wr=>∃k:Nat,k≤len∧i=.int .i64 k∧J (zeu (fun j=>zs[j]?.getD 0) k) wr∧Below n₀ W wr)
  (fun i _=>len-(intOf i).toNat)
 case atStart=>exact⟨0,Nat.zero_le _,rfl,h0,Below.refl _ _⟩
 case round=>
  obtain⟨k,hk,rfl,hJs,hnx⟩:=hrel;have hcx:k<len→wr.cell? ⟨b,off+k,none⟩=some (.int .i64 (zs[k]?.getD 0)):=fun h=>(hnx.cell (p:=⟨b,off+k,none⟩) hb).trans (hc k h)
  by_cases hlt:k<len
  ·obtain⟨fn,tmps,assign,body,hy,hR⟩:=hY _ (zs[k]?.getD 0) wr hJs (by rw[zjs];exact hlt);have hcx':=hcx hlt
   gi_wp2
   refine hR.mono ?_;rintro e W3 (⟨rfl,hJ3,hk3⟩|⟨rfl,hJx3⟩)
   ·gi_wp2
    go_roundw
    case rel=>exact⟨k+1,by omega,by simp,by rw[zhP];exact hJ3,hnx.trans hk3⟩
    case measure=>simp[intOf];omega
   ·gi_wp2
    refine bodyPost_ret (results_none rfl _ _ _) rfl ?_;exact⟨⟨_,rfl⟩,.inr ⟨_,⟨k+1,by omega,(zhP _ _).symm⟩,hJx3⟩⟩
  ·obtain rfl:k=len:=by omega
   gi_wp2
   go_end0
   exact⟨⟨_,rfl⟩,.inl ⟨_,rfl,hJs⟩⟩
theorem zpl (zs:List Int) {k:Nat} (hk:k≤zs.length):zeu (fun j=>zs[j]?.getD 0) k=zs.take k:=by
 apply List.ext_getElem
 ·simp[zeu,hk]
 ·intro i h1 h2;have:i<zs.length:=by simp[zeu] at h1;omega
  simp[zeu,this]
def IntsM (n₀:Nat) (W:World) (sv:Value) (zs:List Int):Prop:=
 (∃a cap,sv=.slice a 0 cap∧zs=[])∨∃b off cap,sv=.slice (some ⟨b,off,none⟩) zs.length cap∧b<n₀∧∀j,j<zs.length→W.cell? ⟨b,off+j,none⟩=some (.int .i64 (zs[j]?.getD 0))
theorem IntsM.below {n₀:Nat} {A B:World} (h:Below n₀ A B) {sv:Value} {zs:List Int}:IntsM n₀ A sv zs→IntsM n₀ B sv zs
 |.inl e=>.inl e
 |.inr ⟨b,off,cap,e,hb,hc⟩=>.inr ⟨b,off,cap,e,hb,fun j hj=>(h.cell (p:=⟨b,off+j,none⟩) hb).trans (hc j hj)⟩
set_option maxRecDepth 100000 in
theorem zjr (F:Fence) (n:Nat) (h7:F.fn 173) (hro:F.round=none) (l Bs Bo:Nat) (a:Option Addr) (cap:Nat) (J:List Int→World→Prop) (W:World) (hBs:W.cell? ⟨Bs,Bo,none⟩=some (.slice a 0 cap)) (h0:J [] W) :
  CallsIn F n Tryz.prog 173 #[.func (.yield l) #[] #[],.pointer (some ⟨Bs,Bo,none⟩)] W fun e W'=>(∃v,e=.returned v)∧J [] W':=by
 refine callsIn_of_wp Tryz.func173 rfl h7 ?_ hro;simp only[Tryz.ntmps173,List.size_toArray,List.length_cons,List.length_nil,Nat.reduceAdd,Nat.reduceSub,Array.replicate_succ,Array.replicate_zero,List.push_toArray,List.append_toArray,List.nil_append,List.cons_append]
 gi_wp2
 gi_loopw [7] (fun i wr=>i=.int .i64 0∧J [] wr) (fun _ _=>0)
 case atStart=>exact⟨rfl,h0⟩
 case round=>
  obtain⟨rfl,hJs⟩:=hrel
  gi_wp2
  go_end0
  exact⟨⟨_,rfl⟩,hJs⟩
theorem ziu (F:Fence) (n:Nat) (h7:F.fn 173) (hro:F.round=none) (hn:1≤n) (Bs Bo n₀:Nat) (sv:Value) (zs:List Int) (hreach:zs.length*8≤140737488351232) (w:World) (hBs:Bs<w.heap.size) (hn₀:n₀≤w.heap.size)
  (hc:w.cell? ⟨Bs,Bo,none⟩=some sv) (hI:IntsM n₀ w sv zs) :
  SeqStopsK F n Tryz.prog 173 #[.pointer (some ⟨Bs,Bo,none⟩)] (fun x:Int=>#[Value.int .i64 x]) (Below n₀) (fun ys=>ys=zs) (fun pre=>pre <+: zs) zs.length w:=fun l J Jx W hW _ _ hY h0=>by
 have hc':=(hW.cell (p:=⟨Bs,Bo,none⟩) hBs).trans hc;rcases hI.below (hW.mono hn₀) with ⟨a,cap,rfl,rfl⟩|⟨b,off,cap,rfl,hb,hcs⟩
 ·exact (zjr F n h7 hro l Bs Bo a cap J W hc' h0).mono fun e W' ⟨he,hj⟩=>⟨he,.inl ⟨_,rfl,hj⟩⟩
 ·refine (zuj F n h7 hro hn l Bs Bo n₀ b off zs.length cap zs hreach hb J Jx hY W hc' hcs h0).mono ?_;rintro e W' ⟨he,⟨ys,rfl,hj⟩|⟨pre,⟨k,hk,rfl⟩,hj⟩⟩
  ·exact⟨he,.inl ⟨_,zq6 zs,hj⟩⟩
  ·exact⟨he,.inr ⟨_,by rw[zpl zs hk];exact List.take_prefix _ _,hj⟩⟩
theorem zpi (F:Fence) (n:Nat) (h5:F.fn 133) (hro:F.round=none) (a:Option Addr) (len cap:Nat) (w:World) :
  CallsIn F n Tryz.prog 133 #[.slice a len cap] w fun e w'=>e=.returned (.func (.func 173) #[] #[.pointer (some ⟨w.heap.size,0,none⟩)])∧w'=w.alloc (.cells #[.slice a len cap] 55):=by
 refine callsIn_of_wp Tryz.func133 rfl h5 ?_ hro;simp only[Tryz.ntmps133,List.size_toArray,List.length_cons,List.length_nil,Nat.reduceAdd,Nat.reduceSub,Array.replicate_succ,Array.replicate_zero,List.push_toArray,List.append_toArray,List.nil_append,List.cons_append]
 gi_wp2
 go_ret
 exact⟨rfl,rfl⟩
theorem zwD (a:Option Addr) (len cap:Nat) (w:World) :
  Calls Tryz.prog 133 #[.slice a len cap] w fun e w'=>e=.returned (.func (.func 173) #[] #[.pointer (some ⟨w.heap.size,0,none⟩)])∧w'=w.alloc (.cells #[.slice a len cap] 55):=
 callsIn_wide.1 (zpi Fence.wide 1 trivial rfl a len cap w)
theorem zy0:(Tryz.prog.info? 3).map (fun i=>(i.zero,i.size,i.bytes))=some (some (.int .i64 0),1,8):=by kernel_rfl
set_option maxRecDepth 100000 in
theorem zjl (F:Fence) (n:Nat) (h3:F.fn 226) (h5:F.fn 173) (hro:F.round=none) (hn:3≤n) (Bs Bo:Nat) (sv:Value) (xs:List Int) (hlen:xs.length≤maxLen) (hbytes:xs.length*8≤140737488351232) (w:World) (hBs:Bs<w.heap.size) (hc0:w.cell? ⟨Bs,Bo,none⟩=some sv) (hL:IntsM w.heap.size w sv xs) :
  CallsIn F n Tryz.prog 226 #[.slice none 0 0,.func (.func 173) #[] #[.pointer (some ⟨Bs,Bo,none⟩)]] w fun e W'=>∃v,e=.returned v∧W'.ownsRow w.heap.size 3 1 v xs.length (xs.map (Value.int .i64))∧(v=.slice none 0 0↔xs=[])∧Below w.heap.size w W':=by
 have h1:1≤n:=by omega
 obtain⟨i0,hi,hz0,hz1,hz2⟩:=info_parts zy0;refine callsIn_of_wp_marks Tryz.func226 rfl h3 ?_ hro;simp only[Tryz.ntmps226,List.size_toArray,List.length_cons,List.length_nil,Nat.reduceAdd,Nat.reduceSub,Array.replicate_succ,Array.replicate_zero,List.push_toArray,List.append_toArray,List.nil_append,List.cons_append]
 gi_wp2
 have bO:=Boxed.new w 55 (.slice none 0 0);have hB0:Below w.heap.size w (w.alloc (.cells #[.slice none 0 0] 55)):=(Below.refl _ w).alloc (Nat.le_refl _) _;refine wpIn_rangeFunc_ownG hro h1 (gf:=173) (lb:=#[.pointer (some ⟨Bs,Bo,none⟩)]) rfl h5 (enters_of Tryz.func173 (by kernel_rfl) rfl)
  (ziu F (n-1) h5 hro (by omega) Bs Bo w.heap.size sv xs hbytes _ (by simp;omega) (by simp) ((hB0.cell (p:=⟨Bs,Bo,none⟩) hBs).trans hc0) (hL.below hB0)) belowK_t (belowK_b (by simp)) (Below.refl _ _) (fun _=>rfl)
  (fun pre W=>(∃v,Boxed W w.heap.size 55 v∧W.ownsRow w.heap.size 3 1 v pre.length (pre.map (Value.int .i64))∧(v=.slice none 0 0↔pre=[]))∧Below w.heap.size w W)
  (fun _ _ _=>False)
  (OwnFrom.and (Own.from (holdsRow_own w.heap.size w.heap.size 55 3 1 (fun pre=>pre.length) (fun pre=>pre.map (Value.int .i64)) (fun pre v=>v=.slice none 0 0↔pre=[])) _) (ownFrom_below (Nat.le_refl _) (by simp)))
  (fun _ _ _ _ _ hs _ _=>hs)
  ⟨⟨_,bO,World.ownsRow_nil _ _ _ _,by simp⟩,hB0⟩
  (fun x=>{ tmps:=#[.slice none 0 0,.func (.func 173) #[] #[.pointer (some ⟨Bs,Bo,none⟩)],.pointer (some ⟨w.heap.size,0,none⟩),undef,.slice none 0 0,.int .i64 x,.func (.func 173) #[] #[.pointer (some ⟨Bs,Bo,none⟩)],.int .i64 x,undef,undef,undef,undef,undef],defers:=[]}) ?assign ?body ?done ?stop
 case assign=>
  intro l x W K hK
  gi_wp2
  exact hK
 case body=>
  rintro l pre x W ⟨⟨v,hv,hrow,hnil⟩,hB⟩ hlt;have hc:=hv.cell
  gi_wp2_with (gi_at_builtin;refine wpListIn_append_own _ rfl _ _ 55 rfl w.heap.size 3 i0 (.int .i64 0) 1 8 Tryz.underlying55 hi hz0 hz1 hz2 rfl (by decide) _ _ _ rfl (hrow.alloc _) ⟨W.heap.size,0,none⟩ 1 1 [.int .i64 x] rfl rfl (cell_one_new _ _ _) (by simp[Value.oneCell']) (by omega) (by omega) (by have:=hB.size;simp;omega) ?_;intro v' w1 hown' hgrow _;obtain⟨g',cap',rfl⟩:=ownsRow_succ hown';obtain⟨hv1,hv2,hr2,hk2,hb2⟩:=hv.appended (by decide) hrow hB.size (Nat.le_refl _) hown' hgrow;have hc1:=hv1.cell;have hf1:=hv1.frozen)
  exact⟨hk2.from _,hb2,⟨_,hv2,by simpa using hr2,by simp⟩,hB.trans hb2⟩
 case done=>
  rintro D ys W hD rfl ⟨⟨v,hv,hrow,hnil⟩,hB⟩ hK;have hc:=hv.cell
  gi_wp2
  refine⟨by simp,.inl ⟨_,_,rfl,run_takeDeferred hK,?_⟩⟩;exact⟨_,results_tmp rfl _ _ _,v,rfl,ownsRow_putObj hrow _ hK rfl,hnil,hB.trans (belowK_b (w:=w) (Nat.le_refl _) W D _ _ (by simp at hD;omega) hK rfl rfl)⟩
 case stop=>
  rintro D c pre W _ _ h _;exact h.elim
theorem zqk (Bs Bo:Nat) (sv:Value) (xs:List Int) (hlen:xs.length≤maxLen) (hbytes:xs.length*8≤140737488351232) (w:World) (hBs:Bs<w.heap.size) (hc0:w.cell? ⟨Bs,Bo,none⟩=some sv) (hL:IntsM w.heap.size w sv xs) :
  Calls Tryz.prog 226 #[.slice none 0 0,.func (.func 173) #[] #[.pointer (some ⟨Bs,Bo,none⟩)]] w fun e W'=>∃v,e=.returned v∧W'.ownsRow w.heap.size 3 1 v xs.length (xs.map (Value.int .i64))∧(v=.slice none 0 0↔xs=[])∧Below w.heap.size w W':=
 callsIn_wide.1 (zjl Fence.wide 3 trivial trivial rfl (Nat.le_refl _) Bs Bo sv xs hlen hbytes w hBs hc0 hL)
end Go.Proofs
namespace Go.AI
open Go.Proofs
set_option maxRecDepth 20000
theorem zkK (O:List Heap) (l:List Int) (hl:l.length≤1000000):zao Tryz.prog 226 [.i (.v (.slice none 0 0)),.fn (.func 173) [] [.i (.ptr 1 [[zdj l]] 0 0)]] O (.osl 0 207) [(207,zb6 l)] O:=by
 intro E K ρ w vs hw hrep;obtain⟨b,o,sv,rfl,hsv,hKb⟩:∃b o sv,vs=[.slice none 0 0,.func (.func 173) #[] #[.pointer (some ⟨b,o,none⟩)]]∧Rep K sv (zdj l)∧K b o=some sv:=by
  cases hrep with
  |cons r1 rs=>
   cases rs with
   |cons r2 rs=>
    cases rs
    have e1:=zaP r1;subst e1
    cases r2 with
    |fn h1 h2=>
     cases h1
     cases h2 with
     |cons h3 h4=>
      cases h4
      cases h3 with
      |i h3=>
       cases h3 with
       |ptr p1 p2 p3=>
        rename_i b o cs
        cases p1 with
        |cons q1 q2=>
         cases q2
         exact⟨b,o,_,rfl,q1,by simpa using p3 0 _ rfl⟩
 obtain⟨ρ1,hρ1,hI⟩:=zdk hw;have hc0:=hw.holds _ _ _ hKb;have hlt:∀{b o:Nat} {x:Value},w.cell? ⟨b,o,none⟩=some x→b<w.heap.size:=by
  intro b o x h;rcases Nat.lt_or_ge b w.heap.size with h'|h'
  ·exact h'
  ·simp[World.cell?,Array.getElem?_eq_none h'] at h
 have hIn:IntsM w.heap.size w sv l:=by
  cases l with
  |nil=>
   cases hsv with
   |nil=>exact .inl ⟨_,_,rfl,rfl⟩
   |sl a1 a2 a3 a4 a5=>exact .inl ⟨_,_,rfl,rfl⟩
  |cons x r=>
   cases hsv with
   |sl a1 a2 a3 a4 a5=>
    have e:=zgO a1;refine .inr ⟨_,_,_,rfl,hlt (hw.holds _ _ _ (a3 0 (.int .i64 x) (by rw[e];rfl))),fun j hj=>?_⟩;refine hw.holds _ _ _ (a3 j _ ?_);rw[e,List.getElem?_map,List.getElem?_eq_getElem hj];rfl
 refine .inl ⟨Tryz.call226 _ _,?_⟩;refine (zqk b o sv l (by simp only[maxLen];omega) (by omega) w (hlt hc0) hc0 hIn).mono ?_;rintro e w' ⟨v,rfl,hrow,_,hB⟩;obtain⟨lc,hv,hown,hbk⟩:∃lc:Loc,v=.slice lc.base l.length lc.cap∧OwnAt K (upd ρ1 207 lc) (shape (addS ([]::O) [(207,zb6 l)])) w' lc (zb6 l)∧(zaD lc (zb6 l)→w.heap.size≤lc.block):=by
  rcases hrow.2 with ⟨rfl,h0⟩|⟨g,cap,cur,rfl,hg,hgb,h1,h2,h3,h4⟩
  ·have hl0:l=[]:=List.eq_nil_of_length_eq_zero h0;subst hl0;exact⟨⟨0,0,none⟩,rfl,⟨by simp,rfl,Nat.le_refl _,Nat.zero_le _,.inl ⟨rfl,rfl⟩⟩,fun h=>absurd rfl h⟩
  ·refine⟨⟨g,cap,some ⟨g,0,none⟩⟩,rfl,⟨fun d hd=>by obtain⟨x,_,rfl⟩:=List.mem_map.1 hd;rfl,by simp,h1,h2,.inr ⟨rfl,cur,hgb,h3,?_,fun _ o=>hw.K_fresh hg,fun o _=>hw.K_fresh hg,fun h=>by cases h⟩⟩,fun _=>hg⟩;rw[h4];exact zg8 l
 have hgrow:Grow K ρ1 ([]::O) w [(207,zb6 l)] K (upd ρ1 207 lc) w':=by
  refine⟨K.le_refl,fun _ _ _ h=>.inl h,hB.size,fun k hk=>hB.block k hk,⟨hB.tape,hB.os,hB.output⟩,?_,?_,?_,?_⟩
  ·intro dep nm h;refine zaO _ _ _ ?_;rcases h with h|h
   ·exact .inl h
   ·refine .inr fun e=>?_;subst e;simp[zac] at h
  ·intro b o x h;have h1:=hw.holds _ _ _ h;rw[World.cell?,hB.block _ (hlt h1)];exact h1
  ·intro nm ob h;rw[zac] at h
   split at h
   ·rename_i e;subst e
    cases h
    rw[zaV];exact⟨hown,hbk⟩
   ·simp[look] at h
  ·intro nm ob nm' ob' h h' _ _ _;rw[zac] at h h'
   split at h
   ·split at h'
    ·rename_i e1 e2;rw[←e1,←e2]
    ·simp[look] at h'
   ·simp[look] at h
 obtain⟨hI2,hst⟩:=HInv.grow (S:=[]::O) rfl hI (fun _ _ _ e=>e) (fun _ h=>by simp[look]) hgrow;refine⟨_,rfl,K,upd ρ1 207 lc,hI2,?_⟩;rw[hv];have:=RepD.osl (K:=K) (ρ:=upd ρ1 207 lc) (sh:=shape ([(207,zb6 l)]::O)) (dep:=0) (nm:=207) (es:=1) (len:=l.length) (by simp[shape,zab,zac,Ob.sh]);rwa [zaV] at this
theorem zqe (O:List Heap) (l:List Int) (hl:l.length≤1000000):zao Tryz.prog 171 [.fn (.func 173) [] [.i (.ptr 1 [[zdj l]] 0 0)]] O (.osl 0 207) [(207,zb6 l)] O:=by
 have h:=fun O=>zkK O l hl;refine zaa Tk Tryz.func171 rfl Tryz.call171 Tryz.ntmps171 (Nat.le_of_ble_eq_true rfl) fun E=>?_;refine zai Tk Tryz.func171 ?_;refine zaj Tk Tryz.func171 (h _) rfl rfl rfl rfl rfl ?_;exact⟨zaG (hT:=Tk) (r:=.osl 0 207) rfl rfl rfl ⟨⟨_,rfl,rfl⟩,trivial⟩ (zgJ _ _ _) rfl rfl⟩
theorem zrm (O:List Heap) (l:List Int) (hl:l.length≤1000000):zao Tryz.prog 132 [.fn (.func 173) [] [.i (.ptr 1 [[zdj l]] 0 0)]] O (ints (zdn l)) [] O:=by
 have h:=fun O=>zqe O l hl;refine za2 [2] Tk Tryz.func132 rfl Tryz.call132 Tryz.ntmps132 (Nat.le_of_ble_eq_true rfl) fun E=>?_;refine zai Tk Tryz.func132 ?_;refine zaj Tk Tryz.func132 (h _) rfl rfl rfl rfl rfl ?_;refine zau ?_
 by_cases h0:l=[]
 ·subst h0;have h2:=fun O=>zwQ O;refine zas (zap 207 rfl rfl) ?_;refine zai Tk Tryz.func132 ?_;refine g_go Tk Tryz.func132 ?_;refine zaj Tk Tryz.func132 (h2 _) rfl rfl rfl rfl rfl ?_;refine zae Tk (r:=ints []) rfl rfl rfl trivial rfl rfl ?_;rw[show zdn []=[] from List.eq_nil_of_length_eq_zero (by rw[zgD];rfl)]
 ·have h2:=fun O d ho=>zys O d 207 l (List.length_pos_iff.2 h0) (by omega) ho;refine zai Tk Tryz.func132 ?_;refine g_go Tk Tryz.func132 ?_;refine zaj Tk Tryz.func132 (h2 _ 0 rfl) rfl rfl rfl (za6 (ob:=zb6 l) rfl (by simp[Ob.sh,zgD])) rfl ?_;refine za9 (zap 207 rfl rfl) ?_;refine zae Tk (r:=ints (zdn l)) rfl rfl rfl trivial rfl rfl ?_;rfl
theorem zuF {K:Kn} {v:Value} {es n:Nat} {xs:List (List I)} (h:Rep K v (.sl es n xs)):∃a len cap,v=.slice a len cap:=by
 cases h with
 |nil=>exact⟨_,_,_,rfl⟩
 |sl=>exact⟨_,_,_,rfl⟩
theorem zq5 (O:List Heap) (l:List Int):zao Tryz.prog 133 [ints l] O (.fn (.func 173) [] [.i (.ptr 1 [[zdj l]] 0 0)]) [] O:=by
 intro E K ρ w vs hw hrep;obtain⟨sv,rfl,hsv⟩:∃sv,vs=[sv]∧Rep K sv (zdj l):=by
  cases hrep with
  |cons r rs=>
   cases rs
   cases r with
   |i r=>exact⟨_,rfl,r⟩
 obtain⟨a,len,cap,rfl⟩:∃a len cap,sv=.slice a len cap:=zuF hsv;refine .inl ⟨Tryz.call133 _ _,(zwD a len cap w).mono ?_⟩;rintro e w' ⟨rfl,rfl⟩;obtain⟨ρ1,hρ1,hI⟩:=zdk hw;obtain⟨K',hg,hr⟩:=zkh hI (cs:=#[.slice a len cap]) (es:=1) (n:=1) (xs:=[[zdj l]]) (ty:=55) (by simp) rfl (.cons hsv .nil);obtain⟨hI2,hst⟩:=HInv.grow (S:=[]::O) rfl hI (fun _ _ _ e=>e) (fun _ h=>by simp[look] at h) hg;refine⟨_,rfl,K',ρ1,hI2,.fn (first:=[]) .nil (.cons (.i ?_) .nil)⟩
 cases hr with
 |sl a1 a2 a3 a4 a5=>
  have:=Rep.ptr (i:=0) (off:=0) a1 a2 a3;simpa using this
theorem zq3 {c:Cx} {s:St} (t k:Nat) (h:look s.σ t=some (.i (.v (.func (.func k) #[] #[])))):Wk c s {σ:=(t,.fn (.func k) [] [])::s.σ,S:=s.S,n:=s.n}:=by
 have h2:s.get t=.i (.v (.func (.func k) #[] #[])):=by unfold St.get;rw[h]
 exact zzm t (s:=s) (c:=c) (d:=.fn (.func k) [] []) (by rw[h2];exact zxY)
theorem zbW {α:Type} {nm:α→ByteArray} {err:α→Int}:∀{l:List α} {b:List ByteArray} {i j:Nat} {e:Int},zbt nm err b l i=some (j,e)→e≠0
 |[],_,_,_,_,h=>by simp[zbt] at h
 |x::r,b,i,j,e,h=>by
  simp only[zbt] at h
  by_cases h1:nmE b (nm x)≠0
  ·rw[if_pos h1] at h;simp only[Option.some.injEq,Prod.mk.injEq] at h;rw[←h.2];exact h1
  ·rw[if_neg h1] at h
   by_cases h2:err x≠0
   ·rw[if_pos h2] at h;simp only[Option.some.injEq,Prod.mk.injEq] at h;rw[←h.2];exact h2
   ·rw[if_neg h2] at h;exact zbW h
theorem zeg {α:Type} {nm:α→ByteArray} {err:α→Int}:∀{l:List α} {b:List ByteArray} {i:Nat},zbt nm err b l i=none→∀x∈l,err x=0
 |[],_,_,_,x,hx=>by simp at hx
 |y::r,b,i,h,x,hx=>by
  simp only[zbt] at h
  by_cases h1:nmE b (nm y)≠0
  ·rw[if_pos h1] at h;cases h
  ·rw[if_neg h1] at h
   by_cases h2:err y≠0
   ·rw[if_pos h2] at h;cases h
   ·rw[if_neg h2] at h;rcases List.mem_cons.1 hx with rfl|hx
    ·exact Classical.byContradiction h2
    ·exact zeg h x hx
theorem zrI {k:Int} {o:Option (Nat×Int)} (h:∀j e,o=some (j,e)→e≠0) (z:Plc×Int):plc k o z id=if (plc k o ((0,0),0) id:Plc×Int).2≠0 then plc k o ((0,0),0) id else z:=by
 cases o with
 |none=>rfl
 |some x=>
  obtain⟨j,e⟩:=x;have:=h j e rfl;rw[if_pos (show (plc k (some (j,e)) ((0,0),0) id:Plc×Int).2≠0 from this)];rfl
theorem zr3 (m:Mdl):mdlE m=if za0 m.name=false then ((0,0),7) else plc 1 (evsP [] m.evs 0) (if (chkT m).2≠0 then chkT m else if (chkI m).2≠0 then chkI m else chkC m) id:=by
 unfold mdlE;congr 1;congr 1;unfold chkT
 by_cases h1:m.tpls.length>16
 ·rw[if_pos h1,if_pos h1];rfl
 rw[if_neg h1,if_neg h1,zrI (fun _ _ h=>zbW h)];congr 1;unfold chkI
 by_cases h2:m.comps.length=0
 ·rw[if_pos h2,if_pos h2];rfl
 rw[if_neg h2,if_neg h2]
 by_cases h3:m.comps.length>8
 ·rw[if_pos h3,if_pos h3];rfl
 rw[if_neg h3,if_neg h3]
 by_cases h4:m.comps.length+m.reqs.length>12
 ·rw[if_pos h4,if_pos h4];rfl
 rw[if_neg h4,if_neg h4];have e:(if m.excs.length>32 then (((5,32),3):Plc×Int) else plc 5 (zbt NEx.name (excE m) [] m.excs 0) (if m.cons.length>32 then ((6,32),3) else plc 6 (zbt NCn.name (conE m) [] m.cons 0) ((0,0),0) id) id)=chkC m:=rfl;rw[e];generalize hq:zbt Ins.name (insE m) [] m.comps 0=o3;generalize hr:zbt Ins.name (reqE m) (m.comps.map (·.name)) m.reqs 0=o4
 cases o3 with
 |some x=>
  obtain⟨j,e⟩:=x;have:=zbW hq;rw[if_pos (show (plc 3 (some (j,e)) (plc 4 o4 ((0,0),0) id) id:Plc×Int).2≠0 from this)];rfl
 |none=>
  have e3:∀z:Plc×Int,plc 3 none z id=z:=fun z=>rfl;simp only[e3];exact zrI (fun _ _ h=>zbW (hr.trans h)) _
theorem zs9 {m:Mdl} (h:(chkI m).2=0):∀c∈m.comps,insE m c=0:=by
 unfold chkI at h
 by_cases h2:m.comps.length=0
 ·rw[if_pos h2] at h;simp at h
 rw[if_neg h2] at h
 by_cases h3:m.comps.length>8
 ·rw[if_pos h3] at h;simp at h
 rw[if_neg h3] at h
 by_cases h4:m.comps.length+m.reqs.length>12
 ·rw[if_pos h4] at h;simp at h
 rw[if_neg h4] at h;generalize hq:zbt Ins.name (insE m) [] m.comps 0=o3 at h
 cases o3 with
 |some x=>
  obtain⟨j,e⟩:=x;exact absurd h (zbW hq)
 |none=>exact zeg hq
theorem znF {m:Mdl} {x:Ins} (h:insE m x=0):∃t,zc5 m x=some t∧t∈m.tpls∧x.evs.length=t.evs.length∧zha m [] x.evs=0:=by
 unfold insE at h;unfold zc5
 cases ht:m.tpls.find? (fun t=>sB t.name x.tpl) with
 |none=>rw[ht] at h;cases h
 |some t=>
  rw[ht] at h;simp only at h
  by_cases h1:x.evs.length≠t.evs.length
  ·rw[if_pos h1] at h;cases h
  ·rw[if_neg h1] at h;exact⟨t,rfl,List.mem_of_find?_eq_some ht,Classical.byContradiction h1,h⟩
theorem zfT {k:Int} {o:Option (Nat×Int)} (h:∀j e,o=some (j,e)→e≠0) {z:Plc×Int} (h2:(plc k o z id:Plc×Int).2=0):o=none∧(plc k o z id:Plc×Int)=z:=by
 cases o with
 |none=>exact⟨rfl,rfl⟩
 |some x=>obtain⟨j,e⟩:=x;exact absurd h2 (h j e rfl)
theorem zta {m:Mdl} (h:(chkC m).2=0):chkC m=((0,0),0):=by
 unfold chkC at h ⊢
 by_cases h2:m.excs.length>32
 ·rw[if_pos h2] at h;simp at h
 rw[if_neg h2] at h ⊢;obtain⟨h4,h5⟩:=zfT (fun _ _ h=>zbW h) h;rw[h5] at h ⊢
 by_cases h3:m.cons.length>32
 ·rw[if_pos h3] at h;simp at h
 rw[if_neg h3] at h ⊢;exact (zfT (fun _ _ h=>zbW h) h).2
abbrev fns3:D:=.i (.sl 1 3 [[.v (.func (.func 47) #[] #[])],[.v (.func (.func 48) #[] #[])],[.v (.func (.func 49) #[] #[])]])
theorem zub (O:List Heap) (m:Mdl) (hm:mdlOk m):zao Tryz.prog 14 [mdlD m] O (plcD (mdlE m)) [] O:=by
 have h0:=fun O=>ze7 O m.name hm.nm;have h47:=fun O=>zf8 O m hm;have h48:=fun O=>zga O m hm;have h49:(chkI m).2=0→∀O,zao Tryz.prog 49 [mdlD m] O (plcD (chkC m)) [] O:=fun h O=>zfL O m hm fun c hc=>by
  obtain⟨t,h1,h2,_⟩:=znF (zs9 h c hc);exact⟨t,h1,(hm.tpk t h2).ll⟩
 have hC0:=fun h=>zta (m:=m) h;have hev:=hm.ev;have hen:=hm.evn;rw[zr3];generalize chkT m=cT at *;generalize chkI m=cI at *;generalize chkC m=cC at *;generalize hV:(if cT.2≠0 then cT else if cI.2≠0 then cI else cC)=V;obtain⟨nm,l,tpls,comps,reqs,excs,cons⟩:=m;simp only at h0 hev hen ⊢;generalize za0 nm=nb at *;generalize hR:evsP [] l 0=R;refine za2 [13] Tk Tryz.func14 rfl Tryz.call14 Tryz.ntmps14 (Nat.le_of_ble_eq_true rfl) fun E=>?_;refine zai Tk Tryz.func14 ?_;refine zaj Tk Tryz.func14 (h0 _) rfl rfl rfl rfl rfl ?_;refine zad Tk Tryz.func14 rfl (fun c1=>?_) (fun c1=>?_)
 ·have c1:nb=false:=by simpa using c1
  rw[if_pos c1];refine zae Tk (r:=plcD ((0,0),7)) rfl rfl rfl trivial rfl rfl ?_;rfl
 have c1:¬nb=false:=by simpa using c1
 rw[if_neg c1];refine zah ?_;refine zal (fun i:Nat=>[(1,.own 0 1 0 0),(2,.own 0 2 0 0),(16,.i (zbc l)),(17,ii l.length),(18,ii i)]) (fun i=>[(1,.box (mdlC ⟨nm,l,tpls,comps,reqs,excs,cons⟩)),(2,plcN)]) (fun _=>O) 51
  (fun i=>i≤l.length∧evsP (l.take i) (l.drop i) i=R) (fun i=>l.length-i) 0 ⟨Nat.zero_le _,hR⟩ ⟨rfl,rfl,rfl,rfl,rfl,trivial⟩ rfl ⟨rfl,rfl,trivial⟩ rfl rfl ?_
 clear hR;rintro i ⟨hi,hno⟩ ih;refine zai Tk Tryz.func14 ?_;refine zad Tk Tryz.func14 rfl (fun g1=>?_) (fun g1=>?_)
 ·have g1:i<l.length:=by simpa using g1
  have hw:IntKind.i64.wrap ((i:Int)+1)=((i+1:Nat):Int):=zaE (n:=1000001) (by omega) (by decide);have ht:l.take (i+1)=l.take i++[l[i]]:=List.take_succ_eq_append_getElem g1;have hA:∀O,zao Tryz.prog 46 [.i (.sl 5 (IntKind.i64.wrap ((i:Int)+1)).toNat ((l.map evtI).take (IntKind.i64.wrap ((i:Int)+1)).toNat))] O (ii (zlP (l.take (i+1)))) [] O:=fun O=>by
   rw[hw,Int.toNat_natCast,←zgy evtI 5 g1];exact zyf O (l.take (i+1)) (by rw[List.length_take];omega) fun x hx=>hen x (List.mem_of_mem_take hx)
  rw[List.drop_eq_getElem_cons g1] at hno;simp only[evsP,←ht] at hno;generalize zlP (l.take (i+1))=e1 at *;refine zaf Tk Tryz.func14 (by exact⟨by rw[hw];omega,by rw[hw];show ((i+1:Nat):Int)≤(l.length:Int);omega⟩) ?_;refine zaj Tk Tryz.func14 (hA _) rfl rfl rfl rfl rfl ?_;refine zad Tk Tryz.func14 rfl (fun c2=>?_) (fun c2=>?_)
  ·have c2:e1≠0:=bneT c2;rw[if_pos c2] at hno;subst hno;refine zae Tk (r:=plcD ((1,i),e1)) rfl rfl rfl trivial rfl rfl ?_;rfl
  have c2:¬e1≠0:=fun h=>h (bneF c2);rw[if_neg c2] at hno;refine zah ?_;exact ih (i+1) _ _ ⟨g1,hno⟩ (by omega) ⟨rfl,rfl,rfl,rfl,congrArg ii hw,trivial⟩ rfl ⟨rfl,rfl,trivial⟩ rfl rfl
 have g1:l.length≤i:=by simpa using g1
 rw[List.drop_eq_nil_of_le g1] at hno;have hno:none=R:=hno;subst hno;have e0:plc 1 none V id=V:=rfl;rw[e0];clear e0 ih;obtain⟨⟨t1,t2⟩,t3⟩:=cT;obtain⟨⟨i1,i2⟩,i3⟩:=cI;obtain⟨⟨k1,k2⟩,k3⟩:=cC;simp only at h47 h48 h49 hV hC0;refine zah ?_;refine zai Tk Tryz.func14 ?_;refine gcT Tk Tryz.func14 rfl ?_;refine zaf Tk Tryz.func14 (by decide) ?_;refine zaq Tk Tryz.func14 (rfl) ?_;refine zau ?_;refine zas (zq3 7 47 rfl) ?_;refine zai Tk Tryz.func14 ?_;refine g_go Tk Tryz.func14 ?_;refine zaj Tk Tryz.func14 (h47 _) rfl rfl rfl rfl rfl ?_;refine zad Tk Tryz.func14 rfl (fun c3=>?_) (fun c3=>?_)
 ·have c3:t3≠0:=bneT c3;rw[if_pos c3] at hV;subst hV;refine zae Tk (r:=plcD ((t1,t2),t3)) rfl rfl rfl trivial rfl rfl ?_;rfl
 have c3:¬t3≠0:=fun h=>h (bneF c3);rw[if_neg c3] at hV;refine zah ?_;refine zas (zbp (l:=[(1,.own 0 1 0 0),(2,.own 0 2 0 0),(33,fns3),(34,ii 3),(35,ii 1)]) (Hv:=[(1,.box (mdlC ⟨nm,l,tpls,comps,reqs,excs,cons⟩)),(2,plcN)]) ⟨rfl,rfl,rfl,rfl,rfl,trivial⟩ rfl ⟨rfl,rfl,trivial⟩ rfl rfl) ?_;refine zai Tk Tryz.func14 ?_;refine gcT Tk Tryz.func14 rfl ?_;refine zaf Tk Tryz.func14 (by decide) ?_;refine zaq Tk Tryz.func14 (rfl) ?_;refine zau ?_;refine zas (zq3 7 48 rfl) ?_;refine zai Tk Tryz.func14 ?_;refine g_go Tk Tryz.func14 ?_;refine zaj Tk Tryz.func14 (h48 _) rfl rfl rfl rfl rfl ?_;refine zad Tk Tryz.func14 rfl (fun c4=>?_) (fun c4=>?_)
 ·have c4:i3≠0:=bneT c4;rw[if_pos c4] at hV;subst hV;refine zae Tk (r:=plcD ((i1,i2),i3)) rfl rfl rfl trivial rfl rfl ?_;rfl
 have c4:i3=0:=bneF c4;rw[if_neg (fun h=>h c4)] at hV;subst hV;refine zah ?_;refine zas (zbp (l:=[(1,.own 0 1 0 0),(2,.own 0 2 0 0),(33,fns3),(34,ii 3),(35,ii 2)]) (Hv:=[(1,.box (mdlC ⟨nm,l,tpls,comps,reqs,excs,cons⟩)),(2,plcN)]) ⟨rfl,rfl,rfl,rfl,rfl,trivial⟩ rfl ⟨rfl,rfl,trivial⟩ rfl rfl) ?_;refine zai Tk Tryz.func14 ?_;refine gcT Tk Tryz.func14 rfl ?_;refine zaf Tk Tryz.func14 (by decide) ?_;refine zaq Tk Tryz.func14 (rfl) ?_;refine zau ?_;refine zas (zq3 7 49 rfl) ?_;refine zai Tk Tryz.func14 ?_;refine g_go Tk Tryz.func14 ?_;refine zaj Tk Tryz.func14 (h49 c4 _) rfl rfl rfl rfl rfl ?_;refine zad Tk Tryz.func14 rfl (fun c5=>?_) (fun c5=>?_)
 ·refine zae Tk (r:=plcD ((k1,k2),k3)) rfl rfl rfl trivial rfl rfl ?_;rfl
 have c5:k3=0:=bneF c5;refine zah ?_;refine zas (zbp (l:=[(1,.own 0 1 0 0),(2,.own 0 2 0 0),(33,fns3),(34,ii 3),(35,ii 3)]) (Hv:=[(1,.box (mdlC ⟨nm,l,tpls,comps,reqs,excs,cons⟩)),(2,plcN)]) ⟨rfl,rfl,rfl,rfl,rfl,trivial⟩ rfl ⟨rfl,rfl,trivial⟩ rfl rfl) ?_;refine zai Tk Tryz.func14 ?_;refine gcF Tk Tryz.func14 rfl ?_;obtain⟨⟨rfl,rfl⟩,rfl⟩:(k1=0∧k2=0)∧k3=0:=by simpa using hC0 c5
 refine zae Tk (r:=plcD ((0,0),0)) rfl rfl rfl trivial rfl rfl ?_;rfl
theorem zjx {x:Ex} {n k:Int} (h:zbo x n k=0):wfE n x:=by
 unfold zbo at h
 by_cases h1:(zcd x n).2=0∧(zcd x n).1≠k
 ·rw[if_pos h1] at h;cases h
 ·rw[if_neg h1] at h;exact zgj x n 1 0 (zkF h).1
theorem zgu {n:Int}:∀{l:List Upd} {p:Int},p<n→zcV n (some p) l=0→(l.length:Int)≤n-1-p∧∀u∈l,zbo u.x n 1=0
 |[],p,hp,_=>⟨by simp;omega,by simp⟩
 |u::r,p,hp,h=>by
  simp only[zcV] at h
  by_cases h1:u.v<0∨u.v≥n
  ·rw[if_pos h1] at h;cases h
  rw[if_neg h1] at h
  by_cases h2:(some p).any (fun x=>decide (u.v≤x))=true
  ·rw[if_pos h2] at h;cases h
  rw[if_neg h2] at h
  by_cases h3:zbo u.x n 1≠0
  ·rw[if_pos h3] at h;exact absurd h h3
  rw[if_neg h3] at h;have h2:¬u.v≤p:=by simpa using h2
  obtain⟨h4,h5⟩:=zgu (by omega) h;refine⟨by rw[List.length_cons];omega,fun x hx=>?_⟩;rcases List.mem_cons.1 hx with rfl|hx
  ·exact Classical.byContradiction h3
  ·exact h5 x hx
theorem zpm {n:Int} (hn:0≤n) {l:List Upd} (h:zcV n none l=0):(l.length:Int)≤n∧∀u∈l,zbo u.x n 1=0:=by
 cases l with
 |nil=>exact⟨by simpa using hn,by simp⟩
 |cons u r=>
  simp only[zcV] at h
  by_cases h1:u.v<0∨u.v≥n
  ·rw[if_pos h1] at h;cases h
  rw[if_neg h1] at h;rw[if_neg (by simp)] at h
  by_cases h3:zbo u.x n 1≠0
  ·rw[if_pos h3] at h;exact absurd h h3
  rw[if_neg h3] at h;obtain⟨h4,h5⟩:=zgu (by omega) h;refine⟨by rw[List.length_cons];omega,fun x hx=>?_⟩;rcases List.mem_cons.1 hx with rfl|hx
  ·exact Classical.byContradiction h3
  ·exact h5 x hx
abbrev zrN (l:List Upd):Ob:=.arr 189 5 l.length (l.map updI) true
abbrev zpg:List D:=[.i (.v (.slice none 0 0)),ii 0,ii 0,.i (.v (.slice none 0 0)),.i (.v (.slice none 0 0)),.i (.v (.slice none 0 0))]
structure mchOk (m:Mdl) (x:Ins) (t:Tpl):Prop where
 tp:zc5 m x=some t
 mem:t∈m.tpls
 right:extRight t.mach
 len:x.evs.length=t.evs.length
 alpha:t.mach.alpha=(List.range t.evs.length).map (fun k=>((k:Nat):Int))
 mvl:t.mach.moves.length≤19
abbrev evI (m:Mdl) (x:Ins):List Int:=x.evs.map fun s=>fndI (m.evs.map (·.name)) s
def mvEv (evs:List Int) (y:Mv):Mv:={ y with ev:=evs.getD y.ev.toNat 0}
theorem zj0 (O:List Heap) (m:Mdl) (x:Ins) (t:Tpl) (hm:mdlOk m) (hx:x.evs.length≤1000000) (h:mchOk m x t):zao Tryz.prog 55 [mdlD m,insD x] O (extD (mchE m x t)) [] O:=by
 have hf:=fun O=>zer O m 2 x.tpl hm.toszOk;rw[show namK m 2=m.tpls.map (·.name) from rfl] at hf;have hf1:=fun O s=>zer O m 1 s hm.toszOk;rw[show namK m 1=m.evs.map (·.name) from rfl] at hf1;have htp:=h.tp;unfold zc5 at htp;rcases zfX Tpl.name m.tpls x.tpl with ⟨h1,_⟩|⟨k,t',h1,h2,h3⟩
 ·rw[h1] at htp;cases htp
 rw[h2] at htp
 cases htp
 rw[h3,zfe] at hf;clear h2 h3;have hkl:k<m.tpls.length:=(List.getElem?_eq_some_iff.1 h1).1;have gt:(m.tpls.map tplI)[(k:Int).toNat]? = some (tplI t):=by rw[Int.toNat_natCast,List.getElem?_map,h1];rfl
 clear h1;have hok:=(hm.tpk t h.mem).mo;have hr:=h.right;have hvl:t.mach.vars.length≤16:=by
  have:=hr.vars;unfold zbB at this
  by_cases hc:t.mach.vars.length>16
  ·rw[if_pos hc] at this;cases this
  ·omega
 have hmk:t.mach.marked.length≤1000:=by
  have:=zfn (n:=t.mach.locs) (by have:=hr.locs;omega) hr.marked;have:=hr.locs;omega
 have hmvl:=h.mvl;have hevb:∀y∈t.mach.moves,0≤y.ev∧y.ev<(x.evs.length:Int):=by
  intro y hy;have:=(hr.mv y hy).ev;rw[h.alpha] at this;simp only[List.mem_map,List.mem_range] at this;obtain⟨j,hj,e⟩:=this;rw[h.len];omega
 have hcl:∀y∈t.mach.moves,(∀O,zao Tryz.prog 134 [exA y.g] O (exA y.g) [] O)∧y.us.length≤1000∧∀u∈y.us,∀O,zao Tryz.prog 134 [exA u.x] O (exA u.x) [] O:=by
  intro y hy;have hy:=hr.mv y hy;obtain⟨h4,h5⟩:=zpm (by omega) hy.us;exact⟨fun O=>zkB _ y.g (Nat.lt_succ_self _) (zjx hy.g) O,by omega,fun u hu O=>zkB _ u.x (Nat.lt_succ_self _) (zjx (h5 u hu)) O⟩
 have h86:=fun O=>znY O t.mach.marked (by simp only[big];omega);have h131:=fun O=>zvS O t.mach.vars (by omega);have h135:=fun O d nm l hl ho=>zwS O d nm l hl ho;clear hok hr h;have hxe:∀s,fndI (m.evs.map (·.name)) s=fnd0 (nmIx (m.evs.map (·.name)) s):=fun s=>rfl;generalize hR:mchE m x t=R;unfold mchE at hR;simp only[zwP] at hR;change (⟨zdn (evI m x),t.mach.locs,t.mach.init,t.mach.marked,t.mach.vars,zdG (t.mach.moves.map (mvEv (evI m x)))⟩:Ext)=R at hR;obtain⟨tn,tl,te,⟨al,lo,ini,mk,vr,mo⟩⟩:=t;simp only at gt hvl hmk hmvl hevb hcl h86 h131 hR;refine za2 [200062,21] Tk Tryz.func55 rfl Tryz.call55 Tryz.ntmps55 (Nat.le_of_ble_eq_true rfl) fun E=>?_;refine zai Tk Tryz.func55 ?_;refine zaj Tk Tryz.func55 (hf _) rfl rfl rfl rfl rfl ?_;refine zaf Tk Tryz.func55 (by exact⟨by omega,by show (k:Int)<(m.tpls.length:Int);omega⟩) ?_;refine zaq Tk Tryz.func55 (gt) ?_
 refine zat Tk Tryz.func55 zaA rfl ?_;refine zaT Tk (fun _=>h86 _) rfl rfl rfl ?_;refine zaT Tk (fun _=>h131 _) rfl rfl rfl ?_;refine zct Tk rfl rfl rfl ?_;refine zaC Tk Tryz.func55 (by kernel_rfl) ?_;refine g_wk (zcp 9 59 3 1 rfl rfl rfl) ?_;refine zah ?_;refine zal (fun i:Nat=>[(2,.own 0 2 0 0),(4,.own 0 4 0 0),(7,.own 0 7 0 0),(8,.own 0 8 0 0),(9,.osl 0 59),(44,ssD x.evs),(45,ii x.evs.length),(46,ii i)])
  (fun i=>[(2,.box (mdlC m)),(4,.box zpg),(7,.box (extC ⟨al,lo,ini,mk,vr,mo⟩)),(8,.box [.i (.v (.slice none 0 0)),ii lo,ii ini,ints mk,vrs vr,.i (.v (.slice none 0 0))]),(59,zb6 ((evI m x).take i))]) (fun _=>O) 115
  (fun i=>i≤x.evs.length) (fun i=>x.evs.length-i) 0 (Nat.zero_le _) ⟨rfl,rfl,rfl,rfl,rfl,rfl,rfl,rfl,trivial⟩ rfl ⟨rfl,rfl,rfl,rfl,rfl,trivial⟩ rfl rfl ?_
 intro i hi ih;have hi:i≤x.evs.length:=hi;have hel:(evI m x).length=x.evs.length:=by simp[evI]
 refine zai Tk Tryz.func55 ?_;refine zad Tk Tryz.func55 rfl (fun g1=>?_) (fun g1=>?_)
 ·have g1:i<x.evs.length:=by simpa using g1
  have gs:(x.evs.map fun s=>[strI s])[(i:Int).toNat]? = some [strI x.evs[i]]:=zak (f:=fun s=>[strI s]) g1;have ht:(evI m x).take (i+1)=(evI m x).take i++[fnd0 (nmIx (m.evs.map (·.name)) x.evs[i])]:=by
   rw[List.take_succ_eq_append_getElem (by rw[hel];exact g1)];simp[evI,hxe]
  have hl:((evI m x).take i).length=i:=by rw[List.length_take,hel];omega
  have hf2:=fun O=>hf1 O x.evs[i];generalize (evI m x).take i=L at *;generalize nmIx (m.evs.map (·.name)) x.evs[i]=q at *;generalize x.evs[i]=s at *;refine zaf Tk Tryz.func55 (by exact⟨by omega,by show (i:Int)<(x.evs.length:Int);omega⟩) ?_;refine zaq Tk Tryz.func55 (gs) ?_;refine zaj Tk Tryz.func55 (hf2 _) rfl rfl rfl rfl rfl ?_;refine zaf Tk Tryz.func55 (by exact⟨by show (L.length+1)*8≤140737488355328;omega,by show L.length+1≤9223372036854775807;omega⟩) ?_;refine zah ?_;refine ih (i+1) _ _ g1 (by omega) ⟨rfl,rfl,rfl,rfl,rfl,rfl,rfl,congrArg ii (zaE (n:=1000001) (by omega) (by decide)),trivial⟩ rfl ⟨rfl,rfl,rfl,rfl,?_,trivial⟩ rfl rfl;rw[ht];exact congrArg some (zcL L _)
 have g1:x.evs.length≤i:=by simpa using g1
 rw[List.take_of_length_le (by rw[hel];exact g1)];clear ih g1 hi;rw[←hel] at hevb hx;generalize evI m x=evs at *;have h133:=fun O=>zq5 O evs;have h132:=fun O=>zrm O evs hx;generalize zdn evs=sal at *;refine zcM Tk Tryz.func55 rfl rfl (zap 59 rfl rfl) ?_;refine zaj Tk Tryz.func55 (h133 _) rfl rfl rfl rfl rfl ?_;refine zaj Tk Tryz.func55 (h132 _) rfl rfl rfl rfl rfl ?_;refine g_wk (zaJ 8 108 187 8 (pre:=[ints sal,ii lo,ii ini,ints mk,vrs vr]) (post:=[]) rfl rfl rfl) ?_;refine zah ?_;refine zal (fun i:Nat=>[(4,.own 0 4 0 0),(8,.own 0 8 0 0),(9,ints evs),(66,mvs mo),(67,ii mo.length),(68,ii i)])
  (fun i=>[(4,.box zpg),(8,.box [ints sal,ii lo,ii ini,ints mk,vrs vr,.osl 0 108]),(108,zds ((mo.take i).map (mvEv evs)))]) (fun _=>O) 115
  (fun i=>i≤mo.length) (fun i=>mo.length-i) 0 (Nat.zero_le _) ⟨rfl,rfl,rfl,rfl,rfl,rfl,trivial⟩ rfl ⟨rfl,rfl,rfl,trivial⟩ rfl rfl ?_
 intro i hi ih;have hi:i≤mo.length:=hi;refine zai Tk Tryz.func55 ?_;refine zad Tk Tryz.func55 rfl (fun g1=>?_) (fun g1=>?_)
 ·have g1:i<mo.length:=by simpa using g1
  have gs:(mo.map mvI)[(i:Int).toNat]? = some (mvI mo[i]):=zak (f:=mvI) g1;have ht:=zbl (mvEv evs) g1;have hl:((mo.take i).map (mvEv evs)).length=i:=by rw[List.length_map,List.length_take];omega
  have he:=hevb mo[i] (List.getElem_mem g1);obtain⟨hcg,hul,hcu⟩:=hcl mo[i] (List.getElem_mem g1);have hj1:ii (IntKind.i64.wrap ((i:Int)+1))=ii ((i+1:Nat):Int):=congrArg ii (zaE (n:=1000001) (by omega) (by decide));clear hevb hcl;generalize (mo.take i).map (mvEv evs)=L at *;generalize mo[i]=y at *;obtain⟨yf,ye,yt,yg,us⟩:=y;simp only at he hcg hul hcu;have hy:mvEv evs ⟨yf,ye,yt,yg,us⟩=⟨yf,evs.getD ye.toNat 0,yt,yg,us⟩:=rfl;rw[hy] at ht;clear hy;have ge:(evs.map fun x=>[vi x])[ye.toNat]? = some [vi (evs.getD ye.toNat 0)]:=by
   rw[List.getElem?_map,List.getD_eq_getElem?_getD,List.getElem?_eq_getElem (by omega)];rfl
  generalize evs.getD ye.toNat 0=ev' at *;obtain⟨go,gv,gi,ga⟩:=yg;refine zaf Tk Tryz.func55 (by exact⟨by omega,by show (i:Int)<(mo.length:Int);omega⟩) ?_;refine zaq Tk Tryz.func55 (gs) ?_;refine zat Tk Tryz.func55 zaA rfl ?_;refine zar Tk (by exact⟨he.1,by show ye<(evs.length:Int);exact he.2⟩) ?_;refine zax Tk (ge) ?_;refine zaT Tk (fun _=>hcg _) rfl rfl rfl ?_;refine zct Tk rfl rfl rfl ?_;refine zaC Tk Tryz.func55 (by kernel_rfl) ?_;refine g_wk (zaJ 16 101 189 5 (pre:=[ii yf,ii ev',ii yt,ii go,ii gv,ii gi,exs ga]) (post:=[]) rfl rfl rfl) ?_;refine zah ?_;refine zal (fun j:Nat=>[(4,.own 0 4 0 0),(8,.own 0 8 0 0),(9,ints evs),(16,.own 0 16 0 0),(66,mvs mo),(67,ii mo.length),(68,ii i),(86,upds us),(87,ii us.length),(88,ii j)])
   (fun j=>[(4,.box zpg),(8,.box [ints sal,ii lo,ii ini,ints mk,vrs vr,.osl 0 108]),(108,zds L),(16,.box [ii yf,ii ev',ii yt,ii go,ii gv,ii gi,exs ga,.osl 0 101]),(101,zrN (us.take j))]) (fun _=>O) 115
   (fun j=>j≤us.length) (fun j=>us.length-j) 0 (Nat.zero_le _) ⟨rfl,rfl,rfl,rfl,rfl,rfl,rfl,rfl,rfl,rfl,trivial⟩ rfl ⟨rfl,rfl,rfl,rfl,rfl,trivial⟩ rfl rfl ?_
  intro j hj ih2;have hj:j≤us.length:=hj;refine zai Tk Tryz.func55 ?_;refine zad Tk Tryz.func55 rfl (fun g2=>?_) (fun g2=>?_)
  ·have g2:j<us.length:=by simpa using g2
   have gu:(us.map updI)[(j:Int).toNat]? = some (updI us[j]):=zak (f:=updI) g2;have htu:us.take (j+1)=us.take j++[us[j]]:=List.take_succ_eq_append_getElem g2;have hlu:(us.take j).length=j:=by rw[List.length_take];omega
   have hcu1:=hcu us[j] (List.getElem_mem g2);generalize us.take j=U at *;generalize us[j]=u at *;obtain⟨uv,⟨uo,uvl,ui,ua⟩⟩:=u;simp only at hcu1;refine zaf Tk Tryz.func55 (by exact⟨by omega,by show (j:Int)<(us.length:Int);omega⟩) ?_;refine zaq Tk Tryz.func55 (gu) ?_;refine zat Tk Tryz.func55 zaA rfl ?_;refine zaT Tk (fun _=>hcu1 _) rfl rfl rfl ?_;refine zfj Tk Tryz.func55 ([9,10,11]) (by kernel_rfl) (by kernel_rfl) ?_;refine zaf Tk Tryz.func55 (by exact⟨by show (U.length+1)*56≤140737488355328;omega,by show U.length+1≤9223372036854775807;omega⟩) ?_;refine zah ?_;refine ih2 (j+1) _ _ g2 (by omega) ⟨rfl,rfl,rfl,rfl,rfl,rfl,rfl,rfl,rfl,congrArg ii (zaE (n:=1000001) (by omega) (by decide)),trivial⟩ rfl ⟨rfl,rfl,rfl,rfl,?_,trivial⟩ rfl rfl;rw[htu]
   show some (Ob.arr 189 5 (U.length+1) (U.map updI++[updI ⟨uv,⟨uo,uvl,ui,ua⟩⟩]) true)=some (zrN (U++[⟨uv,⟨uo,uvl,ui,ua⟩⟩]));simp[zrN]
  ·have g2:us.length≤j:=by simpa using g2
   rw[List.take_of_length_le g2];refine zau ?_;refine zas (zap 101 rfl rfl) ?_;refine zas (zaR rfl) ?_;refine zai Tk Tryz.func55 ?_;refine g_go Tk Tryz.func55 ?_;refine zaf Tk Tryz.func55 (by exact⟨by show (L.length+1)*96≤140737488355328;omega,by show L.length+1≤9223372036854775807;omega⟩) ?_;refine zah ?_;refine ih (i+1) _ _ g1 (by omega) ⟨rfl,rfl,rfl,rfl,rfl,hj1,trivial⟩ rfl ⟨rfl,rfl,?_,trivial⟩ rfl rfl;rw[ht];show some (Ob.arr 187 8 (L.length+1) (L.map mvI++[mvI ⟨yf,ev',yt,⟨go,gv,gi,ga⟩,us⟩]) true)=some (zds (L++[⟨yf,ev',yt,⟨go,gv,gi,ga⟩,us⟩]));simp[zds]
 ·have g1:mo.length≤i:=by simpa using g1
  rw[List.take_of_length_le g1];have hls:(mo.map (mvEv evs)).length≤19:=by rw[List.length_map];exact hmvl
  generalize mo.map (mvEv evs)=L at *;have h135':=fun O d ho=>h135 O d 108 L hls ho;refine zaj Tk Tryz.func55 (h135' _ 0 rfl) rfl rfl rfl (za6 (ob:=zds L) rfl (by simp[Ob.sh,zeY])) rfl ?_;refine za9 (zap 108 rfl rfl) ?_;refine za9 (zaR rfl) ?_;refine zae Tk (r:=extD ⟨sal,lo,ini,mk,vr,zdG L⟩) rfl rfl rfl trivial rfl rfl ?_;exact congrArg extD hR
end Go.AI
