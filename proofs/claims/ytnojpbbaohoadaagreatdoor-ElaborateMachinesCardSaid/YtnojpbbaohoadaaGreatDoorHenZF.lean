/- The layer of abstract runs, part 32. -/
import Derived.Test.YtnojpbbaohoadaaGreatDoorHenZE
import Derived.Test.YtnojpbbaohoadaaGreatDoorRows
import Derived.KernelRfl
import Derived.JoinedOf
import Derived.SevenTiedAt
set_option linter.unusedSimpArgs false
set_option linter.unusedVariables false
set_option linter.all false

set_option maxHeartbeats 4000000
namespace Go.AI
open Go.Proofs
set_option maxRecDepth 20000
def zf6 (N evs:List ByteArray) (n:Nat):List Int:=((List.range n).filter fun e=>decide (nmIx evs (N.getD e ⟨#[]⟩) ≥ 0)).map fun e=>((e:Nat):Int)
theorem zss (N evs:List ByteArray) (n:Nat):zf6 N evs (n+1)=if nmIx evs (N.getD n ⟨#[]⟩) ≥ 0 then zf6 N evs n++[(n:Int)] else zf6 N evs n:=by
 unfold zf6
 rw[List.range_succ,List.filter_append,List.map_append]
 by_cases h:nmIx evs (N.getD n ⟨#[]⟩) ≥ 0
 ·rw[if_pos h,List.filter_cons_of_pos (by simpa using h)];rfl
 ·rw[if_neg h,List.filter_cons_of_neg (by simpa using h)];simp
theorem zst (N evs:List ByteArray) (n:Nat):(zf6 N evs n).length≤n:=by
 unfold zf6
 rw[List.length_map]
 exact Nat.le_trans (List.length_filter_le _ _) (by rw[List.length_range];exact Nat.le_refl _)
theorem zn3 {α β:Type} {f:α→List β} {k:Nat}:∀ {l:List α},(∀ x∈l,(f x).length≤k)→(l.flatMap f).length≤l.length * k
 | [],_=>by simp
 | x::r,h=>by
  have h1:=h x (by simp)
  have h2:=zn3 (l:=r) fun y hy=>h y (by simp[hy])
  rw[List.flatMap_cons,List.length_append,List.length_cons,Nat.succ_mul]
  omega
theorem zi5 (N evs:List ByteArray) (mv:List Mv) (s e:Int):(lwMv N evs mv s e).length≤mv.length:=by
 unfold lwMv
 rw[List.length_map]
 exact List.length_filter_le _ _
theorem zsq (N evs:List ByteArray) (mv:List Mv) (al:List Int) (n:Nat):zi4 N evs mv al (n+1)=zi4 N evs mv al n++al.flatMap fun e=>lwMv N evs mv (n:Int) e:=by
 unfold zi4
 rw[List.range_succ,List.flatMap_append]
 simp
theorem zvn (N evs:List ByteArray) {mv:List Mv} (s e:Int) {j:Nat} (h:j<mv.length):lwMv N evs (mv.take (j+1)) s e=lwMv N evs (mv.take j) s e++if mv[j].frm=s∧mv[j].ev=lwK N evs e then [{ mv[j] with ev:=e }] else []:=by
 rw[List.take_succ_eq_append_getElem h]
 unfold lwMv
 rw[List.filter_append,List.map_append]
 congr 1
 by_cases c:mv[j].frm=s∧mv[j].ev=lwK N evs e
 ·rw[if_pos c,List.filter_cons_of_pos (by simp[c.1,c.2])];rfl
 ·rw[if_neg c,List.filter_cons_of_neg (by simpa using c)];rfl
theorem zsa (l:List Mv) (y:Mv):Ob.arr 187 8 (l.length+1) (l.map mvI++[mvI y]) true=zcj (l++[y]):=by simp[zcj]
theorem zso (O:List Heap) (m:Mdl) (x:Ins) (t:Tpl) (hm:mdlOk m) (hx:x.evs.length≤1000000) (h:mchOk m x t):zan Tryz.prog 30 [mdlD m,insD x] O (extD (lwM m x t)) [] O:=by
 have h35:=fun O=>zdF O m x t hm.toszOk h.tp
 have h39:=fun O s=>zcc O x.evs s hx
 have hel:=hm.ev
 have hlo:=h.right.locs
 have hml:=h.mvl
 generalize hR:lwM m x t=R
 unfold lwM at hR
 have hN:(m.evs.map (·.name)).length=m.evs.length:=List.length_map _
 have hge:∀ e (he:e<m.evs.length),(m.evs.map (·.name)).getD e ⟨#[]⟩=m.evs[e].name:=fun e he=>by
  rw[List.getD_eq_getElem?_getD,List.getElem?_map,List.getElem?_eq_getElem he];rfl
 have hal:lwAl (m.evs.map (·.name)) x.evs=zf6 (m.evs.map (·.name)) x.evs m.evs.length:=by unfold lwAl zf6;rw[hN]
 have hmem:∀ a∈zf6 (m.evs.map (·.name)) x.evs m.evs.length,∃ e,∃ he:e<m.evs.length,a=((e:Nat):Int):=by
  intro a ha
  rw[← hal] at ha
  obtain⟨e,s,h1,h2,_⟩:=zi6.1 ha
  have:=(List.getElem?_eq_some_iff.1 h2).1
  rw[hN] at this
  exact⟨e,this,h1⟩
 rw[hal] at hR
 clear hal h hm
 generalize m.evs.map (·.name)=N at *
 obtain⟨tn,tl,te,⟨tal,lo,ini,mk,vr,mo⟩⟩:=t
 obtain⟨xn,xt,xe⟩:=x
 simp only at hR hlo hml hmem h39 hge
 refine zaM [8,22] Tk Tryz.func30 rfl Tryz.call30 Tryz.ntmps30 (Nat.le_of_ble_eq_true rfl) fun E=>?_
 refine zah Tk Tryz.func30 ?_
 refine zak Tk Tryz.func30 (h35 _) rfl rfl rfl rfl rfl ?_
 refine g_wk (zaK 6 50 3 1 (pre:=[]) (post:=[ii lo,ii ini,ints mk,vrs vr,.i (.v (.slice none 0 0))]) rfl rfl rfl) ?_
 refine zae ?_
 refine zaj (fun e:Nat=>[(2,.own 0 2 0 0),(3,.own 0 3 0 0),(4,.own 0 4 0 0),(5,.own 0 5 0 0),(6,.own 0 6 0 0),(7,ii e)])
  (fun e=>[(2,.box (mdlC m)),(3,.box [.i (strI xn),.i (strI xt),ssD xe]),(4,.box zhv),(5,.box (tplC ⟨tn,tl,te,⟨tal,lo,ini,mk,vr,mo⟩⟩)),(6,.box [.osl 0 50,ii lo,ii ini,ints mk,vrs vr,.i (.v (.slice none 0 0))]),(50,zbW (zf6 N xe e))]) (fun _=>O) 111
  (fun e=>e≤m.evs.length) (fun e=>m.evs.length - e) 0 (Nat.zero_le _) ⟨rfl,rfl,rfl,rfl,rfl,rfl,trivial⟩ rfl ⟨rfl,rfl,rfl,rfl,rfl,rfl,trivial⟩ rfl rfl ?_
 intro e he ih
 have he:e≤m.evs.length:=he
 have hll:=zst N xe e
 refine zah Tk Tryz.func30 ?_
 refine zag Tk Tryz.func30 rfl (fun g1=>?_) (fun g1=>?_)
 ·have g1:e<m.evs.length:=by simpa using g1
  have gs:(m.evs.map evtI)[(e:Int).toNat]? = some (evtI m.evs[e]):=zam (f:=evtI) g1
  have hs:=zss N xe e
  rw[hge e g1] at hs
  have hj1:ii (IntKind.i64.wrap ((e:Int)+1))=ii ((e+1:Nat):Int):=congrArg ii (zay (n:=1000001) (by omega) (by decide))
  have h39':=fun O=>h39 O m.evs[e].name
  generalize zf6 N xe e=A at *
  generalize m.evs[e]=y at *
  obtain⟨yn,yc,yo,yf,yl⟩:=y
  simp only at h39' hs
  generalize nmIx xe yn=q at *
  refine zas Tk Tryz.func30 zax rfl ?_
  refine zap Tk (by exact⟨by omega,by show (e:Int)<(m.evs.length:Int);omega⟩) ?_
  refine zaz Tk (gs) ?_
  refine zaD Tk (fun _=>h39' _) rfl rfl rfl ?_
  refine zaA Tk Tryz.func30 (by kernel_rfl) ?_
  refine zag Tk Tryz.func30 rfl (fun c1=>?_) (fun c1=>?_)
  ·have c1:q ≥ 0:=of_decide_eq_true c1
   rw[if_pos c1] at hs
   refine zai Tk Tryz.func30 (by exact⟨by show (A.length+1) * 8≤140737488355328;omega,by show A.length+1≤9223372036854775807;omega⟩) ?_
   refine zae ?_
   refine ih (e+1) _ _ g1 (by omega) ⟨rfl,rfl,rfl,rfl,rfl,hj1,trivial⟩ rfl ⟨rfl,rfl,rfl,rfl,rfl,?_,trivial⟩ rfl rfl
   rw[hs]
   exact congrArg some (zck A _)
  ·have c1:¬ q ≥ 0:=of_decide_eq_false c1
   rw[if_neg c1] at hs
   refine zae ?_
   refine ih (e+1) _ _ g1 (by omega) ⟨rfl,rfl,rfl,rfl,rfl,hj1,trivial⟩ rfl ⟨rfl,rfl,rfl,rfl,rfl,?_,trivial⟩ rfl rfl
   rw[hs]
   rfl
 have g1:m.evs.length≤e:=by simpa using g1
 have e1:e=m.evs.length:=by omega
 subst e1
 clear ih g1 he
 generalize zf6 N xe m.evs.length=al at *
 refine zaB ?_
 refine zat (zao 50 rfl rfl) ?_
 refine zat (za1 rfl) ?_
 refine zat (zaK 6 107 187 8 (pre:=[ints al,ii lo,ii ini,ints mk,vrs vr]) (post:=[]) rfl rfl rfl) ?_
 refine zah Tk Tryz.func30 ?_
 refine g_go Tk Tryz.func30 ?_
 refine zae ?_
 refine zaj (fun s:Nat=>[(2,.own 0 2 0 0),(3,.own 0 3 0 0),(4,.own 0 4 0 0),(5,.own 0 5 0 0),(6,.own 0 6 0 0),(8,ii s)])
  (fun s=>[(2,.box (mdlC m)),(3,.box [.i (strI xn),.i (strI xt),ssD xe]),(4,.box zhv),(5,.box (tplC ⟨tn,tl,te,⟨tal,lo,ini,mk,vr,mo⟩⟩)),(6,.box [ints al,ii lo,ii ini,ints mk,vrs vr,.osl 0 107]),(107,zcj (zi4 N xe mo al s))]) (fun _=>O) 111
  (fun s=>s≤lo.toNat) (fun s=>lo.toNat - s) 0 (Nat.zero_le _) ⟨rfl,rfl,rfl,rfl,rfl,rfl,trivial⟩ rfl ⟨rfl,rfl,rfl,rfl,rfl,rfl,trivial⟩ rfl rfl ?_
 intro s hs ih
 have hs:s≤lo.toNat:=hs
 have hal:al.length≤1000000:=by omega
 have hA:(zi4 N xe mo al s).length≤64 * (1000000 * 19):=by
  have h1:=zn3 (f:=fun s:Nat=>al.flatMap fun e=>lwMv N xe mo (s:Int) e) (k:=1000000 * 19) (l:=List.range s) fun s' _=>by
   have h2:=zn3 (f:=fun e=>lwMv N xe mo (s':Int) e) (k:=19) (l:=al) fun e _=>Nat.le_trans (zi5 N xe mo _ e) hml
   exact Nat.le_trans h2 (Nat.mul_le_mul_right 19 hal)
  rw[List.length_range] at h1
  refine Nat.le_trans h1 (Nat.mul_le_mul_right _ (by omega))
 have hsuc:=zsq N xe mo al s
 refine zah Tk Tryz.func30 ?_
 refine zag Tk Tryz.func30 rfl (fun g2=>?_) (fun g2=>?_)
 ·have g2:s<lo.toNat:=by have:(s:Int)<lo:=of_decide_eq_true g2;omega
  have hs1:ii (IntKind.i64.wrap ((s:Int)+1))=ii ((s+1:Nat):Int):=congrArg ii (zay (n:=1000001) (by omega) (by decide))
  generalize zi4 N xe mo al s=A at *
  refine zae ?_
  refine zaj (fun i:Nat=>[(2,.own 0 2 0 0),(3,.own 0 3 0 0),(4,.own 0 4 0 0),(5,.own 0 5 0 0),(6,.own 0 6 0 0),(8,ii s),(9,ii i)])
   (fun i=>[(2,.box (mdlC m)),(3,.box [.i (strI xn),.i (strI xt),ssD xe]),(4,.box zhv),(5,.box (tplC ⟨tn,tl,te,⟨tal,lo,ini,mk,vr,mo⟩⟩)),(6,.box [ints al,ii lo,ii ini,ints mk,vrs vr,.osl 0 107]),(107,zcj (A++(al.take i).flatMap fun e=>lwMv N xe mo (s:Int) e))]) (fun _=>O) 111
   (fun i=>i≤al.length) (fun i=>al.length - i) 0 (Nat.zero_le _) ⟨rfl,rfl,rfl,rfl,rfl,rfl,rfl,trivial⟩ rfl ⟨rfl,rfl,rfl,rfl,rfl,congrArg (fun l=>some (zcj l)) (show A=A++(al.take 0).flatMap fun e=>lwMv N xe mo (s:Int) e by simp),trivial⟩ rfl rfl ?_
  intro i hi ih2
  have hi:i≤al.length:=hi
  have hB:(A++(al.take i).flatMap fun e=>lwMv N xe mo (s:Int) e).length≤65 * (1000000 * 19):=by
   have h2:=zn3 (f:=fun e=>lwMv N xe mo (s:Int) e) (k:=19) (l:=al.take i) fun e _=>Nat.le_trans (zi5 N xe mo _ e) hml
   have h3:(al.take i).length * 19≤1000000 * 19:=Nat.mul_le_mul_right 19 (by rw[List.length_take];omega)
   rw[List.length_append]
   omega
  refine zah Tk Tryz.func30 ?_
  refine zag Tk Tryz.func30 rfl (fun g3=>?_) (fun g3=>?_)
  ·have g3:i<al.length:=by simpa using g3
   have ga:(al.map fun x=>[vi x])[(i:Int).toNat]? = some [vi al[i]]:=zam (f:=fun x=>[vi x]) g3
   have hst:((al.take (i+1)).flatMap fun e=>lwMv N xe mo (s:Int) e)=((al.take i).flatMap fun e=>lwMv N xe mo (s:Int) e)++lwMv N xe mo (s:Int) al[i]:=by
    rw[List.take_succ_eq_append_getElem g3,List.flatMap_append];simp
   obtain⟨a,ha,hae⟩:=hmem al[i] (List.getElem_mem g3)
   rw[hae] at ga hst
   have hi1:ii (IntKind.i64.wrap ((i:Int)+1))=ii ((i+1:Nat):Int):=congrArg ii (zay (n:=1000001) (by omega) (by decide))
   have gs:(m.evs.map evtI)[((a:Nat):Int).toNat]? = some (evtI m.evs[a]):=zam (f:=evtI) ha
   have hlk:lwK N xe ((a:Nat):Int)=nmIx xe m.evs[a].name:=by unfold lwK;rw[Int.toNat_natCast,hge a ha]
   have h39':=fun O=>h39 O m.evs[a].name
   rw[← hlk] at h39'
   generalize ((al.take i).flatMap fun e=>lwMv N xe mo (s:Int) e)=B at *
   generalize m.evs[a]=y at *
   obtain⟨yn,yc,yo,yf,yl⟩:=y
   simp only at h39'
   refine zas Tk Tryz.func30 zax rfl ?_
   refine zap Tk (by exact⟨by omega,by show (i:Int)<(al.length:Int);omega⟩) ?_
   refine zaz Tk (ga) ?_
   refine zap Tk (by exact⟨by omega,by show ((a:Nat):Int)<(m.evs.length:Int);omega⟩) ?_
   refine zaz Tk (gs) ?_
   refine zaD Tk (fun _=>h39' _) rfl rfl rfl ?_
   refine zaA Tk Tryz.func30 (by kernel_rfl) ?_
   refine zae ?_
   refine zaj (fun j:Nat=>[(2,.own 0 2 0 0),(3,.own 0 3 0 0),(4,.own 0 4 0 0),(5,.own 0 5 0 0),(6,.own 0 6 0 0),(8,ii s),(9,ii i),(10,ii (lwK N xe ((a:Nat):Int))),(81,mvs mo),(82,ii mo.length),(83,ii j)])
    (fun j=>[(2,.box (mdlC m)),(3,.box [.i (strI xn),.i (strI xt),ssD xe]),(4,.box zhv),(5,.box (tplC ⟨tn,tl,te,⟨tal,lo,ini,mk,vr,mo⟩⟩)),(6,.box [ints al,ii lo,ii ini,ints mk,vrs vr,.osl 0 107]),(107,zcj (A++B++lwMv N xe (mo.take j) (s:Int) ((a:Nat):Int)))]) (fun _=>O) 111
    (fun j=>j≤mo.length) (fun j=>mo.length - j) 0 (Nat.zero_le _) ⟨rfl,rfl,rfl,rfl,rfl,rfl,rfl,rfl,rfl,rfl,rfl,trivial⟩ rfl ⟨rfl,rfl,rfl,rfl,rfl,congrArg (fun l=>some (zcj l)) (show A++B=A++B++lwMv N xe (mo.take 0) (s:Int) ((a:Nat):Int) by simp[lwMv]),trivial⟩ rfl rfl ?_
   intro j hj ih3
   have hj:j≤mo.length:=hj
   have hC:=zi5 N xe (mo.take j) (s:Int) ((a:Nat):Int)
   rw[List.length_take] at hC
   refine zah Tk Tryz.func30 ?_
   refine zag Tk Tryz.func30 rfl (fun g4=>?_) (fun g4=>?_)
   ·have g4:j<mo.length:=by simpa using g4
    have gm:(mo.map mvI)[(j:Int).toNat]? = some (mvI mo[j]):=zam (f:=mvI) g4
    have hsu:=zvn N xe (s:Int) ((a:Nat):Int) g4
    have hj1:ii (IntKind.i64.wrap ((j:Int)+1))=ii ((j+1:Nat):Int):=congrArg ii (zay (n:=1000001) (by omega) (by decide))
    generalize lwMv N xe (mo.take j) (s:Int) ((a:Nat):Int)=C at *
    generalize lwK N xe ((a:Nat):Int)=k at *
    have hl:(A++B++C).length≤70 * (1000000 * 19):=by rw[List.length_append];omega
    generalize hD:A++B++C=D0 at *
    generalize mo[j]=y at *
    obtain⟨yf,ye,yt,⟨go,gv,gi,ga2⟩,us⟩:=y
    simp only at hsu
    refine zai Tk Tryz.func30 (by exact⟨by omega,by show (j:Int)<(mo.length:Int);omega⟩) ?_
    refine zar Tk Tryz.func30 (gm) ?_
    refine zaC Tk Tryz.func30 rfl (fun k1=>?_) (fun k1=>?_)
    ·have k1:yf=(s:Int):=beqT k1
     refine zag Tk Tryz.func30 rfl (fun k2=>?_) (fun k2=>?_)
     ·have k2:ye=k:=beqT k2
      refine zai Tk Tryz.func30 (by exact⟨by omega,by show (i:Int)<(al.length:Int);omega⟩) ?_
      refine zar Tk Tryz.func30 (ga) ?_
      refine zai Tk Tryz.func30 (by exact⟨by show (D0.length+1) * 96≤140737488355328;omega,by show D0.length+1≤9223372036854775807;omega⟩) ?_
      refine zae ?_
      refine ih3 (j+1) _ _ g4 (by omega) ⟨rfl,rfl,rfl,rfl,rfl,rfl,rfl,rfl,rfl,rfl,hj1,trivial⟩ rfl ⟨rfl,rfl,rfl,rfl,rfl,?_,trivial⟩ rfl rfl
      rw[hsu,if_pos ⟨k1,k2⟩,← List.append_assoc,hD]
      exact congrArg some (zsa D0 ⟨yf,((a:Nat):Int),yt,⟨go,gv,gi,ga2⟩,us⟩)
     ·have k2:¬ ye=k:=beqF k2
      refine zae ?_
      refine ih3 (j+1) _ _ g4 (by omega) ⟨rfl,rfl,rfl,rfl,rfl,rfl,rfl,rfl,rfl,rfl,hj1,trivial⟩ rfl ⟨rfl,rfl,rfl,rfl,rfl,?_,trivial⟩ rfl rfl
      rw[hsu,if_neg (fun h=>k2 h.2),List.append_nil,hD];rfl
    ·have k1:¬ yf=(s:Int):=beqF k1
     refine gcF Tk Tryz.func30 rfl ?_
     refine zae ?_
     refine ih3 (j+1) _ _ g4 (by omega) ⟨rfl,rfl,rfl,rfl,rfl,rfl,rfl,rfl,rfl,rfl,hj1,trivial⟩ rfl ⟨rfl,rfl,rfl,rfl,rfl,?_,trivial⟩ rfl rfl
     rw[hsu,if_neg (fun h=>k1 h.1),List.append_nil,hD];rfl
   ·have g4:mo.length≤j:=by simpa using g4
    rw[List.take_of_length_le g4]
    refine zae ?_
    refine ih2 (i+1) _ _ g3 (by omega) ⟨rfl,rfl,rfl,rfl,rfl,rfl,hi1,trivial⟩ rfl ⟨rfl,rfl,rfl,rfl,rfl,?_,trivial⟩ rfl rfl
    rw[hst,List.append_assoc];rfl
  ·have g3:al.length≤i:=by simpa using g3
   rw[List.take_of_length_le g3,← hsuc]
   refine zae ?_
   exact ih (s+1) _ _ g2 (by omega) ⟨rfl,rfl,rfl,rfl,rfl,hs1,trivial⟩ rfl ⟨rfl,rfl,rfl,rfl,rfl,rfl,trivial⟩ rfl rfl
 ·have g2:lo.toNat≤s:=by have:¬ (s:Int)<lo:=of_decide_eq_false g2;omega
  have e2:s=lo.toNat:=by omega
  subst e2
  generalize zi4 N xe mo al lo.toNat=A at *
  refine zaB ?_
  refine zat (zao 107 rfl rfl) ?_
  refine zat (za1 rfl) ?_
  refine zah Tk Tryz.func30 ?_
  refine g_go Tk Tryz.func30 ?_
  refine zaf Tk (r:=extD ⟨al,lo,ini,mk,vr,A⟩) rfl rfl rfl trivial rfl rfl ?_
  exact congrArg extD hR
end Go.AI


namespace Go.AI
open Go.Proofs
set_option maxRecDepth 20000
instance staDec:DecidableEq Sta:=fun a b=>decidable_of_iff (a.loc=b.loc∧a.vals=b.vals) ⟨fun ⟨h1,h2⟩=>by cases a;cases b;cases h1;cases h2;rfl,fun h=>by subst h;exact⟨rfl,rfl⟩⟩
end Go.AI


set_option maxRecDepth 20000
namespace Go.AI
open Go.Proofs
theorem zfr:∀ {vs:List Vr} {l:List Int},within vs l=true→∀ (i:Nat) (h:i<vs.length) (h':i<l.length),vs[i].low≤l[i]∧l[i]≤vs[i].high
 | v::r,x::ys,h,i,hi,hi'=>by
  simp only[within,Bool.and_eq_true,decide_eq_true_eq] at h
  cases i with
  | zero=>exact⟨h.1.1,h.1.2⟩
  | succ i=>exact zfr h.2 i (by simpa using hi) (by simpa using hi')
 | [],_,_,i,hi,_=>absurd hi (Nat.not_lt_zero _)
 | _::_,[],_,i,_,hi=>absurd hi (Nat.not_lt_zero _)
theorem zc6 {m:Ext} (h:made m):extRight m:=zde (zvk h)
def zqu (m:Ext) (s:Sta):Nat:=s.loc.toNat+4 * ((s.vals.getD 0 0 - (m.vars.getD 0 ⟨⟨#[]⟩,0,0,0⟩).low).toNat+4 * (s.vals.getD 1 0 - (m.vars.getD 1 ⟨⟨#[]⟩,0,0,0⟩).low).toNat)
theorem zlo {m:Ext} (hm:made m) {s:Sta} (h:okS m s) (i:Nat) (hi:i<m.vars.length):∃ hi':i<s.vals.length,m.vars[i].low≤s.vals[i]∧s.vals[i]≤m.vars[i].low+3:=by
 have hl:=(zb9 (zc6 hm) h).2.2.2.1
 have h1:=zfr h.2 i hi (by omega)
 have h2:=(hm.v _ (List.getElem_mem hi)).w
 exact⟨by omega,h1.1,by omega⟩
theorem zvV {m:Ext} (hm:made m) {s:Sta} (h:okS m s):zqu m s<64:=by
 have hl:=(zb9 (zc6 hm) h).2.2.2.1
 have hlo:=hm.lo
 have h0:=h.1
 have hv2:=hm.vl
 have part:∀ i,(s.vals.getD i 0 - (m.vars.getD i ⟨⟨#[]⟩,0,0,0⟩).low).toNat<4:=by
  intro i
  by_cases hi:i<m.vars.length
  ·obtain⟨hi',h1,h2⟩:=zlo hm h i hi
   rw[List.getD_eq_getElem?_getD,List.getD_eq_getElem?_getD,List.getElem?_eq_getElem hi',List.getElem?_eq_getElem hi]
   simp only[Option.getD_some]
   omega
  ·rw[List.getD_eq_getElem?_getD,List.getD_eq_getElem?_getD,List.getElem?_eq_none (by omega),List.getElem?_eq_none (by omega)]
   simp only[Option.getD_none]
   omega
 have:=part 0
 have:=part 1
 unfold zqu
 omega
theorem ztl {m:Ext} (hm:made m) {s t:Sta} (hs:okS m s) (ht:okS m t) (h:zqu m s=zqu m t):s=t:=by
 have hls:=(zb9 (zc6 hm) hs).2.2.2.1
 have hlt:=(zb9 (zc6 hm) ht).2.2.2.1
 have hlo:=hm.lo
 have h0:=hs.1
 have h0':=ht.1
 have hv2:=hm.vl
 have part:∀ (s:Sta),okS m s→s.vals.length=m.vars.length→∀ i,(s.vals.getD i 0 - (m.vars.getD i ⟨⟨#[]⟩,0,0,0⟩).low).toNat<4∧0≤(s.vals.getD i 0 - (m.vars.getD i ⟨⟨#[]⟩,0,0,0⟩).low):=by
  intro s h hl i
  by_cases hi:i<m.vars.length
  ·obtain⟨hi',h1,h2⟩:=zlo hm h i hi
   rw[List.getD_eq_getElem?_getD,List.getD_eq_getElem?_getD,List.getElem?_eq_getElem hi',List.getElem?_eq_getElem hi]
   simp only[Option.getD_some]
   omega
  ·rw[List.getD_eq_getElem?_getD,List.getD_eq_getElem?_getD,List.getElem?_eq_none (by omega),List.getElem?_eq_none (by omega)]
   simp only[Option.getD_none]
   omega
 have p0:=part s hs hls 0
 have p1:=part s hs hls 1
 have q0:=part t ht hlt 0
 have q1:=part t ht hlt 1
 unfold zqu at h
 have e0:s.loc=t.loc:=by omega
 have e1:s.vals.getD 0 0=t.vals.getD 0 0:=by omega
 have e2:s.vals.getD 1 0=t.vals.getD 1 0:=by omega
 have ev:s.vals=t.vals:=by
  apply List.ext_getElem (by omega)
  intro i hi hi'
  have:i=0∨i=1:=by omega
  rcases this with rfl | rfl
  ·rw[List.getD_eq_getElem?_getD,List.getD_eq_getElem?_getD,List.getElem?_eq_getElem hi,List.getElem?_eq_getElem hi'] at e1
   exact e1
  ·rw[List.getD_eq_getElem?_getD,List.getD_eq_getElem?_getD,List.getElem?_eq_getElem hi,List.getElem?_eq_getElem hi'] at e2
   exact e2
 cases s
 cases t
 simp only at e0 ev
 rw[e0,ev]
theorem zqk {m:Ext} (hm:made m) {l:List Sta} (ho:∀ s∈l,okS m s) (hn:l.Nodup):l.length≤64:=by
 have h:=zeG (n:=64) (l:=l.map (zqu m)) ?_ ?_
 ·rwa [List.length_map] at h
 ·unfold List.Nodup at hn ⊢
  rw[List.pairwise_map]
  refine hn.imp_of_mem fun {a b} ha hb hne h=>hne (ztl hm (ho a ha) (ho b hb) h)
 ·intro x hx
  obtain⟨s,hs,rfl⟩:=List.mem_map.1 hx
  exact zvV hm (ho s hs)
def smallI:List Int:=(List.range 12).map fun (k:Nat)=>(k:Int) - 4
def valsL:List (List Int):=[[]]++smallI.map (fun a=>[a])++smallI.flatMap fun a=>smallI.map fun b=>[a,b]
def combos:List Sta:=(List.range 4).flatMap fun (l:Nat)=>valsL.map fun v=>⟨l,v⟩
theorem zj3 {m:Ext} (hm:made m) {s:Sta} (h:okS m s):s∈combos:=by
 have hl:=(zb9 (zc6 hm) h).2.2.2.1
 have hlo:=hm.lo
 have h0:=h.1
 have hv2:=hm.vl
 have sm:∀ i (hi:i<s.vals.length),s.vals[i]∈smallI:=by
  intro i hi
  obtain⟨_,h1,h2⟩:=zlo hm h i (by omega)
  have h3:=(hm.v _ (List.getElem_mem (show i<m.vars.length by omega)))
  have:=h3.lo
  have:=h3.hi
  have h4:=zfr h.2 i (by omega) hi
  unfold smallI
  rw[List.mem_map]
  exact⟨(s.vals[i]+4).toNat,List.mem_range.2 (by omega),by omega⟩
 unfold combos
 rw[List.mem_flatMap]
 refine⟨s.loc.toNat,List.mem_range.2 (by omega),?_⟩
 rw[List.mem_map]
 refine⟨s.vals,?_,by cases s;simp only at h0 ⊢;congr 1;omega⟩
 unfold valsL
 match hv:s.vals,(show s.vals.length≤2 by omega) with
 | [],_=>simp
 | [a],_=>
  have h1:=sm 0 (by rw[hv];simp)
  simp only[hv,List.getElem_cons_zero] at h1
  simp[h1]
 | [a,b],_=>
  have h1:=sm 0 (by rw[hv];simp)
  have h2:=sm 1 (by rw[hv];simp)
  simp only[hv,List.getElem_cons_zero,List.getElem_cons_succ] at h1 h2
  simp[h1,h2]
def decF (l:List UInt8):List Int:=
 (l.foldl (fun (x:List Int × Bool × Int) c=>
  if c=32 then (x.1++[if x.2.1 then -x.2.2 else x.2.2],false,0) else if c=59 then x else if c=45 then (x.1,true,x.2.2) else (x.1,x.2.1,x.2.2 * 10+((c.toNat:Int) - 48))) ([],false,0)).1
def decK (b:ByteArray):Sta:=match decF b.data.toList with
 | []=>zf3
 | l::v=>⟨l,v⟩
theorem zir:(combos.all fun s=>decide (decK (fkey s)=s))=true:=by kernel_rfl
theorem zk1 {a b:ByteArray}:(a==b)=true ↔ a=b:=by
 constructor
 ·intro h
  have h':(a.data==b.data)=true:=h
  exact ByteArray.ext (by simpa using h')
 ·rintro rfl
  show (a.data==a.data)=true
  simp
theorem zvq {m:Ext} (hm:made m) {s t:Sta} (hs:okS m s) (ht:okS m t):keq s t=eqB s t:=by
 have h1:=of_decide_eq_true (List.all_eq_true.1 zir s (zj3 hm hs))
 have h2:=of_decide_eq_true (List.all_eq_true.1 zir t (zj3 hm ht))
 by_cases h:s=t
 ·subst h
  have:keq s s=true:=zk1.2 rfl
  rw[this];simp[eqB]
 ·have:keq s t=false:=by
   cases hk:keq s t with
   | false=>rfl
   | true=>
    have e:fkey s=fkey t:=zk1.1 hk
    exact absurd (by rw[← h1,← h2,e]) h
  rw[this];simp[eqB,h]
abbrev mkdM (m:Ext) (s:Sta):Bool:=decide (s.loc∈m.marked)
end Go.AI


namespace Go.AI
open Go.Proofs
theorem zgt {m:Ext} {V:Unf Sta} (h:zbs m = .ok V):chk m=0:=by
 unfold zbs at h
 by_cases h1:chk m≠0
 ·rw[if_pos h1] at h;cases h
 ·exact Classical.byContradiction h1
theorem zuE {m M:Ext} (hm:made m) (hl:M.locs=m.locs) (hv:M.vars=m.vars) {V:Unf Sta} (h:zbs M = .ok V):UAt (mkdM M) M.alpha (okS M) (stpR M) V.sts.length V:=by
 have hc:=zgt h
 have hr:=zde hc
 have hiff:∀ s,okS M s ↔ okS m s:=fun s=>by unfold okS;rw[hl,hv]
 have hfew:∀ l:List Sta,(∀ s∈l,okS M s)→l.Nodup→l.length≤64:=fun l h1 h2=>zqk hm (fun s hs=>(hiff s).1 (h1 s hs)) h2
 have hF:Fin1 (stpR M) keq true (okS M):=
  ⟨fun s ev h hp=>zry hr h hp,fun s t hs ht=>zvq hm ((hiff s).1 hs) ((hiff t).1 ht),fun _ l h1 h2=>by have:=hfew l h1 h2;omega⟩
 unfold zbs at h
 rw[hc,if_neg (by simp)] at h
 rcases zro (mkdM M) hF (alpha:=M.alpha) (znr hr) (B:=64) hfew (by decide) with ⟨e,he,_⟩ | ⟨V',hV',hA⟩
 ·unfold unfX at h
  have he:unfR keq true (stpR M) (fun s=>decide (s.loc∈M.marked)) M.alpha (zc0 M) = .error e:=he
  rw[he] at h
  cases h
 ·unfold unfX at h
  have hV':unfR keq true (stpR M) (fun s=>decide (s.loc∈M.marked)) M.alpha (zc0 M) = .ok V':=hV'
  rw[hV'] at h
  cases h
  exact hA
end Go.AI


namespace Go.AI
open Go.Proofs
set_option maxRecDepth 20000
theorem zuy (O:List Heap) (l r:List Int) (hl:l.length≤zaq):zan Tryz.prog 22 [ints l,ints r] O (bb (decide (l=r))) [] O:=by
 have h:=fun O=>zjp O l r hl
 generalize decide (l=r)=b at *
 refine zaa Tk Tryz.func22 rfl Tryz.call22 Tryz.ntmps22 (Nat.le_of_ble_eq_true rfl) fun E=>?_
 refine zah Tk Tryz.func22 ?_
 refine zak Tk Tryz.func22 (h _) rfl rfl rfl rfl rfl ?_
 refine zaf Tk (r:=bb b) rfl rfl rfl trivial rfl rfl ?_
 rfl
theorem zhN (O:List Heap) (l:List Int) (hl:l.length≤zaq):zan Tryz.prog 22 [ints l,ints l] O (bb true) [] O:=by
 have h:=zuy O l l hl
 rwa [decide_eq_true rfl] at h
theorem zhX:∀ (N:Nat) (x:Ex),SizeOf.sizeOf x<N→exOk x→∀ O,zan Tryz.prog 87 [exA x,exA x] O (bb true) [] O:=by
 intro N
 induction N with
 | zero=>intro x h;omega
 | succ N ihN=>
  intro x hs hok O
  obtain⟨op,v,ix,args⟩:=x
  unfold exOk at hok
  have hch:∀ e∈args,∀ O,zan Tryz.prog 87 [exA e,exA e] O (bb true) [] O:=by
   intro e he O
   refine ihN e ?_ (zhk hok.2 e he) O
   have:=List.sizeOf_lt_of_mem he
   simp only[Ex.mk.sizeOf_spec] at hs
   omega
  have hlen:=hok.1
  clear ihN hs hok
  show zan Tryz.prog 87 [.agg [ii op,ii v,ii ix,exs args],.agg [ii op,ii v,ii ix,exs args]] O (bb true) [] O
  refine zaa Tk Tryz.func87 rfl Tryz.call87 Tryz.ntmps87 (Nat.le_of_ble_eq_true rfl) fun E=>?_
  refine zah Tk Tryz.func87 ?_
  refine zaC Tk Tryz.func87 rfl (fun h=>absurd h (by simp)) (fun _=>?_)
  refine zaC Tk Tryz.func87 rfl (fun h=>absurd h (by simp)) (fun _=>?_)
  refine zaC Tk Tryz.func87 rfl (fun h=>absurd h (by simp)) (fun _=>?_)
  refine zag Tk Tryz.func87 rfl (fun h=>absurd h (by simp)) (fun _=>?_)
  refine zae ?_
  refine zaj (fun i:Nat=>[(2,.own 0 2 0 0),(3,.own 0 3 0 0),(5,ii i)]) (fun i=>[(2,.box [ii op,ii v,ii ix,exs args]),(3,.box [ii op,ii v,ii ix,exs args])]) (fun _=>O) 53
   (fun i=>i≤args.length) (fun i=>args.length - i) 0 (Nat.zero_le _) ⟨rfl,rfl,rfl,trivial⟩ rfl ⟨rfl,rfl,trivial⟩ rfl rfl ?_
  intro i hi ih
  have hi:i≤args.length:=hi
  refine zah Tk Tryz.func87 ?_
  refine zag Tk Tryz.func87 rfl (fun g1=>?_) (fun g1=>?_)
  ·have g1:i<args.length:=by simpa using g1
   have hg:=zfi g1
   have hc:=hch _ (List.getElem_mem g1)
   generalize args[i]=e at *
   obtain⟨eo,ev,ex,ea⟩:=e
   refine zas Tk Tryz.func87 zax rfl ?_
   refine zap Tk (by exact⟨by omega,by show (i:Int)<(args.length:Int);omega⟩) ?_
   refine zaz Tk (hg) ?_
   refine zap Tk (by exact⟨by omega,by show (i:Int)<(args.length:Int);omega⟩) ?_
   refine zaz Tk (hg) ?_
   refine zaD Tk (fun _=>hc _) rfl rfl rfl ?_
   refine zaA Tk Tryz.func87 (by kernel_rfl) ?_
   refine gcF Tk Tryz.func87 rfl ?_
   refine zae ?_
   exact ih (i+1) _ _ g1 (by omega) ⟨rfl,rfl,congrArg ii (zay (n:=zaq) (by omega) (by decide)),trivial⟩ rfl ⟨rfl,rfl,trivial⟩ rfl rfl
  ·refine zaf Tk (r:=bb true) rfl rfl rfl trivial rfl rfl ?_
   rfl
def znk (a:Ext) (c:Int):Ext:=⟨a.alpha,a.locs,c,a.marked,a.vars,a.moves⟩
theorem ziM (O:List Heap) (a:Ext) (c:Int) (ha:extOk a):zan Tryz.prog 33 [extD a,extD (znk a c)] O (bb (decide (a.init=c))) [] O:=by
 have h1:=fun O=>zhN O a.alpha ha.al
 have h2:=fun O=>zhN O a.marked ha.ma
 have hva:=ha.va
 have hmo:=ha.mo
 have hmv:=ha.mv
 clear ha
 obtain⟨al,lo,ini,mk,vr,mo⟩:=a
 simp only at h1 h2 hva hmo hmv
 show zan Tryz.prog 33 [.agg [ints al,ii lo,ii ini,ints mk,vrs vr,mvs mo],.agg [ints al,ii lo,ii c,ints mk,vrs vr,mvs mo]] O (bb (decide (ini=c))) [] O
 refine zaa Tk Tryz.func33 rfl Tryz.call33 Tryz.ntmps33 (Nat.le_of_ble_eq_true rfl) fun E=>?_
 refine zah Tk Tryz.func33 ?_
 refine zak Tk Tryz.func33 (h1 _) rfl rfl rfl rfl rfl ?_
 refine gkF Tk Tryz.func33 rfl ?_
 refine zaC Tk Tryz.func33 rfl (fun h=>absurd h (by simp)) (fun _=>?_)
 refine zaC Tk Tryz.func33 rfl (fun k=>?_) (fun k=>?_)
 ·have k:¬ ini=c:=fun e=>bneT k e
  repeat (first | refine gcT Tk Tryz.func33 rfl ?_ | refine gkT Tk Tryz.func33 rfl ?_ | refine skT Tk ?_ | refine gcF Tk Tryz.func33 rfl ?_ | refine gkF Tk Tryz.func33 rfl ?_ | refine skF Tk ?_)
  refine zaf Tk (r:=bb false) rfl rfl rfl trivial rfl rfl ?_
  rw[decide_eq_false k]
 have k:ini=c:=bneF k
 rw[decide_eq_true k]
 refine zak Tk Tryz.func33 (h2 _) rfl rfl rfl rfl rfl ?_
 refine gkF Tk Tryz.func33 rfl ?_
 refine zaC Tk Tryz.func33 rfl (fun h=>absurd h (by simp)) (fun _=>?_)
 refine zag Tk Tryz.func33 rfl (fun h=>absurd h (by simp)) (fun _=>?_)
 clear h1 h2
 refine zae ?_
 refine zaj (fun i:Nat=>[(2,.own 0 2 0 0),(3,.own 0 3 0 0),(5,ii i)]) (fun i=>[(2,.box [ints al,ii lo,ii ini,ints mk,vrs vr,mvs mo]),(3,.box [ints al,ii lo,ii c,ints mk,vrs vr,mvs mo])]) (fun _=>O) 163
  (fun i=>i≤vr.length) (fun i=>vr.length - i) 0 (Nat.zero_le _) ⟨rfl,rfl,rfl,trivial⟩ rfl ⟨rfl,rfl,trivial⟩ rfl rfl ?_
 intro i hi ih
 have hi:i≤vr.length:=hi
 refine zah Tk Tryz.func33 ?_
 refine zag Tk Tryz.func33 rfl (fun g1=>?_) (fun g1=>?_)
 ·have g1:i<vr.length:=by simpa using g1
  have gv:(vr.map vrI)[(i:Int).toNat]? = some (vrI vr[i]):=zam (f:=vrI) g1
  generalize vr[i]=y at *
  obtain⟨yn,yl,yh,yi⟩:=y
  refine zas Tk Tryz.func33 zax rfl ?_
  refine zap Tk (by exact⟨by omega,by show (i:Int)<(vr.length:Int);omega⟩) ?_
  refine zaz Tk (gv) ?_
  refine zap Tk (by exact⟨by omega,by show (i:Int)<(vr.length:Int);omega⟩) ?_
  refine zaz Tk (gv) ?_
  refine zaA Tk Tryz.func33 (by kernel_rfl) ?_
  refine zag Tk Tryz.func33 rfl (fun h=>absurd h (by simp)) (fun _=>?_)
  refine zae ?_
  exact ih (i+1) _ _ g1 (by omega) ⟨rfl,rfl,congrArg ii (zay (n:=zaq) (by omega) (by decide)),trivial⟩ rfl ⟨rfl,rfl,trivial⟩ rfl rfl
 clear ih hi g1
 refine zae ?_
 refine zaj (fun i:Nat=>[(2,.own 0 2 0 0),(3,.own 0 3 0 0),(6,ii i)]) (fun i=>[(2,.box [ints al,ii lo,ii ini,ints mk,vrs vr,mvs mo]),(3,.box [ints al,ii lo,ii c,ints mk,vrs vr,mvs mo])]) (fun _=>O) 163
  (fun i=>i≤mo.length) (fun i=>mo.length - i) 0 (Nat.zero_le _) ⟨rfl,rfl,rfl,trivial⟩ rfl ⟨rfl,rfl,trivial⟩ rfl rfl ?_
 intro i hi ih
 have hi:i≤mo.length:=hi
 refine zah Tk Tryz.func33 ?_
 refine zag Tk Tryz.func33 rfl (fun g2=>?_) (fun g2=>?_)
 rotate_left
 ·refine zaf Tk (r:=bb true) rfl rfl rfl trivial rfl rfl ?_
  rfl
 have g2:i<mo.length:=by simpa using g2
 have gm:(mo.map mvI)[(i:Int).toNat]? = some (mvI mo[i]):=zam (f:=mvI) g2
 obtain⟨hg,hul,hu⟩:=hmv mo[i] (List.getElem_mem g2)
 have hi1:ii (IntKind.i64.wrap ((i:Int)+1))=ii ((i+1:Nat):Int):=congrArg ii (zay (n:=zaq) (by omega) (by decide))
 have hge:=fun O=>zhX _ mo[i].g (Nat.lt_succ_self _) hg O
 have hue:∀ u∈mo[i].us,∀ O,zan Tryz.prog 87 [exA u.x,exA u.x] O (bb true) [] O:=fun u h O=>zhX _ u.x (Nat.lt_succ_self _) (hu u h) O
 clear hg hu hmv
 generalize mo[i]=y at *
 obtain⟨yf,ye,yt,⟨go,gv,gi,ga⟩,us⟩:=y
 simp only at hge hue hul
 refine zas Tk Tryz.func33 zax rfl ?_
 refine zap Tk (by exact⟨by omega,by show (i:Int)<(mo.length:Int);omega⟩) ?_
 refine zaz Tk (gm) ?_
 refine zap Tk (by exact⟨by omega,by show (i:Int)<(mo.length:Int);omega⟩) ?_
 refine zaz Tk (gm) ?_
 refine zc2 Tk rfl rfl rfl ?_
 refine zc2 Tk rfl rfl rfl ?_
 refine zaA Tk Tryz.func33 (by kernel_rfl) ?_
 refine zaC Tk Tryz.func33 rfl (fun h=>absurd h (by simp)) (fun _=>?_)
 refine zaC Tk Tryz.func33 rfl (fun h=>absurd h (by simp)) (fun _=>?_)
 refine zaC Tk Tryz.func33 rfl (fun h=>absurd h (by simp)) (fun _=>?_)
 refine zak Tk Tryz.func33 (hge _) rfl rfl rfl rfl rfl ?_
 refine gkF Tk Tryz.func33 rfl ?_
 refine zag Tk Tryz.func33 rfl (fun h=>absurd h (by simp)) (fun _=>?_)
 refine zae ?_
 refine zaj (fun j:Nat=>[(2,.own 0 2 0 0),(3,.own 0 3 0 0),(6,ii i),(7,.own 0 7 0 0),(8,.own 0 8 0 0),(9,ii j)]) (fun j=>[(2,.box [ints al,ii lo,ii ini,ints mk,vrs vr,mvs mo]),(3,.box [ints al,ii lo,ii c,ints mk,vrs vr,mvs mo]),(7,.box [ii yf,ii ye,ii yt,ii go,ii gv,ii gi,exs ga,upds us]),(8,.box [ii yf,ii ye,ii yt,ii go,ii gv,ii gi,exs ga,upds us])]) (fun _=>O) 163
  (fun j=>j≤us.length) (fun j=>us.length - j) 0 (Nat.zero_le _) ⟨rfl,rfl,rfl,rfl,rfl,rfl,trivial⟩ rfl ⟨rfl,rfl,rfl,rfl,trivial⟩ rfl rfl ?_
 intro j hj ih2
 have hj:j≤us.length:=hj
 refine zah Tk Tryz.func33 ?_
 refine zag Tk Tryz.func33 rfl (fun g3=>?_) (fun g3=>?_)
 rotate_left
 ·refine zae ?_
  exact ih (i+1) _ _ g2 (by omega) ⟨rfl,rfl,hi1,trivial⟩ rfl ⟨rfl,rfl,trivial⟩ rfl rfl
 have g3:j<us.length:=by simpa using g3
 have gu:(us.map updI)[(j:Int).toNat]? = some (updI us[j]):=zam (f:=updI) g3
 have hue1:=hue us[j] (List.getElem_mem g3)
 have hj1:ii (IntKind.i64.wrap ((j:Int)+1))=ii ((j+1:Nat):Int):=congrArg ii (zay (n:=zaq) (by omega) (by decide))
 generalize us[j]=u at *
 obtain⟨uv,⟨uo,uvl,ui,ua⟩⟩:=u
 simp only at hue1
 refine zas Tk Tryz.func33 zax rfl ?_
 refine zap Tk (by exact⟨by omega,by show (j:Int)<(us.length:Int);omega⟩) ?_
 refine zaz Tk (gu) ?_
 refine zap Tk (by exact⟨by omega,by show (j:Int)<(us.length:Int);omega⟩) ?_
 refine zaz Tk (gu) ?_
 refine zbL Tk (fun h=>absurd h (by simp)) (fun _=>?_)
 refine zap Tk (by exact⟨by omega,by show (j:Int)<(us.length:Int);omega⟩) ?_
 refine zaz Tk (gu) ?_
 refine zap Tk (by exact⟨by omega,by show (j:Int)<(us.length:Int);omega⟩) ?_
 refine zaz Tk (gu) ?_
 refine zaD Tk (fun _=>hue1 _) rfl rfl rfl ?_
 refine zaA Tk Tryz.func33 (by kernel_rfl) ?_
 refine gcF Tk Tryz.func33 rfl ?_
 refine zae ?_
 exact ih2 (j+1) _ _ g3 (by omega) ⟨rfl,rfl,rfl,rfl,rfl,hj1,trivial⟩ rfl ⟨rfl,rfl,rfl,rfl,trivial⟩ rfl rfl
theorem zlf (O:List Heap) (s:Sta) (h:s.vals.length≤zaq):zan Tryz.prog 25 [staD s,staD s] O (bb true) [] O:=by
 have h1:=fun O=>zjp O s.vals s.vals h
 rw[decide_eq_true rfl] at h1
 obtain⟨l,v⟩:=s
 simp only at h1
 show zan Tryz.prog 25 [.agg [ii l,ints v],.agg [ii l,ints v]] O (bb true) [] O
 refine zaa Tk Tryz.func25 rfl Tryz.call25 Tryz.ntmps25 (Nat.le_of_ble_eq_true rfl) fun E=>?_
 refine zah Tk Tryz.func25 ?_
 refine zaC Tk Tryz.func25 rfl (fun _=>?_) (fun h=>absurd h (by simp))
 refine zak Tk Tryz.func25 (h1 _) rfl rfl rfl rfl rfl ?_
 refine zaf Tk (r:=bb true) rfl rfl rfl trivial rfl rfl ?_
 rfl
end Go.AI


namespace Go.AI
open Go.Proofs
set_option maxRecDepth 20000
def zf4 (m:Mdl) (p:Plc):Int:=if (mdlE m).2≠0 then (mdlE m).2 else match zbI m p with
 | .error e=>e
 | .ok _=>0
theorem zwL {m:Mdl} {p:Plc} {s:Sta} (h:zf4 m p≠0):mchA m p=(zExt,zf4 m p)∧orgA m p=([],zf4 m p)∧labR m p s=(⟨#[]⟩,zf4 m p):=by
 have hA:mchA m p=(zExt,zf4 m p):=by
  unfold zf4 at h ⊢
  unfold mchA
  by_cases h1:(mdlE m).2≠0
  ·rw[if_pos h1,if_pos h1]
  ·rw[if_neg h1] at h
   rw[if_neg h1,if_neg h1]
   cases hp:zbI m p with
   | error e=>rfl
   | ok x=>rw[hp] at h;exact absurd rfl h
 refine⟨hA,?_,?_⟩
 ·unfold orgA
  rw[hA,if_pos h]
 ·unfold zf4 at h ⊢
  unfold labR
  by_cases h1:(mdlE m).2≠0
  ·rw[if_pos h1,if_pos h1]
  ·rw[if_neg h1] at h
   rw[if_neg h1,if_neg h1]
   cases hp:zbI m p with
   | error e=>rfl
   | ok x=>rw[hp] at h;exact absurd rfl h
theorem zwM {m:Mdl} {p:Plc} (h:zf4 m p=0):(mdlE m).2=0∧∃ x,zbI m p = .ok x:=by
 unfold zf4 at h
 by_cases h1:(mdlE m).2≠0
 ·rw[if_pos h1] at h;exact absurd h h1
 ·rw[if_neg h1] at h
  refine⟨Classical.byContradiction h1,?_⟩
  cases hp:zbI m p with
  | error e=>rw[hp] at h;exact absurd h (zd9 hp)
  | ok x=>exact⟨x,rfl⟩
theorem zzm {m:Mdl} {p:Plc} {x:Ins} (h:zbI m p = .ok x) (O:List Heap):zan Tryz.prog 31 [mdlD m,.agg [ii p.1,ii p.2]] O (insD x) [] O:=by
 obtain⟨a,b⟩:=p
 unfold zbI at h
 simp only at h ⊢
 by_cases h1:a=3
 ·rw[if_pos h1] at h
  by_cases h2:b<0
  ·rw[if_pos h2] at h;cases h
  rw[if_neg h2] at h
  cases h3:m.comps[b.toNat]? with
  | none=>rw[h3] at h;cases h
  | some y=>
   rw[h3] at h
   cases h
   have:=zwt O m b.toNat x h3
   rw[Int.toNat_of_nonneg (by omega)] at this
   rw[h1];exact this
 rw[if_neg h1] at h
 by_cases h4:a=4
 ·rw[if_pos h4] at h
  by_cases h2:b<0
  ·rw[if_pos h2] at h;cases h
  rw[if_neg h2] at h
  cases h3:m.reqs[b.toNat]? with
  | none=>rw[h3] at h;cases h
  | some y=>
   rw[h3] at h
   cases h
   have:=zws O m a b.toNat x h1 h3
   rw[Int.toNat_of_nonneg (by omega)] at this
   exact this
 ·rw[if_neg h4] at h;cases h
theorem zvo (vs:List Vr) (ns:List Int) (acc:ByteArray) (h:ns=[]):labT vs ns acc=acc:=by
 subst h
 cases vs <;> rfl
theorem zsn {g:Nat} (hg:zfq g) {ty:TypeId} {fr:Nat × Nat} (O:List Heap) (k:Sk22) (p:Plc) (s:Sta) (hk:sk22Ok k) (hsl:s.vals.length≤zaq) :
  zbc g (ptab ty fr) Tryz.prog 8 [zw5 k,.agg [ii p.1,ii p.2],staD s] O (bb true) [] O:=by
 have hkn:=fun O=>zxM hg (ty:=ty) (fr:=fr) O
 by_cases h3:s.vals.length≤3
 rotate_left
 ·obtain⟨sl,sv⟩:=s
  simp only at h3 hsl ⊢
  refine zaW [] Tk Tryz.func8 rfl Tryz.call8 Tryz.ntmps8 (Nat.le_of_ble_eq_true rfl) fun E hE=>?_
  refine zah Tk Tryz.func8 ?_
  refine zbb Tk Tryz.func8 hE (hkn _) rfl rfl rfl rfl rfl rfl ?_
  refine gkF Tk Tryz.func8 rfl ?_
  refine zag Tk Tryz.func8 rfl (fun _=>?_) (fun h=>absurd h (by rw[decide_eq_true (show ((sv.length:Nat):Int)>3 by omega)];simp))
  refine zbb Tk Tryz.func8 hE (hkn _) rfl rfl rfl rfl rfl rfl ?_
  refine zaf Tk (r:=bb true) rfl rfl rfl trivial rfl rfl ?_
  rfl
 have hmk:=fun O=>zyI hg (ty:=ty) (fr:=fr) O k hk
 have hm:=zvi hk
 have hmv:=zvj hk
 have hev:((zcu k).evs.map (·.name)).Nodup:=by rw[zgX];exact zqo
 have hmade:∀ t∈(zcu k).tpls,made t.mach:=by
  rw[zed]
  intro t h
  obtain⟨j,_,h2,rfl⟩:=zlq h
  exact zkb (hk.t _ (zgh (d:=zSk) h2))
 clear hk
 generalize zcu k=m at *
 have h18:=fun O=>zht O m p hm hmv
 have h19:=fun O=>zur hg (ty:=ty) (fr:=fr) O m p hm hmv
 have h20:=fun O=>zus hg (ty:=ty) (fr:=fr) O m p s hm hmv
 have h15:=fun O=>zya O m hm
 have hwn:=zwL (m:=m) (p:=p) (s:=s)
 have hwe:=zwM (m:=m) (p:=p)
 have hval:=fun h=>zlt (p:=p) hm hmv h
 have hR19:orgA m p=if (mchA m p).2≠0 then ([],(mchA m p).2) else match zbs (mchA m p).1 with
  | .error e=>([],e)
  | .ok U=>(U.sts,0):=rfl
 have hR20:labR m p s=if (mdlE m).2≠0 then (⟨#[]⟩,(mdlE m).2) else match zbI m p with
  | .error e=>(⟨#[]⟩,e)
  | .ok x=>if ckS (mchR m x) s≠0 then (⟨#[]⟩,ckS (mchR m x) s) else
   match zbV m x with
   | none=>(⟨#[]⟩,0)
   | some t=>(labT (mchR m x).vars s.vals (t.locs.getD s.loc.toNat ⟨#[]⟩),0):=rfl
 have hW:zf4 m p=if (mdlE m).2≠0 then (mdlE m).2 else if p.1=3 then (if p.2<0∨p.2 ≥ (m.comps.length:Int) then 10 else 0) else if p.1=4 then (if p.2<0∨p.2 ≥ (m.reqs.length:Int) then 10 else 0) else 11:=by
  unfold zf4 zbI
  by_cases c0:(mdlE m).2≠0
  ·rw[if_pos c0,if_pos c0]
  rw[if_neg c0,if_neg c0]
  by_cases c1:p.1=3
  ·rw[if_pos c1,if_pos c1]
   by_cases c2:p.2<0
   ·rw[if_pos c2,if_pos (.inl c2)]
   rw[if_neg c2]
   by_cases c3:p.2 ≥ (m.comps.length:Int)
   ·rw[if_pos (.inr c3),List.getElem?_eq_none (by omega)]
   ·rw[if_neg (by omega),List.getElem?_eq_getElem (by omega)]
  rw[if_neg c1,if_neg c1]
  by_cases c4:p.1=4
  ·rw[if_pos c4,if_pos c4]
   by_cases c2:p.2<0
   ·rw[if_pos c2,if_pos (.inl c2)]
   rw[if_neg c2]
   by_cases c3:p.2 ≥ (m.reqs.length:Int)
   ·rw[if_pos (.inr c3),List.getElem?_eq_none (by omega)]
   ·rw[if_neg (by omega),List.getElem?_eq_getElem (by omega)]
  ·rw[if_neg c4,if_neg c4]
 generalize hAA:mchA m p=AA at *
 generalize hOO:orgA m p=OO at *
 generalize hLL:labR m p s=LL at *
 generalize hEE:mdlE m=EE at *
 generalize hWW:zf4 m p=W at *
 obtain⟨X,E1⟩:=AA
 obtain⟨Os,E2⟩:=OO
 obtain⟨T,E3⟩:=LL
 obtain⟨⟨w1,w2⟩,w3⟩:=EE
 obtain⟨a,b⟩:=p
 obtain⟨sl,sv⟩:=s
 simp only at h18 h19 h20 h15 hwn hwe hval hW hR19 hR20 h3 hsl ⊢
 have h18:∀ O,zan Tryz.prog 18 [mdlD m,.agg [ii a,ii b]] O (.tup [extD X,ii E1]) [] O:=h18
 have h19:∀ O,zbc g (ptab ty fr) Tryz.prog 19 [mdlD m,.agg [ii a,ii b]] O (.tup [zdi Os,ii E2]) [] O:=h19
 have h20:∀ O,zbc g (ptab ty fr) Tryz.prog 20 [mdlD m,.agg [ii a,ii b],staD ⟨sl,sv⟩] O (.tup [.i (.v (.string T)),ii E3]) [] O:=h20
 have h15:∀ O,zan Tryz.prog 15 [mdlD m] O (.tup [.agg [ii w1,ii w2],ii w3]) [] O:=h15
 have hlc:m.comps.length≤1000000:=hm.co
 have hlr:m.reqs.length≤1000000:=hm.rq
 refine zaW [18] Tk Tryz.func8 rfl Tryz.call8 Tryz.ntmps8 (Nat.le_of_ble_eq_true rfl) fun E hE=>?_
 refine zah Tk Tryz.func8 ?_
 refine zbb Tk Tryz.func8 hE (hkn _) rfl rfl rfl rfl rfl rfl ?_
 refine gkF Tk Tryz.func8 rfl ?_
 refine zag Tk Tryz.func8 rfl (fun h=>absurd h (by rw[decide_eq_false (show ¬ ((sv.length:Nat):Int)>3 by omega)];simp)) (fun _=>?_)
 refine zbb Tk Tryz.func8 hE (hmk _) rfl rfl rfl rfl rfl rfl ?_
 refine zak Tk Tryz.func8 (h18 _) rfl rfl rfl rfl rfl ?_
 refine zbb Tk Tryz.func8 hE (h19 _) rfl rfl rfl rfl rfl rfl ?_
 refine zbb Tk Tryz.func8 hE (h20 _) rfl rfl rfl rfl rfl rfl ?_
 refine zak Tk Tryz.func8 (h15 _) rfl rfl rfl rfl rfl ?_
 apply zbY (P:=True) (s6:={ σ:=[(4,.own 0 4 0 0),(5,.own 0 5 0 0),(7,.own 0 7 0 0),(8,.own 0 8 0 0),(9,ii E1),(10,zdi Os),(11,ii E2),(12,sD T),(13,ii E3),(15,ii W)],S:=[(4,.box [ii a,ii b]),(5,.box [ii sl,ints sv]),(7,.box (mdlC m)),(8,.box (extC X))]::O,n:=220 })
 ·intro J
  refine zag Tk Tryz.func8 rfl (fun c0=>?_) (fun c0=>?_)
  ·have c0:w3=0:=beqT c0
   rw[if_neg (fun h=>h c0)] at hW
   refine zag Tk Tryz.func8 rfl (fun c1=>?_) (fun c1=>?_)
   ·have c1:a=3:=beqT c1
    rw[if_pos c1] at hW
    refine zag Tk Tryz.func8 rfl (fun h=>absurd h (by simp)) (fun _=>?_)
    refine zaC Tk Tryz.func8 rfl (fun c2=>?_) (fun c2=>?_)
    ·have c2:b<0:=of_decide_eq_true c2
     rw[if_pos (.inl c2)] at hW
     refine gcT Tk Tryz.func8 rfl ?_
     refine zaB ?_
     exact zaE (J trivial) ⟨rfl,rfl,rfl,rfl,rfl,rfl,rfl,rfl,rfl,congrArg ii hW.symm,trivial⟩ rfl ⟨rfl,rfl,rfl,rfl,trivial⟩ rfl rfl
    have c2:¬ b<0:=of_decide_eq_false c2
    refine zag Tk Tryz.func8 rfl (fun c3=>?_) (fun c3=>?_)
    ·have c3:b ≥ (m.comps.length:Int):=of_decide_eq_true c3
     rw[if_pos (.inr c3)] at hW
     refine zaB ?_
     exact zaE (J trivial) ⟨rfl,rfl,rfl,rfl,rfl,rfl,rfl,rfl,rfl,congrArg ii hW.symm,trivial⟩ rfl ⟨rfl,rfl,rfl,rfl,trivial⟩ rfl rfl
    have c3:¬ b ≥ (m.comps.length:Int):=of_decide_eq_false c3
    rw[if_neg (by omega)] at hW
    refine zaB ?_
    exact zaE (J trivial) ⟨rfl,rfl,rfl,rfl,rfl,rfl,rfl,rfl,rfl,congrArg ii (c0.trans hW.symm),trivial⟩ rfl ⟨rfl,rfl,rfl,rfl,trivial⟩ rfl rfl
   have c1:¬ a=3:=beqF c1
   rw[if_neg c1] at hW
   refine zag Tk Tryz.func8 rfl (fun c4=>?_) (fun c4=>?_)
   ·have c4:a=4:=beqT c4
    rw[if_pos c4] at hW
    refine zag Tk Tryz.func8 rfl (fun h=>absurd h (by simp)) (fun _=>?_)
    refine zaC Tk Tryz.func8 rfl (fun c2=>?_) (fun c2=>?_)
    ·have c2:b<0:=of_decide_eq_true c2
     rw[if_pos (.inl c2)] at hW
     refine gcT Tk Tryz.func8 rfl ?_
     refine zaB ?_
     exact zaE (J trivial) ⟨rfl,rfl,rfl,rfl,rfl,rfl,rfl,rfl,rfl,congrArg ii hW.symm,trivial⟩ rfl ⟨rfl,rfl,rfl,rfl,trivial⟩ rfl rfl
    have c2:¬ b<0:=of_decide_eq_false c2
    refine zag Tk Tryz.func8 rfl (fun c3=>?_) (fun c3=>?_)
    ·have c3:b ≥ (m.reqs.length:Int):=of_decide_eq_true c3
     rw[if_pos (.inr c3)] at hW
     refine zaB ?_
     exact zaE (J trivial) ⟨rfl,rfl,rfl,rfl,rfl,rfl,rfl,rfl,rfl,congrArg ii hW.symm,trivial⟩ rfl ⟨rfl,rfl,rfl,rfl,trivial⟩ rfl rfl
    have c3:¬ b ≥ (m.reqs.length:Int):=of_decide_eq_false c3
    rw[if_neg (by omega)] at hW
    refine zaB ?_
    exact zaE (J trivial) ⟨rfl,rfl,rfl,rfl,rfl,rfl,rfl,rfl,rfl,congrArg ii (c0.trans hW.symm),trivial⟩ rfl ⟨rfl,rfl,rfl,rfl,trivial⟩ rfl rfl
   have c4:¬ a=4:=beqF c4
   rw[if_neg c4] at hW
   refine gcT Tk Tryz.func8 rfl ?_
   refine zaB ?_
   exact zaE (J trivial) ⟨rfl,rfl,rfl,rfl,rfl,rfl,rfl,rfl,rfl,congrArg ii hW.symm,trivial⟩ rfl ⟨rfl,rfl,rfl,rfl,trivial⟩ rfl rfl
  ·have c0:w3≠0:=beqF c0
   rw[if_pos c0] at hW
   refine zaB ?_
   exact zaE (J trivial) ⟨rfl,rfl,rfl,rfl,rfl,rfl,rfl,rfl,rfl,congrArg ii hW.symm,trivial⟩ rfl ⟨rfl,rfl,rfl,rfl,trivial⟩ rfl rfl
 intro _
 refine zah Tk Tryz.func8 ?_
 refine g_go Tk Tryz.func8 ?_
 by_cases hw:W=0
 rotate_left
 ·obtain⟨e1,e2,e3⟩:=hwn hw
  cases e1
  cases e2
  cases e3
  refine zag Tk Tryz.func8 rfl (fun _=>?_) (fun h=>absurd h (by simpa using hw))
  refine gkT Tk Tryz.func8 rfl ?_
  refine gkT Tk Tryz.func8 rfl ?_
  refine zaC Tk Tryz.func8 rfl (fun _=>?_) (fun h=>absurd h (by simp))
  refine gkT Tk Tryz.func8 rfl ?_
  refine zaC Tk Tryz.func8 rfl (fun _=>?_) (fun h=>absurd h (by simp))
  refine zaC Tk Tryz.func8 rfl (fun _=>?_) (fun h=>absurd h (by first | decide | simp))
  refine zaf Tk (r:=bb (W==W)) rfl rfl rfl trivial rfl rfl ?_
  simp
 subst hw
 obtain⟨x,hx⟩:=(hwe rfl).2
 have hE0:=(hwe rfl).1
 have hE1:E1=0:=by
  have:=hAA
  unfold mchA at this
  rw[hEE] at this
  simp only at this hE0
  rw[if_neg (fun h=>h hE0),hx] at this
  exact (congrArg (·.2) this).symm
 subst hE1
 obtain⟨x',t,_,hx',hX,hmo,hme,hok,hlo,hnm⟩:=hval rfl
 rw[hx] at hx'
 cases hx'
 have hie:zcQ m [] x.evs=0:=by
  obtain⟨t',_,_,_,_,h⟩:=zeV hmv (m:=m) (by rw[hEE];exact hE0) (zc5 hx)
  exact h
 have hgt:=fun O=>zzm hx O
 have hxe:x.evs.length≤1000000:=(zja hm (zc5 hx))
 have h30:=fun O=>zso O m x t hm hxe hmo
 have hXe:X=mchE m x t:=hX.trans hme
 rw[← zxB hmo hie hev,← hXe] at h30
 have hmd:=hmade t hmo.mem
 have hXl:X.locs=t.mach.locs:=by rw[hXe];rfl
 have hXv:X.vars=t.mach.vars:=by rw[hXe];rfl
 have hvr:=hmo.right.vars
 rw[← hX] at hok
 have h32:=fun O=>zjC hg (ty:=ty) (fr:=fr) O X hok
 have h33:=fun O=>ziM O X X.init hok
 rw[show znk X X.init=X from rfl,decide_eq_true rfl] at h33
 have h34:=fun O=>zd1 O X ⟨sl,sv⟩ hok
 have h35:=fun O=>zdF O m x t hm.toszOk hmo.tp
 have hck:=@zhp X ⟨sl,sv⟩
 rw[if_neg (fun h=>h hE0),hx] at hR20
 simp only at hR20
 rw[← hX,hmo.tp] at hR20
 simp only at hR20
 rw[if_neg (by simp)] at hR19
 have hUn:∃ A:Aut,(∀ O,zbc g (ptab ty fr) Tryz.prog 32 [extD X] O (.tup [autD A,zdi Os,ii E2]) [] O)∧(∀ q∈Os,q.vals.length≤zaq)∧Os.length≤4096:=by
  cases hu:zbs X with
  | error e=>
   rw[hu] at h32 hR19
   cases hR19
   exact⟨⟨[],0,[],[]⟩,h32,by simp,Nat.zero_le _⟩
  | ok U=>
   have hA:=zuE hmd hXl hXv hu
   have hl:=zgr hu
   rw[hu] at h32 hR19
   cases hR19
   refine⟨_,h32,fun q hq=>?_,hl⟩
   have:=(zb9 (zde (zgt hu)) (hA.ok q hq)).2.2.1
   simp only[zaq];omega
 obtain⟨⟨al,ast,am,ae⟩,hUn,hOv,hOl⟩:=hUn
 rw[← hXl] at hlo
 rw[← hXv] at hvr
 clear hAA hOO hLL hEE hWW hwn hwe hval hR19 hW h18 h19 h20 h15 hmade hmd hmo hme hX hXe hXl hXv hx h32 hie hev
 obtain⟨xn,xt,xe⟩:=x
 obtain⟨tn,tl,te,⟨tal,tlo,tini,tmk,tvr,tmo⟩⟩:=t
 generalize hC:ckS X ⟨sl,sv⟩=C at *
 simp only at hR20 hlo hnm
 refine gcF Tk Tryz.func8 rfl ?_
 refine zas Tk Tryz.func8 zax rfl ?_
 refine zaD Tk (fun _=>hgt _) rfl rfl rfl ?_
 refine zaD Tk (fun _=>h30 _) rfl rfl rfl ?_
 refine zc2 Tk rfl rfl rfl ?_
 refine zaA Tk Tryz.func8 (by kernel_rfl) ?_
 refine zbb Tk Tryz.func8 hE (hUn _) rfl rfl rfl rfl rfl rfl ?_
 refine gkF Tk Tryz.func8 rfl ?_
 refine zak Tk Tryz.func8 (h33 _) rfl rfl rfl rfl rfl ?_
 refine gkF Tk Tryz.func8 rfl ?_
 refine zaC Tk Tryz.func8 rfl (fun h=>absurd h (by simp)) (fun _=>?_)
 refine zag Tk Tryz.func8 rfl (fun h=>absurd h (by simp)) (fun _=>?_)
 refine zae ?_
 refine zaj (fun i:Nat=>[(4,.own 0 4 0 0),(5,.own 0 5 0 0),(7,.own 0 7 0 0),(10,zdi Os),(12,sD T),(13,ii E3),(17,.own 0 17 0 0),(19,zdi Os),(21,ii i)])
  (fun _=>[(4,.box [ii a,ii b]),(5,.box [ii sl,ints sv]),(7,.box (mdlC m)),(17,.box (extC X))]) (fun _=>O) 220
  (fun i=>i≤Os.length) (fun i=>Os.length - i) 0 (Nat.zero_le _) ⟨rfl,rfl,rfl,rfl,rfl,rfl,rfl,rfl,rfl,trivial⟩ rfl ⟨rfl,rfl,rfl,rfl,trivial⟩ rfl rfl ?_
 intro i hi ih
 have hi:i≤Os.length:=hi
 refine zah Tk Tryz.func8 ?_
 refine zag Tk Tryz.func8 rfl (fun g1=>?_) (fun g1=>?_)
 ·have g1:i<Os.length:=by simpa using g1
  have gs:(Os.map staI)[(i:Int).toNat]? = some (staI Os[i]):=zam (f:=staI) g1
  have h25:=fun O=>zlf O Os[i] (hOv _ (List.getElem_mem g1))
  generalize Os[i]=q at *
  obtain⟨ql,qv⟩:=q
  refine zas Tk Tryz.func8 zax rfl ?_
  refine zap Tk (by exact⟨by omega,by show (i:Int)<(Os.length:Int);omega⟩) ?_
  refine zaz Tk (gs) ?_
  refine zap Tk (by exact⟨by omega,by show (i:Int)<(Os.length:Int);omega⟩) ?_
  refine zaz Tk (gs) ?_
  refine zaD Tk (fun _=>h25 _) rfl rfl rfl ?_
  refine zaA Tk Tryz.func8 (by kernel_rfl) ?_
  refine gcF Tk Tryz.func8 rfl ?_
  refine zae ?_
  exact ih (i+1) _ _ g1 (by omega) ⟨rfl,rfl,rfl,rfl,rfl,rfl,rfl,rfl,congrArg ii (zay (n:=5000) (by omega) (by decide)),trivial⟩ rfl ⟨rfl,rfl,rfl,rfl,trivial⟩ rfl rfl
 clear ih g1 hi hOv hUn h30 h33
 refine zak Tk Tryz.func8 (h34 _) rfl rfl rfl rfl rfl ?_
 by_cases c2:C=0
 rotate_left
 ·rw[if_pos c2] at hR20
  have hT0:T=⟨#[]⟩:=congrArg (·.1) hR20
  have hE3:E3=C:=congrArg (·.2) hR20
  subst hT0
  subst hE3
  refine zag Tk Tryz.func8 rfl (fun _=>?_) (fun h=>absurd h (by simpa using c2))
  refine zaC Tk Tryz.func8 rfl (fun _=>?_) (fun h=>absurd h (by first | decide | simp))
  refine zaf Tk (r:=bb (E3==E3)) rfl rfl rfl trivial rfl rfl ?_
  simp
 subst c2
 rw[if_neg (fun h=>h rfl)] at hR20
 cases hR20
 obtain⟨_,k2,k3,k4,k5⟩:=hck rfl
 simp only at k2 k3 k4 k5
 have hsn:sl.toNat<tl.length:=by omega
 have gl:(tl.map fun s=>[strI s])[sl.toNat]? = some [strI (tl.getD sl.toNat ⟨#[]⟩)]:=by
  rw[List.getElem?_map,List.getD_eq_getElem?_getD,List.getElem?_eq_getElem hsn];rfl
 have hs0:(tl.getD sl.toNat ⟨#[]⟩).size≤32:=by
  rw[List.getD_eq_getElem?_getD,List.getElem?_eq_getElem hsn]
  exact zgP hnm _ (List.getElem_mem hsn)
 have hvn:=zrj hvr
 have hvb:∀ v∈sv,-65536≤v∧v≤65536:=by
  intro v hv
  obtain⟨i,hi,rfl⟩:=List.getElem_of_mem hv
  have:=(within_iff.1 k3).2 i (by omega) hi
  have hb:=ziA hvr X.vars[i] (List.getElem_mem (by omega))
  omega
 refine gcF Tk Tryz.func8 rfl ?_
 generalize hT:labT X.vars sv (tl.getD sl.toNat ⟨#[]⟩)=T at *
 generalize tl.getD sl.toNat ⟨#[]⟩=s0 at *
 refine zas Tk Tryz.func8 zax rfl ?_
 refine zaD Tk (fun _=>hgt _) rfl rfl rfl ?_
 refine zaD Tk (fun _=>h35 _) rfl rfl rfl ?_
 refine zap Tk (by exact⟨k4,by show sl<(tl.length:Int);omega⟩) ?_
 refine zaz Tk (gl) ?_
 refine zaA Tk Tryz.func8 (by kernel_rfl) ?_
 refine zae ?_
 refine zaj (fun x:Nat × ByteArray=>[(5,.own 0 5 0 0),(12,sD T),(13,ii 0),(17,.own 0 17 0 0),(23,sD x.2),(24,ii x.1)])
  (fun _=>[(5,.box [ii sl,ints sv]),(17,.box (extC X))]) (fun _=>O) 220
  (fun x=>x.1≤sv.length∧x.2.size≤100+100 * x.1∧labT (X.vars.drop x.1) (sv.drop x.1) x.2=T) (fun x=>sv.length - x.1) (0,s0) ⟨Nat.zero_le _,by simp only;omega,hT⟩ ⟨rfl,rfl,rfl,rfl,rfl,rfl,trivial⟩ rfl ⟨rfl,rfl,trivial⟩ rfl rfl ?_
 clear hT
 rintro ⟨i,acc⟩ ⟨hi,has,hno⟩ ih
 simp only at hi has hno
 refine zah Tk Tryz.func8 ?_
 refine zag Tk Tryz.func8 rfl (fun g1=>?_) (fun g1=>?_)
 ·have g1':i<sv.length:=by simpa using g1
  have g1:i<X.vars.length:=by omega
  have gv:(X.vars.map vrI)[(i:Int).toNat]? = some (vrI X.vars[i]):=zam (f:=vrI) g1
  have gn:(sv.map fun x=>[vi x])[(i:Int).toNat]? = some [vi sv[i]]:=zam (f:=fun x=>[vi x]) g1'
  have hvi:=hvn X.vars[i] (List.getElem_mem g1)
  have hni:=hvb sv[i] (List.getElem_mem g1')
  rw[List.drop_eq_getElem_cons g1,List.drop_eq_getElem_cons g1'] at hno
  simp only[labT] at hno
  have hit:=fun O=>zkk hg (ty:=ty) (fr:=fr) O sv[i] (by omega) (by omega)
  have hsz:=zcz (n:=sv[i]) (by omega) (by omega)
  have hj1:ii (IntKind.i64.wrap ((i:Int)+1))=ii ((i+1:Nat):Int):=congrArg ii (zay (n:=1000001) (by omega) (by decide))
  generalize X.vars[i]=v at *
  generalize zc9 sv[i]=tx at *
  generalize sv[i]=n at *
  obtain⟨vn,vlo,vhi,vin⟩:=v
  simp only at hno hvi
  have hs1:(acc++(⟨#[32]⟩:ByteArray)).size=acc.size+1:=ByteArray.size_append
  have hs2:(acc++(⟨#[32]⟩:ByteArray)++vn).size=acc.size+1+vn.size:=by rw[ByteArray.size_append,hs1]
  have hs3:(acc++(⟨#[32]⟩:ByteArray)++vn++⟨#[61]⟩).size=acc.size+1+vn.size+1:=by rw[ByteArray.size_append,hs2];rfl
  have heq:acc++(⟨#[32]⟩:ByteArray)++vn++⟨#[61]⟩++tx=acc++(⟨#[32]⟩++vn++⟨#[61]⟩++tx):=by
   simp only[ByteArray.append_assoc]
  refine zas Tk Tryz.func8 zax rfl ?_
  refine zap Tk (by show acc.size+1≤9223372036854775807;omega) ?_
  refine zap Tk (by exact⟨by omega,by show (i:Int)<(X.vars.length:Int);omega⟩) ?_
  refine zaz Tk (gv) ?_
  refine zap Tk (by show (acc++(⟨#[32]⟩:ByteArray)).size+vn.size≤9223372036854775807;rw[hs1];omega) ?_
  refine zap Tk (by show (acc++(⟨#[32]⟩:ByteArray)++vn).size+1≤9223372036854775807;rw[hs2];omega) ?_
  refine zap Tk (by exact⟨by omega,by show (i:Int)<(sv.length:Int);omega⟩) ?_
  refine zaz Tk (gn) ?_
  refine zdl Tk hE (hit _) rfl rfl rfl rfl ?_
  refine zap Tk (by show (acc++(⟨#[32]⟩:ByteArray)++vn++⟨#[61]⟩).size+tx.size≤9223372036854775807;rw[hs3];omega) ?_
  refine zaA Tk Tryz.func8 (by kernel_rfl) ?_
  refine zae ?_
  refine ih (i+1,acc++(⟨#[32]⟩:ByteArray)++vn++⟨#[61]⟩++tx) _ _ ⟨g1',by simp only;rw[ByteArray.size_append,hs3];omega,by rw[heq];exact hno⟩ (by simp only;omega) ⟨rfl,rfl,rfl,rfl,rfl,hj1,trivial⟩ rfl ⟨rfl,rfl,trivial⟩ rfl rfl
 ·have g1:sv.length≤i:=by simpa using g1
  rw[List.drop_eq_nil_of_le g1,zvo _ _ _ rfl] at hno
  subst hno
  refine zaC Tk Tryz.func8 rfl (fun _=>?_) (fun h=>absurd h (by simp))
  refine zaf Tk (r:=bb (0==0)) rfl rfl rfl trivial rfl rfl ?_
  rfl
end Go.AI


namespace Go.Proofs.YtnojpbbaohoadaaGreatDoor
set_option maxRecDepth 100000
theorem zbl:laidOutB Tryz.prog=true:=by kernel_rfl
theorem zem:mapsRowed Tryz.prog=true:=by kernel_rfl
theorem zdY:(Rows.elaborateMachinesRow.inPlace==Tryz.prog.inPlace 8)=true:=by kernel_rfl
theorem zdX:(Rows.elaborateMachinesRow.unfollowed==Tryz.prog.unfollowed 8)=true:=by kernel_rfl
theorem zdW:(Rows.elaborateMachinesRow.recurses==Tryz.prog.recurses 8)=true:=by kernel_rfl
theorem zdV:(Rows.elaborateMachinesRow.named==Tryz.prog.varsNamed 8)=true:=by kernel_rfl
theorem zdd:joinedFacts Tryz.prog 8 Tryz.f8 Rows.elaborateMachinesSpec Rows.elaborateMachinesRow=true:=by
 simp only[joinedFacts,Bool.and_eq_true]
 repeat' refine And.intro ?_ ?_
 ·kernel_rfl
 ·exact zbl
 ·exact zem
 ·kernel_rfl
 ·kernel_rfl
 ·kernel_rfl
 ·kernel_rfl
 ·kernel_rfl
 ·kernel_rfl
 ·exact zdY
 ·exact zdX
 ·exact zdW
 ·exact zdV
 ·kernel_rfl
 ·kernel_rfl
 ·kernel_rfl
 ·kernel_rfl
 ·kernel_rfl
 ·kernel_rfl
 ·kernel_rfl
 ·kernel_rfl
 ·kernel_rfl
 ·kernel_rfl
 ·kernel_rfl
 ·kernel_rfl
 ·kernel_rfl
 ·kernel_rfl
 ·kernel_rfl
 ·kernel_rfl
 ·kernel_rfl
 ·kernel_rfl
 ·kernel_rfl
theorem zdC : Tryz.prog.mainIs = some (true, "9aa124d96d2f2fea36404c3e6649a1942013d744947b2e2ae648d5b84282eb38".toList) := by kernel_rfl
theorem zdu:false=Tryz.prog.looks []:=by kernel_rfl
theorem zdD:false=Rows.elaborateMachinesRow.goesBy Tryz.prog:=by kernel_rfl
end Go.Proofs.YtnojpbbaohoadaaGreatDoor
