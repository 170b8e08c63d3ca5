/- The layer of abstract runs, part 32. -/
import Derived.Test.YtlcekmemdnjjbaaGreatDoorBayZE
import Derived.Test.YtlcekmemdnjjbaaGreatDoorRows
import Derived.KernelRfl
import Derived.JoinedOf
import Derived.SevenTiedAt
set_option linter.unusedSimpArgs false
set_option linter.unusedVariables false
set_option linter.all false

set_option maxHeartbeats 4000000
namespace Go.AI
open Go.Proofs
set_option maxRecDepth 20000
set_option maxHeartbeats 16000000 in
theorem zpi {g:Nat} (hg:zfA g) {ty:TypeId} {fr:Nat × Nat} (O:List Heap) (x:Sk) (w:List Int) (h:skOkB x) (hw:w.length≤zas):ASpecT g (ptab ty fr) Tryz.prog 10 [.agg (skC x),ints w] O (bb true) [] O:=by
 have hk:=fun O=>zud hg (ty:=ty) (fr:=fr) O
 have h1:=fun O=>zvt O x h
 by_cases hf:(lpR (mkS x)).1.states≤10
 ·have hob:=zvR h hf
  have hfit:=zsO h hf
  have k1:=fun O=>zs1 O x h
  have hn:(lpR (mkS x)).2.length≤11:=by omega
  have hel:=hob.tn.el
  have k4:=fun O=>zqx O (mkS x) hob.sm hob.hx hob.hV hn hel
  rw[zsy hob.hx hob.hV hn] at k4
  have himt:(zgU (mkS x)).isSome=true→∀ O,ASpecT g (ptab ty fr) Tryz.prog 19 [sysD (mkS x)] O (.tup [zCtl,ii 26]) [] O:=fun ht O=>zjk hg O _ hob ht
  have himf:(zgU (mkS x)).isSome=false→∀ O,ASpecT g (ptab ty fr) Tryz.prog 19 [sysD (mkS x)] O (.tup [ctlD (esR (mkS x)).1 (ctlR (mkS x) (lpR (mkS x)).1 (esR (mkS x)).2),ii 0]) [] O:=fun ht O=>zgu hg O _ hob ht
  have hct2:=zvC hob
  have hpm:=fun O=>zph O (mkS x) _ _ w hob.sm hob.hx hct2.1 hct2.2.1 hct2.2.2 hw
  have hcn:=fun O=>zwj O (mkS x) _ _ w hob.sm hct2.1 (fun r hr=>(hct2.2.2 r hr).2) hw
  have hcf:=fun O hO=>zb6 O w 48 0 5 (fun e=>!decide (e∈(mkS x).p.alpha)) hw (fun e _=>ztY _ (mkS x) e hob.sm.p.al 2 5 hO)
  have hP1:∀ o rows,(w.length:Int)>4096→ze3 (mkS x) o rows w=(false,15):=fun o rows hl=>by unfold ze3;rw[if_pos hl]
  have hP2:∀ o rows,¬ (w.length:Int)>4096→(w.any fun e=>!decide (e∈(mkS x).p.alpha))=true→ze3 (mkS x) o rows w=(false,9):=fun o rows hl ha=>by unfold ze3;rw[if_neg hl,if_pos ha]
  have hP3:¬ (w.length:Int)>4096→(w.any fun e=>!decide (e∈(mkS x).p.alpha))=false→ze3 (mkS x) (esR (mkS x)).1 (ctlR (mkS x) (lpR (mkS x)).1 (esR (mkS x)).2) w=(cnW (mkS x) (esR (mkS x)).1 (ctlR (mkS x) (lpR (mkS x)).1 (esR (mkS x)).2) w,0):=fun hl ha=>by
   refine zuA hob.hx (by have:=hct2.1.st;omega) (by omega) fun e he=>?_
   have:=List.any_eq_false.1 ha e he
   simpa using this
  have hP1:=hP1 (esR (mkS x)).1 (ctlR (mkS x) (lpR (mkS x)).1 (esR (mkS x)).2)
  have hP2:=hP2 (esR (mkS x)).1 (ctlR (mkS x) (lpR (mkS x)).1 (esR (mkS x)).2)
  rw[decide_eq_true hf] at h1
  clear hct2 hel hfit hob hf hn h
  generalize ze3 (mkS x) (esR (mkS x)).1 (ctlR (mkS x) (lpR (mkS x)).1 (esR (mkS x)).2) w=PT at *
  generalize cnW (mkS x) (esR (mkS x)).1 (ctlR (mkS x) (lpR (mkS x)).1 (esR (mkS x)).2) w=CW at *
  generalize ctlR (mkS x) (lpR (mkS x)).1 (esR (mkS x)).2=rows at *
  generalize (zgU (mkS x)).isSome=T at *
  generalize (esR (mkS x)).1=o at *
  generalize mkS x=X at *
  generalize (w.any fun e=>!decide (e∈X.p.alpha))=B2 at *
  obtain⟨⟨al,st,mk,es⟩,⟨al',st',mk',es'⟩,ob,ct⟩:=X
  obtain⟨oal,ost,omk,oes⟩:=o
  obtain⟨p1,p2⟩:=PT
  obtain⟨xst,xps,xpm,xpt,xss,xsm,xt2,xob,xct⟩:=x
  simp only at hpm
  refine za3 [] Tk Tryz.func10 rfl Tryz.call10 Tryz.ntmps10 (Nat.le_of_ble_eq_true rfl) fun E hE=>?_
  refine zae Tk Tryz.func10 ?_
  refine zba Tk Tryz.func10 hE (hk _) rfl rfl rfl rfl rfl rfl ?_
  refine gkF Tk Tryz.func10 rfl ?_
  refine zaf Tk Tryz.func10 (h1 _) rfl rfl rfl rfl rfl ?_
  refine gkF Tk Tryz.func10 rfl ?_
  refine zaR Tk Tryz.func10 rfl (fun c1=>?_) (fun c1=>?_)
  ·refine zaR Tk Tryz.func10 rfl (fun c2=>?_) (fun c2=>?_)
   ·refine gcT Tk Tryz.func10 rfl ?_
    refine zba Tk Tryz.func10 hE (hk _) rfl rfl rfl rfl rfl rfl ?_
    refine zak Tk (r:=bb true) rfl rfl rfl trivial rfl rfl ?_
    rfl
   ·have c2:¬ (w.length:Int)≤4096:=of_decide_eq_false c2
    refine zai Tk Tryz.func10 rfl (fun c3=>?_) (fun c3=>?_)
    ·refine zba Tk Tryz.func10 hE (hk _) rfl rfl rfl rfl rfl rfl ?_
     refine zak Tk (r:=bb true) rfl rfl rfl trivial rfl rfl ?_
     rfl
    ·have hP:=hP1 (by omega)
     simp only[Prod.mk.injEq] at hP
     obtain⟨rfl,rfl⟩:=hP
     clear hP1 hP2 hP3
     refine zaf Tk Tryz.func10 (k1 _) rfl rfl rfl rfl rfl ?_
     cases T with
     | true=>
      have himt:=himt rfl
      refine zba Tk Tryz.func10 hE (himt _) rfl rfl rfl rfl rfl rfl ?_
      refine gcT Tk Tryz.func10 rfl ?_
      refine zak Tk (r:=bb true) rfl rfl rfl trivial rfl rfl ?_
      rfl
     | false=>
      have himf:=himf rfl
      refine zba Tk Tryz.func10 hE (himf _) rfl rfl rfl rfl rfl rfl ?_
      refine gcF Tk Tryz.func10 rfl ?_
      refine zaf Tk Tryz.func10 (hpm _) rfl rfl rfl rfl rfl ?_
      refine zai Tk Tryz.func10 rfl (fun _=>?_) (fun h=>absurd h (by simp;omega))
      refine gkT Tk Tryz.func10 rfl ?_
      refine zak Tk (r:=bb true) rfl rfl rfl trivial rfl rfl ?_
      rfl
  ·have c1:¬ (w.length:Int)>8:=of_decide_eq_false c1
   refine gkF Tk Tryz.func10 rfl ?_
   refine zai Tk Tryz.func10 rfl (fun h=>absurd h (by simp;omega)) (fun _=>?_)
   refine zaf Tk Tryz.func10 (k1 _) rfl rfl rfl rfl rfl ?_
   cases T with
   | true=>
    have himt:=himt rfl
    refine zba Tk Tryz.func10 hE (himt _) rfl rfl rfl rfl rfl rfl ?_
    refine gcT Tk Tryz.func10 rfl ?_
    refine zak Tk (r:=bb true) rfl rfl rfl trivial rfl rfl ?_
    rfl
   | false=>
    have himf:=himf rfl
    refine zba Tk Tryz.func10 hE (himf _) rfl rfl rfl rfl rfl rfl ?_
    refine gcF Tk Tryz.func10 rfl ?_
    refine zaf Tk Tryz.func10 (hpm _) rfl rfl rfl rfl rfl ?_
    refine zai Tk Tryz.func10 rfl (fun h=>absurd h (by simp;omega)) (fun _=>?_)
    refine zaf Tk Tryz.func10 (hcf _ rfl) rfl rfl rfl rfl rfl ?_
    cases B2 with
    | true=>
     have hP:=hP2 (by omega) rfl
     simp only[Prod.mk.injEq] at hP
     obtain⟨rfl,rfl⟩:=hP
     repeat (first | refine gcT Tk Tryz.func10 rfl ?_ | refine gkT Tk Tryz.func10 rfl ?_ | refine skT Tk ?_ | refine gcF Tk Tryz.func10 rfl ?_ | refine gkF Tk Tryz.func10 rfl ?_ | refine skF Tk ?_)
     refine zak Tk (r:=bb true) rfl rfl rfl trivial rfl rfl ?_
     rfl
    | false=>
     have hP:=hP3 (by omega) rfl
     simp only[Prod.mk.injEq] at hP
     obtain⟨rfl,rfl⟩:=hP
     clear hP1 hP2 hP3
     refine gcF Tk Tryz.func10 rfl ?_
     refine zaE Tk Tryz.func10 zaM rfl ?_
     refine skT Tk ?_
     refine zaX Tk (fun _=>k4 _) rfl rfl rfl ?_
     refine zaX Tk (fun _=>hcn _) rfl rfl rfl ?_
     refine zaS Tk Tryz.func10 (by kernel_rfl) ?_
     cases p1 with
     | true=>
      refine zak Tk (r:=bb true) rfl rfl rfl trivial rfl rfl ?_
      rfl
     | false=>
      refine zak Tk (r:=bb true) rfl rfl rfl trivial rfl rfl ?_
      rfl
 ·rw[decide_eq_false hf] at h1
  clear hf h
  obtain⟨xst,xps,xpm,xpt,xss,xsm,xt2,xob,xct⟩:=x
  refine za3 [] Tk Tryz.func10 rfl Tryz.call10 Tryz.ntmps10 (Nat.le_of_ble_eq_true rfl) fun E hE=>?_
  refine zae Tk Tryz.func10 ?_
  refine zba Tk Tryz.func10 hE (hk _) rfl rfl rfl rfl rfl rfl ?_
  refine gkF Tk Tryz.func10 rfl ?_
  refine zaf Tk Tryz.func10 (h1 _) rfl rfl rfl rfl rfl ?_
  repeat (first | refine gcT Tk Tryz.func10 rfl ?_ | refine gkT Tk Tryz.func10 rfl ?_ | refine skT Tk ?_ | refine gcF Tk Tryz.func10 rfl ?_ | refine gkF Tk Tryz.func10 rfl ?_ | refine skF Tk ?_)
  refine zba Tk Tryz.func10 hE (hk _) rfl rfl rfl rfl rfl rfl ?_
  refine zak Tk (r:=bb true) rfl rfl rfl trivial rfl rfl ?_
  rfl
end Go.AI


namespace Go.Proofs.YtlcekmemdnjjbaaGreatDoor
set_option maxRecDepth 100000
theorem zbh:laidOutB Tryz.prog=true:=by kernel_rfl
theorem zc9:mapsRowed Tryz.prog=true:=by kernel_rfl
theorem zc2:(Rows.observabilityPermitsRow.inPlace==Tryz.prog.inPlace 10)=true:=by kernel_rfl
theorem zc1:(Rows.observabilityPermitsRow.unfollowed==Tryz.prog.unfollowed 10)=true:=by kernel_rfl
theorem zc0:(Rows.observabilityPermitsRow.recurses==Tryz.prog.recurses 10)=true:=by kernel_rfl
theorem zcZ:(Rows.observabilityPermitsRow.named==Tryz.prog.varsNamed 10)=true:=by kernel_rfl
theorem zcw:joinedFacts Tryz.prog 10 Tryz.f10 Rows.observabilityPermitsSpec Rows.observabilityPermitsRow=true:=by
 simp only[joinedFacts,Bool.and_eq_true]
 repeat' refine And.intro ?_ ?_
 ·kernel_rfl
 ·exact zbh
 ·exact zc9
 ·kernel_rfl
 ·kernel_rfl
 ·kernel_rfl
 ·kernel_rfl
 ·kernel_rfl
 ·kernel_rfl
 ·exact zc2
 ·exact zc1
 ·exact zc0
 ·exact zcZ
 ·kernel_rfl
 ·kernel_rfl
 ·kernel_rfl
 ·kernel_rfl
 ·kernel_rfl
 ·kernel_rfl
 ·kernel_rfl
 ·kernel_rfl
 ·kernel_rfl
 ·kernel_rfl
 ·kernel_rfl
 ·kernel_rfl
 ·kernel_rfl
 ·kernel_rfl
 ·kernel_rfl
 ·kernel_rfl
 ·kernel_rfl
 ·kernel_rfl
 ·kernel_rfl
theorem zcM : Tryz.prog.mainIs = some (true, "5041c38c3c15c3199033450f7632fe41f4871cb850793ec5542bbc9f8af1fc7c".toList) := by kernel_rfl
theorem zcD:false=Tryz.prog.looks []:=by kernel_rfl
theorem zcN:false=Rows.observabilityPermitsRow.goesBy Tryz.prog:=by kernel_rfl
end Go.Proofs.YtlcekmemdnjjbaaGreatDoor
