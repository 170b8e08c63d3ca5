/- The layer of abstract runs, part 30. -/
import Derived.Test.YtlcekmemdnjjbaaGreatDoorAshZC
set_option linter.unusedSimpArgs false
set_option linter.unusedVariables false
set_option linter.all false

set_option maxHeartbeats 4000000
namespace Go.AI
open Go.Proofs
set_option maxRecDepth 20000
abbrev fdI (x:Fd):List I:=[vi x.1,zbu x.2]
abbrev fdD (x:Fd):D:=.agg [ii x.1,ints x.2]
abbrev ofds (l:List Fd):Ob:=.arr 178 2 l.length (l.map fdI) true
abbrev fdsD (l:List Fd):D:=.i (.sl 2 l.length (l.map fdI))
abbrev Srt (l:List Fd):Prop:=l.Pairwise fun x y => rk x.2 < rk y.2
open Classical in
noncomputable def srtF (l:List Fd):List Fd:=if h:∃ m:List Fd,Srt m ∧ m.Perm l then h.choose else l
theorem zez {l m:List Fd} (h1:Srt m) (h2:m.Perm l):m = srtF l ∧ Srt (srtF l) ∧ (srtF l).Perm l:=by
 have hex:∃ m:List Fd,Srt m ∧ m.Perm l:=⟨m,h1,h2⟩
 have e:srtF l = hex.choose:=by unfold srtF; rw [dif_pos hex]
 have hs:=hex.choose_spec
 rw [e]
 exact ⟨zka h1 hs.1 fun x => by rw [h2.mem_iff,hs.2.mem_iff],hs⟩
theorem zoD:∀ (P:List Fd) (p x:Fd) (T:List Fd),(((P ++ p :: x :: T).map fdI).set (P.length + 1) (fdI p)).set P.length (fdI x) = (P ++ x :: p :: T).map fdI
 | [],p,x,T => rfl
 | q :: P,p,x,T => by
  have:=zoD P p x T
  simp only [List.cons_append,List.map_cons,List.length_cons,List.set_cons_succ,this]
theorem zvW (P:List Fd):P = [] ∨ ∃ Q p,P = Q ++ [p]:=by
 by_cases h:P = []
 ·exact .inl h
 ·exact .inr ⟨P.dropLast,P.getLast h,(List.dropLast_concat_getLast h).symm⟩
theorem zua (O:List Heap) (x y:Fd) (hx:x.2.length ≤ 1000000) (hy:y.2.length ≤ 1000000):zan Tryz.prog 143 [fdD x,fdD y] O (ii (cmpW x.2 y.2)) [] O:=by
 have h:=fun O => zmi O x.2 y.2 hx hy
 refine zad Tk Tryz.func143 rfl Tryz.call143 Tryz.ntmps143 (Nat.le_of_ble_eq_true rfl) fun E => ?_
 refine zae Tk Tryz.func143 ?_
 refine zaf Tk Tryz.func143 (h _) rfl rfl rfl rfl rfl ?_
 refine zal Tk (r:=ii (cmpW x.2 y.2)) rfl rfl rfl trivial rfl rfl ?_
 rfl
abbrev zp2:D:=.fn (.func 143) [] []
theorem fget {A:List Fd} {x:Fd} {T:List Fd} {k:Nat} (hk:k = A.length):((A ++ x :: T).map fdI)[((k:Nat):Int).toNat]? = some (fdI x):=by
 subst hk
 simp
set_option maxHeartbeats 8000000 in
theorem zvi (O:List Heap) (d nm:Nat) (l:List Fd) (hl:l.length ≤ 1000) (hw:∀ x ∈ l,x.2.length ≤ 1000000) (hin:∀ x ∈ l,inW x.2) (hnd:l.Pairwise fun x y => rk x.2 ≠ rk y.2) (ho:zaa O d nm = some (ofds l)):zan Tryz.prog 210 [.osl d nm,ii 0,ii l.length,zp2] O (.tup []) [] (setAt O d nm (ofds (srtF l))):=by
 have hc:=fun O x y (hx:x ∈ l) (hy:y ∈ l) => zua O x y (hw x hx) (hw y hy)
 cases l with
 | nil =>
  have hs:srtF [] = []:=(zez (l:=[]) (m:=[]) .nil (List.Perm.refl _)).1.symm
  rw [hs]
  refine zad Tk Tryz.func210 rfl Tryz.call210 Tryz.ntmps210 (Nat.le_of_ble_eq_true rfl) fun E => ?_
  refine zae Tk Tryz.func210 ?_
  refine zac ?_
  refine zae Tk Tryz.func210 ?_
  refine gcF Tk Tryz.func210 rfl ?_
  refine zcJ (wk_S (S':=_ :: setAt O d nm (ofds [])) (ze5 (zdu ho))) ?_
  refine zal Tk (r:=.tup []) rfl rfl rfl trivial rfl rfl ?_
  rfl
 | cons z r =>
 generalize hL:z :: r = l at *
 have hpos:1 ≤ l.length:=by rw [← hL]; simp
 refine zad Tk Tryz.func210 rfl Tryz.call210 Tryz.ntmps210 (Nat.le_of_ble_eq_true rfl) fun E => ?_
 refine zae Tk Tryz.func210 ?_
 refine g_wk (wk_S (S':=_ :: setAt O d nm (ofds ([z] ++ r))) (ze5 (zdu (by rw [ho,← hL]; rfl)))) ?_
 refine zac ?_
 refine zah (fun x:List Fd × List Fd => [(0,.osl (d + 1) nm),(1,ii 0),(2,ii l.length),(3,zp2),(8,ii x.1.length)]) (fun _ => []) (fun x => setAt O d nm (ofds (x.1 ++ x.2))) 53
  (fun x => Srt x.1 ∧ (x.1 ++ x.2).Perm l) (fun x => x.2.length) ([z],r) ⟨List.pairwise_singleton _ _,by rw [← hL]; exact List.Perm.refl _⟩ ⟨rfl,rfl,rfl,rfl,rfl,trivial⟩ rfl trivial rfl rfl ?_
 rintro ⟨A,R⟩ ⟨hA,hp⟩ ih
 simp only at hA hp
 have hlen:A.length + R.length = l.length:=by rw [← hp.length_eq,List.length_append]
 refine zae Tk Tryz.func210 ?_
 refine zai Tk Tryz.func210 rfl (fun g1 => ?_) (fun g1 => ?_)
 ·have g1:A.length < l.length:=by simpa using g1
  obtain ⟨x,R',rfl⟩:∃ x R',R = x :: R':=by
   cases R with
   | nil => simp at hlen; omega
   | cons x R' => exact ⟨x,R',rfl⟩
  have hxl:x ∈ l:=hp.mem_iff.1 (by simp)
  refine zac ?_
  refine zah (fun y:List Fd × List Fd => [(0,.osl (d + 1) nm),(1,ii 0),(2,ii l.length),(3,zp2),(8,ii A.length),(9,ii y.1.length)]) (fun _ => []) (fun y => setAt O d nm (ofds (y.1 ++ x :: (y.2 ++ R')))) 53
   (fun y => Srt (y.1 ++ y.2) ∧ (∀ s ∈ y.2,rk x.2 < rk s.2) ∧ y.1 ++ y.2 = A ∧ (y.1 ++ x :: (y.2 ++ R')).Perm l) (fun y => y.1.length) (A,[]) ⟨by simpa using hA,by simp,by simp,by simpa using hp⟩ ⟨rfl,rfl,rfl,rfl,rfl,rfl,trivial⟩ rfl trivial rfl rfl ?_
  rintro ⟨P,S⟩ ⟨hPS,hS,hA2,hp2⟩ ih2
  simp only at hPS hS hA2 hp2
  have hxx:=hin x hxl
  rcases zvW P with rfl | ⟨Q,p,rfl⟩
  ·rw [List.nil_append] at hPS hA2 hp2
   subst hA2
   have hi1:ii (IntKind.i64.wrap ((S.length:Int) + 1)) = ii ((x :: S:List Fd).length:Int):=congrArg ii (zaB (n:=1000001) (by omega) (by decide))
   refine zae Tk Tryz.func210 ?_
   refine zaD Tk Tryz.func210 zaN rfl ?_
   refine zcW Tk (fun h => absurd h (by simp)) (fun _ => ?_)
   refine zaS Tk Tryz.func210 (by kernel_rfl) ?_
   refine zai Tk Tryz.func210 rfl (fun h => absurd h (by simp)) (fun _ => ?_)
   refine zac ?_
   refine ih (x :: S,R') _ _ ⟨List.pairwise_cons.2 ⟨hS,hPS⟩,by simpa using hp2⟩ (by simp) ⟨rfl,rfl,rfl,rfl,hi1,trivial⟩ rfl trivial rfl rfl
  ·have hpl:p ∈ l:=hp2.mem_iff.1 (by simp)
   have e1:(Q ++ [p]) ++ x :: (S ++ R') = Q ++ p :: x :: (S ++ R'):=by simp
   have e2:((Q ++ [p]).length:Int) = ((Q.length + 1:Nat):Int):=by simp
   have hq:=hlen
   have hQA:Q.length + 1 + S.length = A.length:=by rw [← hA2]; simp; omega
   have w1:IntKind.i64.wrap (((Q.length + 1:Nat):Int) - 1) = (Q.length:Int):=by rw [w64 (by omega) (by omega)]; omega
   have gx:((Q ++ p :: x :: (S ++ R')).map fdI)[(((Q.length + 1:Nat):Int)).toNat]? = some (fdI x):=by
    have:=fget (A:=Q ++ [p]) (x:=x) (T:=S ++ R') (k:=Q.length + 1) (by simp)
    rwa [e1] at this
   have gp:((Q ++ p :: x :: (S ++ R')).map fdI)[(IntKind.i64.wrap (((Q.length + 1:Nat):Int) - 1)).toNat]? = some (fdI p):=by rw [w1]; exact fget rfl
   have hlt:=zgN hxx (hin p hpl)
   have hcc:=fun O => hc O x p hxl hpl
   rw [e2,e1]
   rw [e1] at hp2
   have hll:(Q ++ p :: x :: (S ++ R')).length = l.length:=hp2.length_eq
   generalize cmpW x.2 p.2 = cw at *
   obtain ⟨xs,xw⟩:=x
   obtain ⟨ps,pw⟩:=p
   have hob:=fun O' (h:zaa O' d nm = some (ofds (Q ++ (ps,pw) :: (xs,xw) :: (S ++ R')))) => zaI (H:=([]:Heap)) h
   refine zae Tk Tryz.func210 ?_
   refine zaD Tk Tryz.func210 zaN rfl ?_
   refine zcW Tk (fun _ => ?_) (fun h => absurd h (by simp))
   refine zfU Tk (zaI (H:=([]:Heap)) (zaE ho)) ?_
   refine zaz Tk (by exact ⟨by omega,by show ((Q.length + 1:Nat):Int) < ((Q ++ (ps,pw) :: (xs,xw) :: (S ++ R')).length:Int); rw [hll]; omega⟩) ?_
   refine zfU Tk (zaI (H:=([]:Heap)) (zaE ho)) ?_
   refine zaJ Tk (gx) ?_
   refine zfU Tk (zaI (H:=([]:Heap)) (zaE ho)) ?_
   refine zaz Tk (by exact ⟨by show (0:Int) ≤ IntKind.i64.wrap (((Q.length + 1:Nat):Int) - 1); rw [w1]; omega,by show IntKind.i64.wrap (((Q.length + 1:Nat):Int) - 1) < ((Q ++ (ps,pw) :: (xs,xw) :: (S ++ R')).length:Int); rw [w1,hll]; omega⟩) ?_
   refine zfU Tk (zaI (H:=([]:Heap)) (zaE ho)) ?_
   refine zaJ Tk (gp) ?_
   refine za2 Tk (fun _ => hcc _) rfl rfl rfl ?_
   refine zaS Tk Tryz.func210 (by kernel_rfl) ?_
   refine zai Tk Tryz.func210 rfl (fun c1 => ?_) (fun c1 => ?_)
   ·have c1:cw < 0:=of_decide_eq_true c1
    have hrk:=hlt.1 c1
    have e3:Ob.arr 178 2 (Q ++ (ps,pw) :: (xs,xw) :: (S ++ R')).length ((((Q ++ (ps,pw) :: (xs,xw) :: (S ++ R')).map fdI).set (((Q.length + 1:Nat):Int)).toNat (fdI (ps,pw))).set (IntKind.i64.wrap (((Q.length + 1:Nat):Int) - 1)).toNat (fdI (xs,xw))) true = ofds (Q ++ (xs,xw) :: ((ps,pw) :: S ++ R')):=by
     rw [w1]
     show Ob.arr 178 2 _ ((((Q ++ (ps,pw) :: (xs,xw) :: (S ++ R')).map fdI).set (Q.length + 1) (fdI (ps,pw))).set Q.length (fdI (xs,xw))) true = _
     rw [zoD]
     simp [ofds]
    refine zsh Tk 15 rfl ?_
    refine zfU Tk (zaI (H:=([]:Heap)) (zaE ho)) ?_
    refine zaz Tk (by exact ⟨by show (0:Int) ≤ IntKind.i64.wrap (((Q.length + 1:Nat):Int) - 1); rw [w1]; omega,by show IntKind.i64.wrap (((Q.length + 1:Nat):Int) - 1) < ((Q ++ (ps,pw) :: (xs,xw) :: (S ++ R')).length:Int); rw [w1,hll]; omega⟩) ?_
    refine zfU Tk (zaI (H:=([]:Heap)) (zaE ho)) ?_
    refine zaJ Tk (gp) ?_
    refine zfU Tk (zaI (H:=([]:Heap)) (zaE ho)) ?_
    refine zaz Tk (by exact ⟨by omega,by show ((Q.length + 1:Nat):Int) < ((Q ++ (ps,pw) :: (xs,xw) :: (S ++ R')).length:Int); rw [hll]; omega⟩) ?_
    refine zfU Tk (zaI (H:=([]:Heap)) (zaE ho)) ?_
    refine zaJ Tk (gx) ?_
    refine zfU Tk (zaI (H:=([]:Heap)) (zaE ho)) ?_
    refine zaz Tk (by exact ⟨by omega,by show ((Q.length + 1:Nat):Int) < ((Q ++ (ps,pw) :: (xs,xw) :: (S ++ R')).length:Int); rw [hll]; omega⟩) ?_
    refine zwc Tk Tryz.func210 zaN (N:=15) [16,17] [2,3,4] (by kernel_rfl) rfl rfl rfl rfl rfl rfl rfl rfl rfl rfl (zaE ho) (by kernel_rfl) (by kernel_rfl) ?_ (by kernel_rfl) ?_
    ·intro i hi
     simp only [List.mem_cons,List.not_mem_nil,or_false] at hi
     rcases hi with rfl | rfl | rfl
     ·exact ⟨_,_,_,rfl,rfl,rfl,rfl,rfl,rfl,rfl⟩
     ·exact ⟨_,_,_,rfl,rfl,rfl,rfl,rfl,rfl,rfl⟩
     ·exact ⟨_,_,_,rfl,rfl,rfl,rfl,rfl,rfl,rfl⟩
    refine zbg Tk Tryz.func210 (zaI (H:=([]:Heap)) (zaE (zaE ho))) ?_
    refine zag Tk Tryz.func210 (by exact ⟨by show (0:Int) ≤ IntKind.i64.wrap (((Q.length + 1:Nat):Int) - 1); rw [w1]; omega,by show IntKind.i64.wrap (((Q.length + 1:Nat):Int) - 1) < ((Q ++ (ps,pw) :: (xs,xw) :: (S ++ R')).length:Int); rw [w1,hll]; omega⟩) ?_
    refine zbg Tk Tryz.func210 (zaI (H:=([]:Heap)) (zaE (zaE ho))) ?_
    refine g_wk (wk_S (S':=_ :: setAt O d nm (ofds (Q ++ (xs,xw) :: ((ps,pw) :: S ++ R')))) (ze5 fun d' n' => by rw [← e3]; exact (zhn d' n').trans (zhn d' n'))) ?_
    refine zac ?_
    refine ih2 (Q,(ps,pw) :: S) _ _ ⟨by simpa using hPS,fun s hs => ?_,by simpa using hA2,?_⟩ (by simp) ⟨rfl,rfl,rfl,rfl,rfl,congrArg ii w1,trivial⟩ rfl trivial rfl rfl
    ·rcases List.mem_cons.1 hs with rfl | hs
     ·exact hrk
     ·exact hS s hs
    ·exact (List.Perm.append_left Q (List.Perm.swap _ _ _)).trans hp2
   ·have c1:¬ cw < 0:=of_decide_eq_false c1
    have hrk:¬ rk xw < rk pw:=fun h => c1 (hlt.2 h)
    have hne:=(hp2.pairwise_iff (R:=fun x y:Fd => rk x.2 ≠ rk y.2) (fun h => Ne.symm h)).2 hnd
    have hne2:rk pw ≠ rk xw:=by
     have h1:=(List.pairwise_append.1 hne).2.1
     exact (List.pairwise_cons.1 h1).1 (xs,xw) (by simp)
    have hsrt:Srt ((Q ++ [(ps,pw)]) ++ (xs,xw) :: S):=by
     obtain ⟨h1,h2,h3⟩:=List.pairwise_append.1 hPS
     refine List.pairwise_append.2 ⟨h1,List.pairwise_cons.2 ⟨hS,h2⟩,fun a ha b hb => ?_⟩
     rcases List.mem_cons.1 hb with rfl | hb
     ·rcases List.mem_append.1 ha with ha' | ha'
      ·have:=(List.pairwise_append.1 h1).2.2 a ha' (ps,pw) (by simp)
       simp only at this ⊢
       omega
      ·rw [List.mem_singleton] at ha'
       subst ha'
       simp only
       omega
     ·exact h3 a ha b hb
    have hi1:ii (IntKind.i64.wrap ((A.length:Int) + 1)) = ii (((Q ++ [(ps,pw)]) ++ (xs,xw) :: S:List Fd).length:Int):=by
     rw [zaB (n:=1000001) (by omega) (by decide),← hA2]
     simp
     omega
    refine zac ?_
    refine ih ((Q ++ [(ps,pw)]) ++ (xs,xw) :: S,R') _ _ ⟨hsrt,by simpa using hp2⟩ (by simp) ⟨rfl,rfl,rfl,rfl,hi1,trivial⟩ (congrArg (fun L => _ :: setAt O d nm (ofds L)) (by simp:Q ++ (ps,pw) :: (xs,xw) :: (S ++ R') = ((Q ++ [(ps,pw)]) ++ (xs,xw) :: S) ++ R')) trivial rfl rfl
 ·have g1:l.length ≤ A.length:=by simpa using g1
  obtain rfl:R = []:=List.eq_nil_of_length_eq_zero (by omega)
  rw [List.append_nil] at hp ⊢
  have hs:=(zez hA hp).1
  rw [← hs]
  refine zal Tk (r:=.tup []) rfl rfl rfl trivial rfl rfl ?_
  rfl
end Go.AI


namespace Go.AI
open Go.Proofs
set_option maxRecDepth 20000
theorem zjM {l:List Fd} (hnd:l.Pairwise fun x y => rk x.2 ≠ rk y.2):(srtF l).length = l.length:=by
 by_cases h:∃ m:List Fd,Srt m ∧ m.Perm l
 ·obtain ⟨m,h1,h2⟩:=h
  exact (zez h1 h2).2.2.length_eq
 ·unfold srtF; rw [dif_neg h]
theorem zoL (O:List Heap) (d nm:Nat) (l:List Fd) (hl:l.length ≤ 19) (hw:∀ x ∈ l,x.2.length ≤ 1000000) (hin:∀ x ∈ l,inW x.2) (hnd:l.Pairwise fun x y => rk x.2 ≠ rk y.2) (ho:zaa O d nm = some (ofds l)):zan Tryz.prog 178 [.osl d nm,ii l.length,zp2] O (.tup []) [] (setAt O d nm (ofds (srtF l))):=by
 have h:=fun O d ho => zvi O d nm l (by omega) hw hin hnd ho
 have hsl:=zjM hnd
 refine zad Tk Tryz.func178 rfl Tryz.call178 Tryz.ntmps178 (Nat.le_of_ble_eq_true rfl) fun E => ?_
 refine zae Tk Tryz.func178 ?_
 refine zac ?_
 refine zae Tk Tryz.func178 ?_
 refine zai Tk Tryz.func178 rfl (fun h => absurd h (by simp; omega)) (fun _ => ?_)
 refine zaf Tk Tryz.func178 (h _ (d + 1) (zaI (H:=([]:Heap)) ho)) rfl rfl rfl (ziT (zaI (H:=([]:Heap)) ho) (by simp [Ob.sh,hsl])) rfl ?_
 refine zac ?_
 refine zae Tk Tryz.func178 ?_
 refine zai Tk Tryz.func178 rfl (fun h => absurd h (by simp; omega)) (fun _ => ?_)
 refine zal Tk (r:=.tup []) rfl rfl rfl trivial rfl rfl ?_
 rfl
theorem ztH (O:List Heap) (d nm:Nat) (l:List Fd) (hl:l.length ≤ 19) (hw:∀ x ∈ l,x.2.length ≤ 1000000) (hin:∀ x ∈ l,inW x.2) (hnd:l.Pairwise fun x y => rk x.2 ≠ rk y.2) (ho:zaa O d nm = some (ofds l)):zan Tryz.prog 142 [.osl d nm,zp2] O (.tup []) [] (setAt O d nm (ofds (srtF l))):=by
 have h:=fun O d ho => zoL O d nm l hl hw hin hnd ho
 have hsl:=zjM hnd
 refine zad Tk Tryz.func142 rfl Tryz.call142 Tryz.ntmps142 (Nat.le_of_ble_eq_true rfl) fun E => ?_
 refine zae Tk Tryz.func142 ?_
 refine zbg Tk Tryz.func142 (zaI ho) ?_
 refine zaf Tk Tryz.func142 (h _ (d + 1) (zaI (H:=([]:Heap)) ho)) rfl rfl rfl (ziT (zaI (H:=([]:Heap)) ho) (by simp [Ob.sh,hsl])) rfl ?_
 refine zal Tk (r:=.tup []) rfl rfl rfl trivial rfl rfl ?_
 rfl
theorem zvT (O:List Heap) (x:Fd) (t:Int) (d nm:Nat) (ho:zaa O d nm = some (.box [ii t])):zan Tryz.prog 144 [fdD x,.own d nm 0 0] O (bb (x.1 == t)) [] O:=by
 refine zad Tk Tryz.func144 rfl Tryz.call144 Tryz.ntmps144 (Nat.le_of_ble_eq_true rfl) fun E => ?_
 refine zae Tk Tryz.func144 ?_
 refine zbg Tk Tryz.func144 (zaI ho) ?_
 refine zal Tk (r:=bb (x.1 == t)) rfl rfl rfl trivial rfl rfl ?_
 rfl
theorem zvU (O:List Heap) (x:Fd) (t:Int) (d nm:Nat) (ho:zaa O d nm = some (.box [ii t])):zan Tryz.prog 100 [fdD x,.own d nm 0 0] O (bb (x.1 == t)) [] O:=by
 refine zad Tk Tryz.func100 rfl Tryz.call100 Tryz.ntmps100 (Nat.le_of_ble_eq_true rfl) fun E => ?_
 refine zae Tk Tryz.func100 ?_
 refine zbg Tk Tryz.func100 (zaI ho) ?_
 refine zal Tk (r:=bb (x.1 == t)) rfl rfl rfl trivial rfl rfl ?_
 rfl
theorem zpI (O:List Heap) (l:List Fd) (f:Nat) (e w d nm:Nat) (p:Fd → Bool) (hl:l.length ≤ 1000000) (ho:zaa O e w = some (ofds l)) (hp:∀ x ∈ l,zan Tryz.prog f [fdD x,.own (d + 1) nm 0 0] ([] :: O) (bb (p x)) [] ([] :: O)) :
  zan Tryz.prog 99 [.osl e w,.fn (.func f) [] [.own d nm 0 0]] O (ii (zay p l 0)) [] O:=by
 generalize hR:zay p l 0 = R
 refine zad Tk Tryz.func99 rfl Tryz.call99 Tryz.ntmps99 (Nat.le_of_ble_eq_true rfl) fun E => ?_
 refine zae Tk Tryz.func99 ?_
 refine zbg Tk Tryz.func99 (zaI ho) ?_
 refine zac ?_
 refine zah (fun i:Nat => [(0,.osl (e + 1) w),(1,.fn (.func f) [] [.own (d + 1) nm 0 0]),(7,ii l.length),(8,ii i)]) (fun _ => []) (fun _ => O) 19
  (fun i => i ≤ l.length ∧ zay p (l.drop i) i = R) (fun i => l.length - i) 0 ⟨Nat.zero_le _,hR⟩ ⟨rfl,rfl,rfl,rfl,trivial⟩ rfl trivial rfl rfl ?_
 rintro i ⟨hi,hno⟩ ih
 clear hR
 refine zae Tk Tryz.func99 ?_
 refine zai Tk Tryz.func99 rfl (fun g1 => ?_) (fun g1 => ?_)
 ·have h1:i < l.length:=by simpa using g1
  have gs:(l.map fdI)[(i:Int).toNat]? = some (fdI l[i]):=zaj h1
  have hps:=hp l[i] (List.getElem_mem h1)
  have hd:l.drop i = l[i] :: l.drop (i + 1):=List.drop_eq_getElem_cons h1
  rw [hd] at hno
  simp only [zay] at hno
  clear hd
  generalize l[i] = s at *
  refine zbg Tk Tryz.func99 (zaI ho) ?_
  refine zag Tk Tryz.func99 (by exact ⟨by omega,by show (i:Int) < (l.length:Int); omega⟩) ?_
  refine zbg Tk Tryz.func99 (zaI ho) ?_
  refine zap Tk Tryz.func99 (gs) ?_
  refine zaf Tk Tryz.func99 (hps) rfl rfl rfl rfl rfl ?_
  refine zai Tk Tryz.func99 rfl (fun g2 => ?_) (fun g2 => ?_)
  ·rw [if_pos g2] at hno
   subst hno
   refine zal Tk (r:=ii (i:Int)) rfl rfl rfl trivial rfl rfl ?_
   rfl
  ·rw [if_neg (by rw [g2]; simp)] at hno
   refine zac ?_
   exact ih (i + 1) _ _ ⟨h1,hno⟩ (by omega) ⟨rfl,rfl,rfl,congrArg ii (zaB (n:=1000001) (by omega) (by decide)),trivial⟩ rfl trivial rfl rfl
 ·have h1:l.length ≤ i:=by simpa using g1
  rw [List.drop_eq_nil_of_le h1] at hno
  simp only [zay] at hno
  subst hno
  refine zal Tk (r:=ii (-1)) rfl rfl rfl trivial rfl rfl ?_
  rfl
theorem zqu (O:List Heap) (l:List Fd) (hl:l.length ≤ 1000000):zan Tryz.prog 141 [fdsD l] O (.osl 0 208) [(208,ofds l)] O:=by
 refine zad Tk Tryz.func141 rfl Tryz.call141 Tryz.ntmps141 (Nat.le_of_ble_eq_true rfl) fun E => ?_
 refine zae Tk Tryz.func141 ?_
 refine zpW Tk Tryz.func141 rfl rfl fun b hb => ?_
 refine zai Tk Tryz.func141 rfl (fun h1 => ?_) (fun h1 => ?_)
 ·have hl0:l = []:=List.eq_nil_of_length_eq_zero (hb h1)
  subst hl0
  refine zcJ (zb4 2 208 178 2 rfl rfl rfl) ?_
  exact ⟨zbm (hT:=Tk) (r:=.osl 0 208) rfl rfl rfl ⟨⟨_,rfl,rfl⟩,trivial⟩ (zeh _ _ _) rfl rfl⟩
 ·refine zag Tk Tryz.func141 (by exact ⟨by show (0 + l.length) * 32 ≤ 140737488355328; omega,by show 0 + l.length ≤ 9223372036854775807; omega⟩) ?_
  refine zcJ (ziI (l:=[(2,.osl 0 7)]) (Hv:=[(7,.arr 178 2 (0 + l.length) ([] ++ l.map fdI) true)]) ⟨rfl,trivial⟩ rfl ⟨rfl,trivial⟩ rfl rfl) ?_
  rw [Nat.zero_add,List.nil_append]
  refine zcJ (zcT 7 208 rfl rfl rfl) ?_
  exact ⟨zbm (hT:=Tk) (r:=.osl 0 208) rfl rfl rfl ⟨⟨_,rfl,rfl⟩,trivial⟩ (zeh _ _ _) rfl rfl⟩
end Go.AI


namespace Go.AI
section
variable {P:Program} {T:TT} {E:Env} {K:Kn} {ρ:Nat → Nat → Loc} {S:List Heap} {w:World}
theorem zdz (w:World) (o:Obj) (b:Nat) (h:b < w.heap.size):(w.alloc o).heap[b]? = w.heap[b]?:=by first | exact heap_alloc_old w o b h | exact heap_alloc_old w o h
theorem zsG {t:Nat} {i:TI} {l:Loc} {ty n m:Nat} {xs ys:List (List I)} {sh:Nat → Nat → Option Sh} (hu:P.underlying t = some (.slice ty)) (hok:TIok P ty i) (h:OwnAt K ρ sh w l (.arr ty i.size n xs true))
  {v:Value} (hy:Now K w v i.size m ys) (hb:(n + m) * i.bytes ≤ 140737488355328) (h63:n + m ≤ 9223372036854775807) (rty:TypeId) (hfresh:∀ o,K w.heap.size o = none) :
  ∃ l' w',(Builtin.append_ #[t,t] rty #[.slice l.base n l.cap,v]).run P w = .ok (.slice l'.base (n + m) l'.cap) w' ∧
   (∀ (ρ':Nat → Nat → Loc) (sh':Nat → Nat → Option Sh),OwnAt K ρ' sh' w' l' (.arr ty i.size (n + m) (xs ++ ys) true)) ∧ Apnd K w w' l l' ∧ (l' = l ∨ (w.heap.size ≤ l'.block ∧ ∀ b,b < w.heap.size → w'.heap[b]? = w.heap[b]?)):=by
 obtain ⟨inf,hi1,hi2,hi3,z,hi4,hi5,-⟩:=hok.info
 have hzs:z.cells.size = i.size:=by rw [← Array.length_toList,hi5,hok.len]
 obtain ⟨olds,hrx,hrow⟩:=zh3 h
 obtain ⟨hym,hyel,p,cap,rfl,hyat⟩:=hy
 have h':=h
 obtain ⟨h1,h2,h3,h4,h5⟩:=h'
 have hlx:olds.length = n * i.size:=by rw [hrx.length,zbe xs h1,h2]
 have sameR:∀ v',v' = Value.slice l.base n l.cap → (Builtin.append_ #[t,t] rty #[.slice l.base n l.cap,.slice p m cap]).run P w = .ok v' w → m = 0 →
   ∃ l' w',(Builtin.append_ #[t,t] rty #[.slice l.base n l.cap,.slice p m cap]).run P w = .ok (.slice l'.base (n + m) l'.cap) w' ∧
    (∀ (ρ':Nat → Nat → Loc) (sh':Nat → Nat → Option Sh),OwnAt K ρ' sh' w' l' (.arr ty i.size (n + m) (xs ++ ys) true)) ∧ Apnd K w w' l l' ∧ (l' = l ∨ (w.heap.size ≤ l'.block ∧ ∀ b,b < w.heap.size → w'.heap[b]? = w.heap[b]?)):=by
  intro v' hv' hrun hm0
  subst hv'
  subst hm0
  have hys:ys = []:=List.eq_nil_of_length_eq_zero hym
  subst hys
  refine ⟨l,w,by simpa using hrun,fun ρ' sh' => by simpa using (show OwnAt K ρ' sh' w l (.arr ty i.size n xs true) from h),⟨Nat.le_refl _,fun _ _ _ => rfl,⟨rfl,rfl,rfl⟩,fun hb => .inr ⟨hb,rfl⟩⟩,.inl rfl⟩
 rcases hyat with ⟨rfl,rfl,rfl⟩ | ⟨ad,news,rfl,hry,hadd⟩
 ·exact sameR _ rfl (run_append_owned_none w 0 t rty ty inf i.size hu hi1 _ n olds hrow) rfl
 ·have hly:news.length = m * i.size:=by rw [hry.length,zbe ys hyel,hym]
  have hgm:∀ old,grownCap w (n + m) old ty ≤ maxLen:=fun old => grownCap_le_maxLen w (n + m) old ty (by simp only [maxLen]; omega)
  have hgg:∀ old,n + m ≤ grownCap w (n + m) old ty:=fun old => grownCap_ge w (n + m) old ty
  rcases h5 with ⟨h5,h6⟩ | ⟨h5,c,h6,h7,h8,h9,_⟩
  ·have hn:n = 0:=by omega
   subst hn
   have hx:xs = []:=List.eq_nil_of_length_eq_zero h2
   subst hx
   by_cases hm0:m = 0
   ·subst hm0
    have hnews:news = []:=List.eq_nil_of_length_eq_zero (by simpa using hly)
    subst hnews
    refine sameR (.slice none 0 0) (by rw [h5,h6]) ?_ rfl
    rw [h5,h6]
    simp [Builtin.append_,run_underlying hu,Go.sizeOf,typeInfo,hi1,Builtin.lenOf,Builtin.firstCells,loadCells,loadCellsFrom]
   ·have hr:=run_append_nil (P:=P) w t rty ty inf z hu hi1 hi4 ad m cap news (by rw [hi2]; exact hly) hadd (by omega) (by omega) (by rw [hi3]; simp only [Nat.zero_add] at hb; omega)
    have hg:=hgg 0
    have hgm0:=hgm 0
    simp only [Nat.zero_add] at hg hgm0
    have hf:=fun (ρ':Nat → Nat → Loc) (sh':Nat → Nat → Option Sh) => zeW (K:=K) (w:=w) (l:=l) (xs:=[]) (ys:=ys) (n:=0) (m:=m) (ρ':=ρ') (sh':=sh') (sh:=sh') hok rfl .nil hry (by simp) hyel rfl hym (by simpa using hg) hgm0 hzs hfresh (w1:=w.drew) ⟨rfl,rfl,rfl,rfl⟩
    refine ⟨⟨w.heap.size,_,some ⟨w.heap.size,0,none⟩⟩,_,?_,fun ρ' sh' => (hf ρ' sh').1,(hf ρ sh).2,.inr ⟨Nat.le_refl _,fun b hb => zdz w.drew _ b hb⟩⟩
    rw [h5,h6,hr]
    simp
  ·by_cases hroom:n + m ≤ l.cap
   ·have hfit:n * inf.size + news.length ≤ c.size:=by rw [hi2,hly,h7,← Nat.add_mul]; exact Nat.mul_le_mul_right _ hroom
    have hr:=run_append_room (P:=P) w t rty ty inf hu hi1 l.block n l.cap c h6 ad m cap news (by rw [hi2]; exact hly) hadd hry.one hroom hfit
    rw [hi2] at hr hfit
    refine ⟨l,_,by rw [h5]; exact hr,fun ρ' sh' => ⟨?_,by simp [h2,hym],hroom,h4,.inr ⟨h5,(c.toList.take (n * i.size) ++ news ++ c.toList.drop (n * i.size + news.length)).toArray,setRow_heap _ _ _ _ _ _ h6,?_,?_,h9,fun o _ => h9 rfl o,fun e => by cases e⟩⟩,⟨by simp,fun b' hb' hne => ?_,⟨rfl,rfl,rfl⟩,fun hbn => .inr ⟨hbn,rfl⟩⟩,.inl rfl⟩
    ·intro d hd
     rcases List.mem_append.1 hd with h | h
     ·exact h1 d h
     ·exact hyel d h
    ·simp only [List.size_toArray,List.length_append,List.length_take,List.length_drop,Array.length_toList]
     omega
    ·rw [List.flatten_append]
     have e:(n + m) * i.size = (c.toList.take (n * i.size) ++ news).length:=by
      rw [List.length_append,hly,Nat.add_mul,List.length_take,Array.length_toList]
      omega
     rw [e]
     simp only
     rw [List.take_left]
     exact h8.append hry
    ·exact setRow_other _ _ _ _ (hne (by rw [h5]; simp))
   ·have holds:∀ j u,olds[j]? = some u → w.cell? ((⟨l.block,0,none⟩:Addr).add j) = some u:=by
     have:=hrow.cells (g:=l.block) (by rw [h5]; rfl)
     exact this
    have hr:=run_append_grow (P:=P) w t rty ty inf z hu hi1 hi4 ⟨l.block,0,none⟩ n l.cap olds (by rw [hi2]; exact hlx) holds ad m cap news (by rw [hi2]; exact hly) hadd (by omega) (by omega) (by rw [hi3]; exact growslice_fits (by omega) hb)
    have hf:=fun (ρ':Nat → Nat → Loc) (sh':Nat → Nat → Option Sh) => zeW (K:=K) (w:=w) (l:=l) (xs:=xs) (ys:=ys) (n:=n) (m:=m) (ρ':=ρ') (sh':=sh') (sh:=sh') hok rfl hrx hry h1 hyel h2 hym (hgg l.cap) (hgm l.cap) hzs hfresh (w1:=w.drew) ⟨rfl,rfl,rfl,rfl⟩
    refine ⟨⟨w.heap.size,_,some ⟨w.heap.size,0,none⟩⟩,_,?_,fun ρ' sh' => (hf ρ' sh').1,(hf ρ sh).2,.inr ⟨Nat.le_refl _,fun b hb => zdz w.drew _ b hb⟩⟩
    rw [h5,hr]
end
section
variable {c:Cx} {s:St} {k:List Item} {ops:Array Oper} {rest:List Nat} {o:Oper} {H:Heap} {O:List Heap}
theorem zuL (t nm:Nat) {ty es n:Nat} {xs:List (List I)} {wr:Bool} (ht:s.get t = .osl 0 nm) (hS:s.S = H :: O) (hl:look H nm = some (.arr ty es n xs wr)):Wk c s { σ:=(t,.psl nm n) :: s.σ,S:=s.S,n:=s.n }:=by
 intro K ρ a w hi
 refine ⟨K,ρ,hi.h,hi.defers,hi.size,fun t' d e => ?_⟩
 simp only [zab] at e
 split at e
 ·rename_i e2
  subst e2
  simp only [Option.some.injEq] at e
  subst e
  have hsh:shape s.S 0 nm = some (.arr es n):=by rw [hS]; simp [shape,zaa,hl,Ob.sh]
  have h1:=hi.get t
  rw [ht] at h1
  rw [zcg h1 hsh]
  exact .psl hsh (Nat.le_refl _)
 ·exact hi.slots _ _ e
theorem zui {K:Kn} {ρ:Nat → Nat → Loc} {sh:Nat → Nat → Option Sh} {v:Value} {nm k:Nat} (h:RepD K ρ sh v (.psl nm k)):v = .slice (ρ 0 nm).base k (ρ 0 nm).cap ∧ ∃ es len,sh 0 nm = some (.arr es len) ∧ k ≤ len:=by
 cases h with
 | psl e l => exact ⟨rfl,_,_,e,l⟩
theorem zun (hT:TOk c.P c.T) (hfn:c.P.funcs[c.f]? = some c.fn) {i t t1 ta kk ty nm n m:Nat} {cl:Call} {x y:Operand} {ti1 ti2:TI} {xs ys:List (List I)} (hb:(n + m) * ti2.bytes ≤ 140737488355328 ∧ n + m ≤ 9223372036854775807)
  (ho:ops[i]? = some o) (hg:o.guard = none) (hd:o.dst = some t) (hop:o.op = .call cl) (hc1:cl.callee = .builtin .append) (hc2:cl.args = #[x,y]) (hc3:cl.argTypes = #[t1,t1])
  (h1:look c.T t1 = some ti1) (hk1:ti1.k = .slice ty) (h2:look c.T ty = some ti2) (hx:evD s x = .osl 0 nm) (hy:evD s y = .i (.sl ti2.size m ys)) (hS:s.S = H :: O) (hl:look H nm = some (.arr ty ti2.size n xs true)) (hn:Nat.ble (t + 1) s.n = true)
  (hlt:look H t = none) (hne:Nat.beq ta t = false) (hta:look s.σ ta = some (.psl nm kk))
  (hin:GM c (run c.T c.stop 1000 (.inRegion ops rest :: k) { σ:=(ta,.psl t kk) :: (t,.osl 0 t) :: zd2 nm s.σ,S:=((t,.arr ty ti2.size (n + m) (xs ++ ys) true) :: zaT nm H) :: O,n:=s.n }))
  (hmv:GM c (run c.T c.stop 1000 (.inRegion ops rest :: k) { σ:=(t,.osl 0 t) :: s.σ,S:=((t,.arr ty ti2.size (n + m) (xs ++ ys) true) :: H) :: O,n:=s.n })):GM c (.pause ops i rest o s k):=by
 have hin':RG c ops rest _ k:=zaF hT hfn 1000 (.inRegion ops rest :: k) _ hin.h
 have hmv':RG c ops rest _ k:=zaF hT hfn 1000 (.inRegion ops rest :: k) _ hmv.h
 refine ⟨?_⟩
 intro K ρ a w hi
 simp only [wpOps,ho,za7 hi (show zav ops s o = some true by unfold zav; rw [hg]),if_true]
 have hok1:=hT _ _ h1
 have hu:c.P.underlying t1 = some (.slice ty):=by have:=hok1.kind; rw [hk1] at this; exact this
 have hh:=hi.h
 rw [hS] at hh
 have hob:zaa (H :: O) 0 nm = some (.arr ty ti2.size n xs true):=by simpa [zaa] using hl
 have hshn:shape s.S 0 nm = some (.arr ti2.size n):=by rw [hS]; simp [shape,hob,Ob.sh]
 have hrx:=hi.ev x
 rw [hx] at hrx
 have hvx:a.eval x = .slice (ρ 0 nm).base n (ρ 0 nm).cap:=zcg (es:=ti2.size) hrx hshn
 have hry:=hi.ev y
 rw [hy] at hry
 have hnow:Now K w (a.eval y) ti2.size m ys:=by
  revert hry
  generalize a.eval y = vy
  intro hr
  cases hr with
  | i r =>
   cases r with
   | @nil es p =>
    refine ⟨rfl,by simp,p,0,rfl,?_⟩
    cases p with
    | none => exact .inl ⟨rfl,rfl,rfl⟩
    | some ad => exact .inr ⟨ad,[],rfl,.nil,fun j c hc => by cases hc⟩
   | sl r e k' c' l => exact ⟨l,e,_,_,rfl,.inr ⟨_,_,rfl,r,fun j x hc => by rw [Addr.add_lit]; exact hi.h.holds _ _ _ (k' j x hc)⟩⟩
 have hown:=hh.own _ _ _ hob
 obtain ⟨l',w',hrun,hown',hap,hcase⟩:=zsG hu (hT _ _ h2) hown hnow hb.1 hb.2 o.type (fun o => hh.K_fresh (Nat.le_refl _))
 have hKo:zaq (ρ 0 nm) (.arr ty ti2.size n xs true) → ∀ o,K (ρ 0 nm).block o = none:=by
  intro hbk
  obtain ⟨_,_,_,_,h5⟩:=hown
  rcases h5 with ⟨_,h6⟩ | ⟨_,c,_,_,_,h9,_⟩
  ·exact absurd h6 hbk
  ·exact h9 rfl
 refine .inl ?_
 have hexec:(execOp a.eval o).run c.P w = .ok (.value (.slice l'.base (n + m) l'.cap)) w':=by
  unfold execOp
  simp only [hop,hc1,hc2,hc3,resolve,invoke,builtin,Sem.run_bind,Sem.run_pure,Result.andThen_ok,List.map_toArray,List.map_cons,List.map_nil,hvx,hrun]
 simp only [Oper.wp,hexec,Oper.upon]
 have hrta:=hi.slots _ _ hta
 obtain ⟨hva,es0,len0,hsa,hka⟩:=zui hrta
 rw [hshn] at hsa
 simp only [Option.some.injEq,Sh.arr.injEq] at hsa
 obtain ⟨rfl,rfl⟩:=hsa
 rcases hcase with hcase | ⟨hfresh,hold⟩
 ·subst hcase
  obtain ⟨hI,hbut⟩:=hh.renew (dst:=t) hl (by rw [za0,hlt]; split <;> rfl) hap Iff.rfl (ob':=.arr ty ti2.size (n + m) (xs ++ ys) true) Iff.rfl hKo hown'
  have hsh:shape (((t,Ob.arr ty ti2.size (n + m) (xs ++ ys) true) :: zaT nm H) :: O) 0 t = some (.arr ti2.size (n + m)):=by simp [shape,zaa,zab,Ob.sh]
  refine hin' K (upd ρ t (ρ 0 nm)) _ w' ?_
  rw [hd]
  refine ⟨hI,hi.defers,by simp [Act.put]; exact hi.size,fun t' d' e' => ?_⟩
  rw [zbp (by rw [hi.size]; exact Nat.le_of_ble_eq_true hn)]
  simp only [zab] at e'
  split at e'
  ·rename_i e2
   simp only [Option.some.injEq] at e'
   subst e'
   subst e2
   rw [if_neg (fun e => by subst e; rw [beq_of_eq rfl] at hne; cases hne),hva]
   have:=RepD.psl (K:=K) (ρ:=upd ρ t (ρ 0 nm)) hsh (show kk ≤ n + m by omega)
   rwa [zaH] at this
  split at e'
  ·rename_i e1 e2
   simp only [Option.some.injEq] at e'
   subst e'
   rw [if_pos e2]
   have:=RepD.osl (K:=K) (ρ:=upd ρ t (ρ 0 nm)) hsh
   rwa [zaH] at this
  ·rename_i e1 e2
   rw [if_neg e2]
   rw [zbX] at e'
   cases hls:look s.σ t' with
   | none => simp [hls] at e'
   | some d0 =>
    simp only [hls,Option.map_some,Option.some.injEq] at e'
    subst e'
    have hr:=hi.slots _ _ hls
    rw [hS] at hr
    exact hr.kill hbut
 ·have hg':Grow K ρ (H :: O) w [(t,.arr ty ti2.size (n + m) (xs ++ ys) true)] K (upd ρ t l') w':=by
   refine ⟨K.le_refl,fun _ _ _ h => .inl h,hap.size,hold,hap.rest,fun dep nm' h => zaG _ _ _ ?_,fun b o x hx => ?_,fun nm' ob' h => ?_,fun nm1 ob1 nm2 ob2 h1 h2 _ _ _ => ?_⟩
   ·rcases h with h | h
    ·exact .inl h
    ·refine .inr fun e => ?_
     subst e
     simp [zab] at h
   ·have h1:=hh.holds _ _ _ hx
    have hlt:b < w.heap.size:=by
     rcases Nat.lt_or_ge b w.heap.size with h' | h'
     ·exact h'
     ·rw [hh.K_fresh h'] at hx; cases hx
    rw [World.cell?,hold b hlt]
    exact h1
   ·simp only [zab] at h
    split at h
    ·rename_i e
     subst e
     simp only [Option.some.injEq] at h
     subst h
     rw [zaH]
     exact ⟨hown' _ _,fun _ => hfresh⟩
    ·cases h
   ·simp only [zab] at h1 h2
    split at h1
    ·rename_i e1
     split at h2
     ·rename_i e2; rw [← e1,← e2]
     ·cases h2
    ·cases h1
  obtain ⟨hI,hst⟩:=HInv.grow (S:=H :: O) rfl hh (fun _ _ _ h => h) (fun nm' h => by
   simp only [zab] at h
   split at h
   ·rename_i e; subst e; exact hlt
   ·exact absurd rfl h) hg'
  refine hmv' K (upd ρ t l') _ w' ?_
  rw [hd]
  refine ⟨hI,hi.defers,by simp [Act.put]; exact hi.size,fun t' d' e' => ?_⟩
  rw [zbp (by rw [hi.size]; exact Nat.le_of_ble_eq_true hn)]
  simp only [zab] at e'
  split at e'
  ·rename_i e2
   simp only [Option.some.injEq] at e'
   subst e'
   rw [if_pos e2]
   have hsh:shape (((t,Ob.arr ty ti2.size (n + m) (xs ++ ys) true) :: H) :: O) 0 t = some (.arr ti2.size (n + m)):=by simp [shape,zaa,zab,Ob.sh]
   have:=RepD.osl (K:=K) (ρ:=upd ρ t l') hsh
   rwa [zaH] at this
  ·rename_i e2
   rw [if_neg e2]
   have hr:=hi.slots _ _ e'
   rw [hS] at hr
   exact hr.stays hst
end
end Go.AI


namespace Go.AI
open Go.Proofs
set_option maxRecDepth 20000
section
variable {a:Aut} {on:List Int} {frm:List Fd} {n:Nat}
theorem RGd.perm {l m:List Fd} (h:RGd a on frm l) (hp:m.Perm l):RGd a on frm m:=
 ⟨fun y hy => h.snd y (hp.mem_iff.1 hy),((hp.map (·.1)).nodup_iff).2 h.nd,fun x hx => let ⟨y,hy,h1⟩:=h.cov x hx; ⟨y,hp.mem_iff.2 hy,h1⟩⟩
theorem zoE {l m:List Fd} (hp:m.Perm l):sumR m = sumR l:=by
 induction hp with
 | nil => rfl
 | cons x _ ih => simp only [sumR,ih]
 | swap x y l => simp only [sumR]; omega
 | trans _ _ h1 h2 => rw [h1,h2]
theorem RGd.rks (hdet:∀ s t w,RP a on frm s w → RP a on frm t w → s = t) (ho:fdOk a n frm) {l:List Fd} (h:RGd a on frm l):l.Pairwise fun x y => rk x.2 ≠ rk y.2:=by
 have hnd:=h.nd
 unfold List.Nodup at hnd
 rw [List.pairwise_map] at hnd
 refine hnd.imp_of_mem fun {x y} hx hy hne e => hne ?_
 have px:=h.snd x hx
 have py:=h.snd y hy
 have hw:=ztN (px.ok ho).2 (py.ok ho).2 e
 rw [hw] at px
 exact hdet _ _ _ px py
theorem zqa:∀ {l:List Fd},(l.Pairwise fun x y => rk x.2 ≠ rk y.2) → ∃ m:List Fd,Srt m ∧ m.Perm l
 | [],_ => ⟨[],.nil,List.Perm.refl _⟩
 | x :: l,h => by
  rw [List.pairwise_cons] at h
  obtain ⟨m,h1,h2⟩:=zqa h.2
  have key:∀ m:List Fd,Srt m → (∀ y ∈ m,rk x.2 ≠ rk y.2) → ∃ k:List Fd,Srt k ∧ k.Perm (x :: m):=by
   intro m
   induction m with
   | nil => intro _ _; exact ⟨[x],List.pairwise_singleton _ _,List.Perm.refl _⟩
   | cons y m ih =>
    intro hs hn
    have hs:=List.pairwise_cons.1 hs
    have hxy:=hn y (by simp)
    by_cases hc:rk x.2 < rk y.2
    ·refine ⟨x :: y :: m,List.pairwise_cons.2 ⟨fun z hz => ?_,List.pairwise_cons.2 hs⟩,List.Perm.refl _⟩
     rcases List.mem_cons.1 hz with rfl | hz
     ·exact hc
     ·have:=hs.1 z hz; omega
    ·obtain ⟨k,hk1,hk2⟩:=ih hs.2 fun z hz => hn z (by simp [hz])
     refine ⟨y :: k,List.pairwise_cons.2 ⟨fun z hz => ?_,hk1⟩,(hk2.cons y).trans (List.Perm.swap _ _ _)⟩
     rcases List.mem_cons.1 (hk2.mem_iff.1 hz) with rfl | hz
     ·omega
     ·exact hs.1 z hz
  obtain ⟨k,hk1,hk2⟩:=key m h1 fun y hy => h.1 y (h2.mem_iff.1 hy)
  exact ⟨k,hk1,hk2.trans (h2.cons x)⟩
theorem zeM {α:Type} {p:α → Bool}:∀ {l:List α} {i:Nat},zay p l i < 0 → ∀ y ∈ l,p y = false
 | [],_,_,y,hy => by cases hy
 | x :: l,i,h,y,hy => by
  simp only [zay] at h
  by_cases c:p x = true
  ·rw [if_pos c] at h; omega
  ·rw [if_neg c] at h
   rcases List.mem_cons.1 hy with rfl | hy
   ·simpa using c
   ·exact zeM h y hy
theorem zc2 {α:Type} {p:α → Bool}:∀ {l:List α} {i:Nat},¬ zay p l i < 0 → ∃ (k:Nat) (h:k < l.length),zay p l i = ((i + k:Nat):Int) ∧ p l[k] = true
 | [],_,h => absurd (by simp only [zay]; omega) h
 | x :: l,i,h => by
  simp only [zay] at h ⊢
  by_cases c:p x = true
  ·rw [if_pos c]; exact ⟨0,by simp,by simp,c⟩
  ·rw [if_neg c] at h ⊢
   obtain ⟨k,hk,h1,h2⟩:=zc2 (i:=i + 1) h
   exact ⟨k + 1,by simp; omega,by rw [h1]; congr 1; omega,by simpa using h2⟩
end
theorem zvo {c:Cx} {ops:Array Oper} {i:Nat} {rest:List Nat} {o:Oper} {s s':St} {k:List Item} (hw:Wk c s s') (h:GM c (.pause ops i rest o s' k)):GM c (.pause ops i rest o s k):=
 ⟨fun K ρ a w hi => let ⟨_,_,h1⟩:=hw K ρ a w hi; h.h _ _ a w h1⟩
abbrev psD (st:Bool) (k:Nat):D:=bif st then .psl 62 k else .psl 61 k
abbrev opS (st:Bool) (old:List Fd):Option (List Fd):=bif st then some old else none
set_option maxHeartbeats 16000000 in
theorem ztR (O:List Heap) (a:Aut) (n B:Nat) (frm:List Fd) (on:List Int) (hn:n ≤ 12) (hB:B ≤ 500000) (hal:a.alpha.length ≤ 1000000) (hes:a.edges.length ≤ 1000000) (hon:on.length ≤ 1000000) (ho:fdOk a n frm) (hfl:∀ x ∈ frm,x.2.length ≤ B) (hfn:(frm.map (·.1)).Nodup)
  (hdet:∀ s t w,RP a on frm s w → RP a on frm t w → s = t):zan Tryz.prog 96 [autD a,fdsD frm,ints on] O (fdsD (rchF a on frm)) [] O:=by
 have hg0:RGd a on frm frm:=⟨fun y hy => RP.base hy,hfn,fun x hx => ⟨x,hx,rfl,Nat.le_refl _⟩⟩
 have h0:=hg0.few ho
 have c1:=fun O => zqu O frm (by omega)
 have c2:=fun O l hl hw hin hnd ho => ztH O 0 61 l hl hw hin hnd ho
 have hst:=fun O s e => zhc O a s e hes
 have hct:=fun O e => zbc O on e (by simp only [zas]; omega)
 have hcl:=fun O l hl => zmj O l hl
 have hcm:=fun O a b ha hb => zmi O a b ha hb
 have hix:=fun O (l:List Fd) (t:Int) (hl:l.length ≤ 1000000) (h1:zaa O 0 61 = some (ofds l)) (h2:zaa O 0 13 = some (.box [ii t])) => zpI O l 144 0 61 0 13 (fun x => x.1 == t) hl h1 fun x _ => zvT ([] :: O) x t 1 13 (zaI h2)
 obtain ⟨al,st0,mk,es⟩:=a
 simp only at hal hes hst
 refine zat [7,13,200061] Tk Tryz.func96 rfl Tryz.call96 Tryz.ntmps96 (Nat.le_of_ble_eq_true rfl) fun E => ?_
 refine zae Tk Tryz.func96 ?_
 refine zaf Tk Tryz.func96 (c1 _) rfl rfl rfl rfl rfl ?_
 refine zac ?_
 refine zao (zb4 6 62 178 2 rfl rfl rfl) ?_
 refine zao (zcT 208 61 rfl rfl rfl) ?_
 refine zah (fun x:List Fd × List Fd => [(2,ints on),(3,.own 0 3 0 0),(7,.osl 0 61)]) (fun x => [(3,.box [ints al,ii st0,ints mk,edgs es]),(61,ofds x.1),(62,ofds x.2)]) (fun _ => O) 80
  (fun x => RGd ⟨al,st0,mk,es⟩ on frm x.1 ∧ ∀ y ∈ x.1,y.2.length ≤ B + x.1.length) (fun x => meas n B x.1) (frm,[]) ⟨hg0,fun y hy => by have:=hfl y hy; omega⟩ ⟨rfl,rfl,rfl,trivial⟩ rfl ⟨rfl,rfl,rfl,trivial⟩ rfl rfl ?_
 rintro ⟨l1,junk⟩ ⟨hg1,hlen1⟩ ih
 simp only at hg1 hlen1
 have hf1:=hg1.few ho
 have hnd1:=hg1.rks hdet ho
 have hw1:∀ x ∈ l1,x.2.length ≤ 1000000:=fun x hx => by have:=hlen1 x hx; omega
 have hin1:∀ x ∈ l1,inW x.2:=fun x hx => ((hg1.snd x hx).ok ho).2
 have hsl:=zjM hnd1
 obtain ⟨m,hm1,hm2⟩:=zqa hnd1
 obtain ⟨-,hsrt,hprm⟩:=zez hm1 hm2
 have cs:=fun O ho => c2 O l1 (by omega) hw1 hin1 hnd1 ho
 have hmeas:meas n B (srtF l1) = meas n B l1:=by unfold meas; rw [hsl,zoE hprm]
 have hg:RGd ⟨al,st0,mk,es⟩ on frm (srtF l1):=hg1.perm hprm
 have hlen:∀ y ∈ srtF l1,y.2.length ≤ B + (srtF l1).length:=fun y hy => by rw [hsl]; exact hlen1 y (hprm.mem_iff.1 hy)
 refine zae Tk Tryz.func96 ?_
 refine zaf Tk Tryz.func96 (cs _ rfl) rfl rfl rfl (zbn (ob:=ofds l1) rfl (by simp [Ob.sh,hsl])) rfl ?_
 rw [← hmeas] at ih
 clear hsl hprm hmeas cs hw1 hin1 hnd1 hlen1 hg1 hm1 hm2 m
 generalize srtF l1 = l0 at *
 have hf0:=hg.few ho
 refine zac ?_
 refine zao (zuL 20 61 rfl rfl rfl) ?_
 have hps0:Pss ⟨al,st0,mk,es⟩ on frm n B l0 l0 none false:=⟨hg,hlen,Nat.le_refl _,fun _ e => (by cases e),fun _ => ⟨rfl,rfl⟩,fun e => (by cases e)⟩
 refine zah (fun y:List Fd × List Fd × Bool × Bool × Nat => [(2,ints on),(3,.own 0 3 0 0),(7,.osl 0 61),(8,bb y.2.2.2.1),(20,psD y.2.2.1 l0.length),(21,ii l0.length),(22,ii y.2.2.2.2)])
  (fun y => [(3,.box [ints al,ii st0,ints mk,edgs es]),(61,ofds y.1),(62,ofds y.2.1)]) (fun _ => O) 80
  (fun y => y.2.2.2.2 ≤ l0.length ∧ Pss ⟨al,st0,mk,es⟩ on frm n B l0 y.1 (opS y.2.2.1 y.2.1) y.2.2.2.1 ∧ (y.2.2.2.1 = false → ∀ i',i' < y.2.2.2.2 → ∀ z,l0[i']? = some z → ∀ e ∈ al,clE ⟨al,st0,mk,es⟩ on l0 z e))
  (fun y => l0.length - y.2.2.2.2) (l0,junk,false,false,0) ⟨Nat.zero_le _,hps0,fun _ i' h => absurd h (Nat.not_lt_zero _)⟩ ⟨rfl,rfl,rfl,rfl,rfl,rfl,rfl,trivial⟩ rfl ⟨rfl,rfl,rfl,trivial⟩ rfl rfl ?_
 clear hps0
 rintro ⟨l,old,st,ch,i⟩ ⟨hi,hps,hdn⟩ ih2
 simp only at hi hps hdn
 refine zae Tk Tryz.func96 ?_
 refine zai Tk Tryz.func96 rfl (fun g1 => ?_) (fun g1 => ?_)
 ·have h3:i < l0.length:=by simpa using g1
  clear g1
  have hi1:ii (IntKind.i64.wrap ((i:Int) + 1)) = ii ((i + 1:Nat):Int):=congrArg ii (zaB (n:=1000001) (by omega) (by decide))
  obtain ⟨x,hx1,hx2,hx3⟩:∃ x:Fd,(bif st then old else l)[i]? = some x ∧ (RP ⟨al,st0,mk,es⟩ on frm x.1 x.2 ∧ x.2.length ≤ B + l.length) ∧ (ch = false → l0[i]? = some x):=by
   have hil:i < (bif st then old else l).length:=by
    cases st with
    | false => have:=hps.k; simp only [cond_false]; omega
    | true => have:=(hps.alo old rfl).1; simp only [cond_true]; omega
   refine ⟨_,List.getElem?_eq_getElem hil,hps.at ?_,fun hc => ?_⟩
   ·have:=List.getElem_mem hil
    cases st <;> exact this
   ·obtain ⟨e1,e2⟩:=hps.same hc
    subst e1
    cases st with
    | true => cases e2
    | false => simp
  have gx:((bif st then old else l).map fdI)[((i:Nat):Int).toNat]? = some (fdI x):=by
   rw [List.getElem?_map]
   show ((bif st then old else l)[i]?).map fdI = _
   rw [hx1]; rfl
  obtain ⟨xs,xw⟩:=x
  obtain ⟨hxp,hxl⟩:=hx2
  simp only at hxp hxl
  have hxin:=(hxp.ok ho).2
  apply zcj (P:=True) (s6:={ σ:=[(2,ints on),(3,.own 0 3 0 0),(7,.osl 0 61),(8,bb ch),(20,psD st l0.length),(21,ii l0.length),(22,ii i),(10,.own 0 10 0 0)],S:=[(3,.box [ints al,ii st0,ints mk,edgs es]),(61,ofds l),(62,ofds old),(10,.box [ii xs,ints xw])] :: O,n:=80 })
  ·intro J
   cases st with
   | false =>
    refine zag Tk Tryz.func96 (by exact ⟨by omega,by show (i:Int) < (l0.length:Int); omega⟩) ?_
    refine zap Tk Tryz.func96 (gx) ?_
    refine zax ?_
    refine zaC (J trivial) ⟨rfl,rfl,rfl,rfl,rfl,rfl,rfl,rfl,trivial⟩ rfl ⟨rfl,rfl,rfl,rfl,trivial⟩ rfl rfl
   | true =>
    refine zag Tk Tryz.func96 (by exact ⟨by omega,by show (i:Int) < (l0.length:Int); omega⟩) ?_
    refine zap Tk Tryz.func96 (gx) ?_
    refine zax ?_
    refine zaC (J trivial) ⟨rfl,rfl,rfl,rfl,rfl,rfl,rfl,rfl,trivial⟩ rfl ⟨rfl,rfl,rfl,rfl,trivial⟩ rfl rfl
  intro _
  refine zae Tk Tryz.func96 ?_
  refine g_go Tk Tryz.func96 ?_
  refine zac ?_
  refine zah (fun z:List Fd × List Fd × Bool × Bool × Nat => [(2,ints on),(3,.own 0 3 0 0),(7,.osl 0 61),(8,bb z.2.2.2.1),(20,psD z.2.2.1 l0.length),(21,ii l0.length),(22,ii i),(10,.own 0 10 0 0),(27,ints al),(28,ii al.length),(29,ii z.2.2.2.2)])
   (fun z => [(3,.box [ints al,ii st0,ints mk,edgs es]),(61,ofds z.1),(62,ofds z.2.1),(10,.box [ii xs,ints xw])]) (fun _ => O) 80
   (fun z => z.2.2.2.2 ≤ al.length ∧ Pss ⟨al,st0,mk,es⟩ on frm n B l0 z.1 (opS z.2.2.1 z.2.1) z.2.2.2.1 ∧ xw.length ≤ B + z.1.length ∧ (z.2.2.2.1 = false → ch = false ∧ ∀ e ∈ al.take z.2.2.2.2,clE ⟨al,st0,mk,es⟩ on l0 (xs,xw) e))
   (fun z => al.length - z.2.2.2.2) (l,old,st,ch,0) ⟨Nat.zero_le _,hps,hxl,fun h => ⟨h,by simp⟩⟩ ⟨rfl,rfl,rfl,rfl,rfl,rfl,rfl,rfl,rfl,rfl,rfl,trivial⟩ rfl ⟨rfl,rfl,rfl,rfl,trivial⟩ (by cases st <;> rfl) rfl ?_
  rintro ⟨l',old',st',ch',j⟩ ⟨hj,hps',hxl',hdn'⟩ ih3
  simp only at hj hps' hxl' hdn'
  cases st' with
  | false =>
   have hfw:=hps'.g.few ho
   refine zae Tk Tryz.func96 ?_
   refine zai Tk Tryz.func96 rfl (fun g2 => ?_) (fun g2 => ?_)
   ·have h4:j < al.length:=by simpa using g2
    clear g2
    have hj1:ii (IntKind.i64.wrap ((j:Int) + 1)) = ii ((j + 1:Nat):Int):=congrArg ii (zaB (n:=1000001) (by omega) (by decide))
    have ga:(al.map fun x => [vi x])[(j:Int).toNat]? = some [vi al[j]]:=zaj (f:=fun x => [vi x]) h4
    have htk:al.take (j + 1) = al.take j ++ [al[j]]:=List.take_succ_eq_append_getElem h4
    have he:al[j] ∈ al:=List.getElem_mem h4
    have hein:=ho.al _ he
    have hstep:(ch' = false → clE ⟨al,st0,mk,es⟩ on l0 (xs,xw) al[j]) → ch' = false → ch = false ∧ ∀ e ∈ al.take (j + 1),clE ⟨al,st0,mk,es⟩ on l0 (xs,xw) e:=fun hq hc => by
     refine ⟨(hdn' hc).1,fun e' he' => ?_⟩
     rw [htk] at he'
     rcases List.mem_append.1 he' with he' | he'
     ·exact (hdn' hc).2 e' he'
     ·rw [List.mem_singleton] at he'
      subst he'; exact hq hc
    generalize al[j] = e at *
    have d2:=fun O => hst O xs e
    have d3:=fun O => hct O e
    have hcl1:=fun O => hcl O xw (by omega)
    have hwin:inW (xw ++ [e]):=fun z hz => by
     rcases List.mem_append.1 hz with hz | hz
     ·exact hxin z hz
     ·rw [List.mem_singleton] at hz; subst hz; exact hein
    obtain ⟨t,ht⟩:∃ t,t = stp3 es xs e:=⟨_,rfl⟩
    rw [← ht] at d2
    refine zag Tk Tryz.func96 (by exact ⟨by omega,by show (j:Int) < (al.length:Int); omega⟩) ?_
    refine zap Tk Tryz.func96 (ga) ?_
    refine zaf Tk Tryz.func96 (d2 _) rfl rfl rfl rfl rfl ?_
    refine zaW Tk Tryz.func96 rfl (fun k1 => ?_) (fun k1 => ?_)
    ·have k1:t < 0:=of_decide_eq_true k1
     refine gcT Tk Tryz.func96 rfl ?_
     refine zac ?_
     refine ih3 (l',old',false,ch',j + 1) _ _ ⟨h4,hps',hxl',hstep fun _ _ h => by simp only at h; omega⟩ (by simp only; omega) ⟨rfl,rfl,rfl,rfl,rfl,rfl,rfl,rfl,rfl,rfl,hj1,trivial⟩ rfl ⟨rfl,rfl,rfl,rfl,trivial⟩ rfl rfl
    have k1:¬ t < 0:=of_decide_eq_false k1
    refine zaf Tk Tryz.func96 (d3 _) rfl rfl rfl rfl rfl ?_
    refine zai Tk Tryz.func96 rfl (fun k2 => ?_) (fun k2 => ?_)
    ·have k2:e ∈ on:=of_decide_eq_true k2
     refine zac ?_
     refine ih3 (l',old',false,ch',j + 1) _ _ ⟨h4,hps',hxl',hstep fun _ h => absurd k2 h⟩ (by simp only; omega) ⟨rfl,rfl,rfl,rfl,rfl,rfl,rfl,rfl,rfl,rfl,hj1,trivial⟩ rfl ⟨rfl,rfl,rfl,rfl,trivial⟩ rfl rfl
    have k2:e ∉ on:=of_decide_eq_false k2
    refine zaf Tk Tryz.func96 (hcl1 _) rfl rfl rfl rfl rfl ?_
    refine zag Tk Tryz.func96 (by exact ⟨by show (xw.length + 1) * 8 ≤ 140737488355328; omega,by show xw.length + 1 ≤ 9223372036854775807; omega⟩) ?_
    refine zax ?_
    refine zao (zam 50 rfl rfl) ?_
    refine zao (zd4 rfl) ?_
    have ew:I.sl 1 (xw.length + 1) (xw.map (fun x => [vi x]) ++ [[vi e]]) = zbu (xw ++ [e]):=by simp
    refine zaC (l:=[(2,ints on),(3,.own 0 3 0 0),(7,.osl 0 61),(8,bb ch'),(20,psD false l0.length),(21,ii l0.length),(22,ii i),(10,.own 0 10 0 0),(27,ints al),(28,ii al.length),(29,ii j),(12,ii e),(13,.own 0 13 0 0),(14,ints (xw ++ [e]))]) (Hv:=[(3,.box [ints al,ii st0,ints mk,edgs es]),(61,ofds l'),(62,ofds old'),(10,.box [ii xs,ints xw]),(13,.box [ii t])]) ?_ ⟨rfl,rfl,rfl,rfl,rfl,rfl,rfl,rfl,rfl,rfl,rfl,rfl,rfl,congrArg D.i ew,trivial⟩ rfl ⟨rfl,rfl,rfl,rfl,rfl,trivial⟩ rfl rfl
    generalize hww:xw ++ [e] = ww at *
    refine zae Tk Tryz.func96 ?_
    refine g_go Tk Tryz.func96 ?_
    refine zaf Tk Tryz.func96 (hix _ l' t (by omega) rfl rfl) rfl rfl rfl rfl rfl ?_
    refine zai Tk Tryz.func96 rfl (fun k3 => ?_) (fun k3 => ?_)
    ·have k3:zay (fun x:Fd => x.1 == t) l' 0 < 0:=of_decide_eq_true k3
     have hno:∀ y ∈ l',y.1 ≠ t:=fun y hy h => by
      have:=zeM k3 y hy
      simp [h] at this
     have happ:=fun al' hal => hps'.app (al':=al') ho hal hxp hxl' he k2 (by show 0 ≤ stp3 es xs e; omega) (fun y hy => by show y.1 ≠ stp3 es xs e; rw [← ht]; exact hno y hy)
     rw [hww] at happ
     have happ':∀ al',(al' = opS false old' ∨ al' = some l') → Pss ⟨al,st0,mk,es⟩ on frm n B l0 (l' ++ [(t,ww)]) al' true ∧ l'.length < n:=fun al' hal => by rw [ht]; exact happ al' hal
     have hofd:Ob.arr 178 2 (l'.length + 1) (l'.map fdI ++ [fdI (t,ww)]) true = ofds (l' ++ [(t,ww)]):=by simp
     have hxl2:xw.length ≤ B + (l' ++ [(t,ww)]).length:=by rw [List.length_append]; omega
     refine zvo (zcT 62 64 rfl rfl rfl) ?_
     refine zvo (zcT 61 62 rfl rfl rfl) ?_
     refine zun Tk Tryz.func96 (ta:=20) (kk:=l0.length) (nm:=62) (n:=l'.length) (m:=1) (xs:=l'.map fdI) (ys:=[fdI (t,ww)]) ⟨by show (l'.length + 1) * 32 ≤ 140737488355328; omega,by omega⟩ rfl rfl rfl rfl rfl rfl rfl rfl rfl rfl rfl rfl rfl rfl rfl rfl rfl rfl ?_ ?_
     ·have hq:=(happ' none (.inl rfl)).1
      refine zac ?_
      refine zao (zcT 64 62 rfl rfl rfl) ?_
      refine ih3 (l' ++ [(t,ww)],old',false,true,j + 1) _ _ ⟨h4,hq,hxl2,fun h => by cases h⟩ (by simp only; omega) ⟨rfl,rfl,rfl,rfl,rfl,rfl,rfl,rfl,rfl,rfl,hj1,trivial⟩ rfl ⟨rfl,congrArg some hofd,rfl,rfl,trivial⟩ rfl rfl
     ·have hq:=(happ' (some l') (.inr rfl)).1
      refine zac ?_
      refine ih3 (l' ++ [(t,ww)],l',true,true,j + 1) _ _ ⟨h4,hq,hxl2,fun h => by cases h⟩ (by simp only; omega) ⟨rfl,rfl,rfl,rfl,rfl,rfl,rfl,rfl,rfl,rfl,hj1,trivial⟩ rfl ⟨rfl,congrArg some hofd,rfl,rfl,trivial⟩ rfl rfl
    ·have k3:¬ zay (fun x:Fd => x.1 == t) l' 0 < 0:=of_decide_eq_false k3
     obtain ⟨k,hk,hkx,hkt⟩:=zc2 k3
     rw [Nat.zero_add] at hkx
     have hkt:l'[k].1 = t:=by simpa using hkt
     have gk:(l'.map fdI)[(((k:Nat):Int)).toNat]? = some (fdI l'[k]):=zaj hk
     have hkp:=hps'.g.snd _ (List.getElem_mem hk)
     have hkl:=hps'.len _ (List.getElem_mem hk)
     have hupd:=fun hr => hps'.upd ho hxp he k2 (by show 0 ≤ stp3 es xs e; omega) hk (by rw [hkt]; exact ht) hr
     have hset:∀ z:Fd,(l'.map fdI).set k (fdI z) = (l'.set k z).map fdI:=fun z => List.map_set.symm
     have hmem:=List.getElem_mem hk
     rw [hww] at hupd
     have hcm1:=fun O => hcm O ww l'[k].2 (by rw [← hww,List.length_append,List.length_singleton]; omega) (by omega)
     have hlt:=zgN hwin (hkp.ok ho).2
     generalize hlk:l'[k] = y at *
     obtain ⟨ys,yw⟩:=y
     simp only at hkt hcm1 hlt hupd hkl
     generalize cmpW ww yw = cw at *
     generalize zay (fun x:Fd => x.1 == t) l' 0 = fx at *
     subst hkx
     refine zag Tk Tryz.func96 (by exact ⟨by omega,by show ((k:Nat):Int) < (l'.length:Int); omega⟩) ?_
     refine zap Tk Tryz.func96 (gk) ?_
     refine zaf Tk Tryz.func96 (hcm1 _) rfl rfl rfl rfl rfl ?_
     refine zai Tk Tryz.func96 rfl (fun k4 => ?_) (fun k4 => ?_)
     ·have k4:cw < 0:=of_decide_eq_true k4
      have hq:=hupd (hlt.1 k4)
      refine zag Tk Tryz.func96 (by exact ⟨by omega,by show ((k:Nat):Int) < (l'.length:Int); omega⟩) ?_
      refine zap Tk Tryz.func96 (gk) ?_
      refine zac ?_
      refine ih3 (l'.set k (ys,ww),old',false,true,j + 1) _ _ ⟨h4,hq,by rw [List.length_set]; exact hxl',fun h => by cases h⟩ (by simp only; omega) ⟨rfl,rfl,rfl,rfl,rfl,rfl,rfl,rfl,rfl,rfl,hj1,trivial⟩ rfl ⟨rfl,?_,rfl,rfl,trivial⟩ rfl rfl
      show some (Ob.arr 178 2 l'.length ((l'.map fdI).set k (fdI (ys,ww))) true) = some (Ob.arr 178 2 (l'.set k (ys,ww)).length ((l'.set k (ys,ww)).map fdI) true)
      rw [hset,List.length_set]
     ·have k4:¬ cw < 0:=of_decide_eq_false k4
      have hle:rk yw ≤ rk ww:=by
       rcases Nat.lt_or_ge (rk ww) (rk yw) with h | h
       ·exact absurd (hlt.2 h) k4
       ·exact h
      refine zac ?_
      refine ih3 (l',old',false,ch',j + 1) _ _ ⟨h4,hps',hxl',hstep fun hc _ _ => ⟨(ys,yw),?_,?_,?_⟩⟩ (by simp only; omega) ⟨rfl,rfl,rfl,rfl,rfl,rfl,rfl,rfl,rfl,rfl,hj1,trivial⟩ rfl ⟨rfl,rfl,rfl,rfl,trivial⟩ rfl rfl
      ·rw [← (hps'.same hc).1]; exact hmem
      ·rw [← ht]; exact hkt
      ·simp only
       rw [hww]
       exact hle
   ·have h4:al.length ≤ j:=by simpa using g2
    rw [List.take_of_length_le h4] at hdn'
    refine zac ?_
    refine ih2 (l',old',false,ch',i + 1) _ _ ⟨h3,hps',fun hc i' hi' z hz e he => ?_⟩ (by simp only; omega) ⟨rfl,rfl,rfl,rfl,rfl,rfl,hi1,trivial⟩ rfl ⟨rfl,rfl,rfl,trivial⟩ rfl rfl
    have hi':i' < i + 1:=hi'
    obtain ⟨hc0,hcl0⟩:=hdn' hc
    by_cases hlt:i' < i
    ·exact hdn hc0 i' hlt z hz e he
    ·obtain rfl:i' = i:=by omega
     rw [hx3 hc0] at hz
     obtain rfl:=Option.some.inj hz
     exact hcl0 e he
  | true =>
   have hfw:=hps'.g.few ho
   refine zae Tk Tryz.func96 ?_
   refine zai Tk Tryz.func96 rfl (fun g2 => ?_) (fun g2 => ?_)
   ·have h4:j < al.length:=by simpa using g2
    clear g2
    have hj1:ii (IntKind.i64.wrap ((j:Int) + 1)) = ii ((j + 1:Nat):Int):=congrArg ii (zaB (n:=1000001) (by omega) (by decide))
    have ga:(al.map fun x => [vi x])[(j:Int).toNat]? = some [vi al[j]]:=zaj (f:=fun x => [vi x]) h4
    have htk:al.take (j + 1) = al.take j ++ [al[j]]:=List.take_succ_eq_append_getElem h4
    have he:al[j] ∈ al:=List.getElem_mem h4
    have hein:=ho.al _ he
    have hstep:(ch' = false → clE ⟨al,st0,mk,es⟩ on l0 (xs,xw) al[j]) → ch' = false → ch = false ∧ ∀ e ∈ al.take (j + 1),clE ⟨al,st0,mk,es⟩ on l0 (xs,xw) e:=fun hq hc => by
     refine ⟨(hdn' hc).1,fun e' he' => ?_⟩
     rw [htk] at he'
     rcases List.mem_append.1 he' with he' | he'
     ·exact (hdn' hc).2 e' he'
     ·rw [List.mem_singleton] at he'
      subst he'; exact hq hc
    generalize al[j] = e at *
    have d2:=fun O => hst O xs e
    have d3:=fun O => hct O e
    have hcl1:=fun O => hcl O xw (by omega)
    have hwin:inW (xw ++ [e]):=fun z hz => by
     rcases List.mem_append.1 hz with hz | hz
     ·exact hxin z hz
     ·rw [List.mem_singleton] at hz; subst hz; exact hein
    obtain ⟨t,ht⟩:∃ t,t = stp3 es xs e:=⟨_,rfl⟩
    rw [← ht] at d2
    refine zag Tk Tryz.func96 (by exact ⟨by omega,by show (j:Int) < (al.length:Int); omega⟩) ?_
    refine zap Tk Tryz.func96 (ga) ?_
    refine zaf Tk Tryz.func96 (d2 _) rfl rfl rfl rfl rfl ?_
    refine zaW Tk Tryz.func96 rfl (fun k1 => ?_) (fun k1 => ?_)
    ·have k1:t < 0:=of_decide_eq_true k1
     refine gcT Tk Tryz.func96 rfl ?_
     refine zac ?_
     refine ih3 (l',old',true,ch',j + 1) _ _ ⟨h4,hps',hxl',hstep fun _ _ h => by simp only at h; omega⟩ (by simp only; omega) ⟨rfl,rfl,rfl,rfl,rfl,rfl,rfl,rfl,rfl,rfl,hj1,trivial⟩ rfl ⟨rfl,rfl,rfl,rfl,trivial⟩ rfl rfl
    have k1:¬ t < 0:=of_decide_eq_false k1
    refine zaf Tk Tryz.func96 (d3 _) rfl rfl rfl rfl rfl ?_
    refine zai Tk Tryz.func96 rfl (fun k2 => ?_) (fun k2 => ?_)
    ·have k2:e ∈ on:=of_decide_eq_true k2
     refine zac ?_
     refine ih3 (l',old',true,ch',j + 1) _ _ ⟨h4,hps',hxl',hstep fun _ h => absurd k2 h⟩ (by simp only; omega) ⟨rfl,rfl,rfl,rfl,rfl,rfl,rfl,rfl,rfl,rfl,hj1,trivial⟩ rfl ⟨rfl,rfl,rfl,rfl,trivial⟩ rfl rfl
    have k2:e ∉ on:=of_decide_eq_false k2
    refine zaf Tk Tryz.func96 (hcl1 _) rfl rfl rfl rfl rfl ?_
    refine zag Tk Tryz.func96 (by exact ⟨by show (xw.length + 1) * 8 ≤ 140737488355328; omega,by show xw.length + 1 ≤ 9223372036854775807; omega⟩) ?_
    refine zax ?_
    refine zao (zam 50 rfl rfl) ?_
    refine zao (zd4 rfl) ?_
    have ew:I.sl 1 (xw.length + 1) (xw.map (fun x => [vi x]) ++ [[vi e]]) = zbu (xw ++ [e]):=by simp
    refine zaC (l:=[(2,ints on),(3,.own 0 3 0 0),(7,.osl 0 61),(8,bb ch'),(20,psD true l0.length),(21,ii l0.length),(22,ii i),(10,.own 0 10 0 0),(27,ints al),(28,ii al.length),(29,ii j),(12,ii e),(13,.own 0 13 0 0),(14,ints (xw ++ [e]))]) (Hv:=[(3,.box [ints al,ii st0,ints mk,edgs es]),(61,ofds l'),(62,ofds old'),(10,.box [ii xs,ints xw]),(13,.box [ii t])]) ?_ ⟨rfl,rfl,rfl,rfl,rfl,rfl,rfl,rfl,rfl,rfl,rfl,rfl,rfl,congrArg D.i ew,trivial⟩ rfl ⟨rfl,rfl,rfl,rfl,rfl,trivial⟩ rfl rfl
    generalize hww:xw ++ [e] = ww at *
    refine zae Tk Tryz.func96 ?_
    refine g_go Tk Tryz.func96 ?_
    refine zaf Tk Tryz.func96 (hix _ l' t (by omega) rfl rfl) rfl rfl rfl rfl rfl ?_
    refine zai Tk Tryz.func96 rfl (fun k3 => ?_) (fun k3 => ?_)
    ·have k3:zay (fun x:Fd => x.1 == t) l' 0 < 0:=of_decide_eq_true k3
     have hno:∀ y ∈ l',y.1 ≠ t:=fun y hy h => by
      have:=zeM k3 y hy
      simp [h] at this
     have happ:=fun al' hal => hps'.app (al':=al') ho hal hxp hxl' he k2 (by show 0 ≤ stp3 es xs e; omega) (fun y hy => by show y.1 ≠ stp3 es xs e; rw [← ht]; exact hno y hy)
     rw [hww] at happ
     have happ':∀ al',(al' = opS true old' ∨ al' = some l') → Pss ⟨al,st0,mk,es⟩ on frm n B l0 (l' ++ [(t,ww)]) al' true ∧ l'.length < n:=fun al' hal => by rw [ht]; exact happ al' hal
     have hofd:Ob.arr 178 2 (l'.length + 1) (l'.map fdI ++ [fdI (t,ww)]) true = ofds (l' ++ [(t,ww)]):=by simp
     have hxl2:xw.length ≤ B + (l' ++ [(t,ww)]).length:=by rw [List.length_append]; omega
     have hq:=(happ' (some old') (.inl rfl)).1
     refine zko Tk Tryz.func96 rfl rfl (Wk.refl) ?_
     refine zag Tk Tryz.func96 (by exact ⟨by show (l'.length + 1) * 32 ≤ 140737488355328; omega,by show l'.length + 1 ≤ 9223372036854775807; omega⟩) ?_
     refine zac ?_
     refine ih3 (l' ++ [(t,ww)],old',true,true,j + 1) _ _ ⟨h4,hq,hxl2,fun h => by cases h⟩ (by simp only; omega) ⟨rfl,rfl,rfl,rfl,rfl,rfl,rfl,rfl,rfl,rfl,hj1,trivial⟩ rfl ⟨rfl,congrArg some hofd,rfl,rfl,trivial⟩ rfl rfl
    ·have k3:¬ zay (fun x:Fd => x.1 == t) l' 0 < 0:=of_decide_eq_false k3
     obtain ⟨k,hk,hkx,hkt⟩:=zc2 k3
     rw [Nat.zero_add] at hkx
     have hkt:l'[k].1 = t:=by simpa using hkt
     have gk:(l'.map fdI)[(((k:Nat):Int)).toNat]? = some (fdI l'[k]):=zaj hk
     have hkp:=hps'.g.snd _ (List.getElem_mem hk)
     have hkl:=hps'.len _ (List.getElem_mem hk)
     have hupd:=fun hr => hps'.upd ho hxp he k2 (by show 0 ≤ stp3 es xs e; omega) hk (by rw [hkt]; exact ht) hr
     have hset:∀ z:Fd,(l'.map fdI).set k (fdI z) = (l'.set k z).map fdI:=fun z => List.map_set.symm
     have hmem:=List.getElem_mem hk
     rw [hww] at hupd
     have hcm1:=fun O => hcm O ww l'[k].2 (by rw [← hww,List.length_append,List.length_singleton]; omega) (by omega)
     have hlt:=zgN hwin (hkp.ok ho).2
     generalize hlk:l'[k] = y at *
     obtain ⟨ys,yw⟩:=y
     simp only at hkt hcm1 hlt hupd hkl
     generalize cmpW ww yw = cw at *
     generalize zay (fun x:Fd => x.1 == t) l' 0 = fx at *
     subst hkx
     refine zag Tk Tryz.func96 (by exact ⟨by omega,by show ((k:Nat):Int) < (l'.length:Int); omega⟩) ?_
     refine zap Tk Tryz.func96 (gk) ?_
     refine zaf Tk Tryz.func96 (hcm1 _) rfl rfl rfl rfl rfl ?_
     refine zai Tk Tryz.func96 rfl (fun k4 => ?_) (fun k4 => ?_)
     ·have k4:cw < 0:=of_decide_eq_true k4
      have hq:=hupd (hlt.1 k4)
      refine zag Tk Tryz.func96 (by exact ⟨by omega,by show ((k:Nat):Int) < (l'.length:Int); omega⟩) ?_
      refine zap Tk Tryz.func96 (gk) ?_
      refine zac ?_
      refine ih3 (l'.set k (ys,ww),old',true,true,j + 1) _ _ ⟨h4,hq,by rw [List.length_set]; exact hxl',fun h => by cases h⟩ (by simp only; omega) ⟨rfl,rfl,rfl,rfl,rfl,rfl,rfl,rfl,rfl,rfl,hj1,trivial⟩ rfl ⟨rfl,?_,rfl,rfl,trivial⟩ rfl rfl
      show some (Ob.arr 178 2 l'.length ((l'.map fdI).set k (fdI (ys,ww))) true) = some (Ob.arr 178 2 (l'.set k (ys,ww)).length ((l'.set k (ys,ww)).map fdI) true)
      rw [hset,List.length_set]
     ·have k4:¬ cw < 0:=of_decide_eq_false k4
      have hle:rk yw ≤ rk ww:=by
       rcases Nat.lt_or_ge (rk ww) (rk yw) with h | h
       ·exact absurd (hlt.2 h) k4
       ·exact h
      refine zac ?_
      refine ih3 (l',old',true,ch',j + 1) _ _ ⟨h4,hps',hxl',hstep fun hc _ _ => ⟨(ys,yw),?_,?_,?_⟩⟩ (by simp only; omega) ⟨rfl,rfl,rfl,rfl,rfl,rfl,rfl,rfl,rfl,rfl,hj1,trivial⟩ rfl ⟨rfl,rfl,rfl,rfl,trivial⟩ rfl rfl
      ·rw [← (hps'.same hc).1]; exact hmem
      ·rw [← ht]; exact hkt
      ·simp only
       rw [hww]
       exact hle
   ·have h4:al.length ≤ j:=by simpa using g2
    rw [List.take_of_length_le h4] at hdn'
    refine zac ?_
    refine ih2 (l',old',true,ch',i + 1) _ _ ⟨h3,hps',fun hc i' hi' z hz e he => ?_⟩ (by simp only; omega) ⟨rfl,rfl,rfl,rfl,rfl,rfl,hi1,trivial⟩ rfl ⟨rfl,rfl,rfl,trivial⟩ rfl rfl
    have hi':i' < i + 1:=hi'
    obtain ⟨hc0,hcl0⟩:=hdn' hc
    by_cases hlt:i' < i
    ·exact hdn hc0 i' hlt z hz e he
    ·obtain rfl:i' = i:=by omega
     rw [hx3 hc0] at hz
     obtain rfl:=Option.some.inj hz
     exact hcl0 e he
 ·have h3:l0.length ≤ i:=by simpa using g1
  cases ch with
  | false =>
   obtain ⟨e1,-⟩:=hps.same rfl
   subst e1
   have hq:RQ ⟨al,st0,mk,es⟩ on frm l:=hg.q hsrt fun z hz e he => by
    obtain ⟨i',hi',rfl⟩:=List.mem_iff_getElem.1 hz
    exact hdn rfl i' (by omega) _ (List.getElem?_eq_getElem hi') e he
   rw [← zpc ho hq]
   refine gcT Tk Tryz.func96 rfl ?_
   refine zcJ (zam 61 rfl rfl) ?_
   refine zal Tk (r:=fdsD l) rfl rfl rfl trivial rfl rfl ?_
   rfl
  | true =>
   refine gcF Tk Tryz.func96 rfl ?_
   refine zac ?_
   have hlt:=hps.less rfl
   refine ih (l,old) _ _ ⟨hps.g,hps.len⟩ (by simpa using hlt) ⟨rfl,rfl,rfl,trivial⟩ rfl ⟨rfl,rfl,rfl,trivial⟩ rfl rfl
end Go.AI


namespace Go.AI
open Go.Proofs
set_option maxRecDepth 20000
def zsI (x:Sys) (a:Aut) (ps:List (Int × Int)) (E:List Int) (e:Int):Prop:=(∃ s ∈ E,ze3 a s e = true) ∧ ∃ s ∈ E,refF x a ps s e = true
theorem filt_pos {f:Int → Bool} {l:List Int}:0 < (l.filter f).length ↔ ∃ s ∈ l,f s = true:=by
 rw [List.length_pos_iff_exists_mem]
 exact ⟨fun ⟨s,h⟩ => ⟨s,(List.mem_filter.1 h).1,(List.mem_filter.1 h).2⟩,fun ⟨s,h1,h2⟩ => ⟨s,List.mem_filter.2 ⟨h1,h2⟩⟩⟩
theorem zfM {x:Sys} {a:Aut} {ps:List (Int × Int)} {o:Aut} {i:Int} {E:List Int}:∀ {l:List Int},(zd5 x a ps o i E l).isSome = true ↔ ∃ e ∈ l,zsI x a ps E e
 | [] => by simp [zd5]
 | e :: r => by
  simp only [zd5]
  by_cases c:0 < (divP a E e).length ∧ 0 < (divR x a ps E e).length
  ·rw [if_pos c]
   exact ⟨fun _ => ⟨e,by simp,filt_pos.1 c.1,filt_pos.1 c.2⟩,fun _ => rfl⟩
  ·rw [if_neg c,zfM (l:=r)]
   refine ⟨fun ⟨e',h1,h2⟩ => ⟨e',by simp [h1],h2⟩,fun ⟨e',h1,h2⟩ => ?_⟩
   rcases List.mem_cons.1 h1 with rfl | h1
   ·exact absurd ⟨filt_pos.2 h2.1,filt_pos.2 h2.2⟩ c
   ·exact ⟨e',h1,h2⟩
theorem zfo {x:Sys} {a:Aut} {ps:List (Int × Int)} {o:Aut}:∀ {es:List (List Int)} {i:Nat},(za9 x a ps o es i).isSome = true ↔ ∃ E ∈ es,∃ e ∈ x.ct,zsI x a ps E e
 | [],i => by simp [za9]
 | E :: r,i => by
  simp only [za9]
  have h:=zfM (x:=x) (a:=a) (ps:=ps) (o:=o) (i:=i) (E:=E) (l:=x.ct)
  cases hI:zd5 x a ps o i E x.ct with
  | some w =>
   rw [hI] at h
   obtain ⟨e,h1,h2⟩:=h.1 rfl
   exact ⟨fun _ => ⟨E,by simp,e,h1,h2⟩,fun _ => rfl⟩
  | none =>
   rw [hI] at h
   simp only
   rw [zfo (es:=r)]
   refine ⟨fun ⟨E',h1,h2⟩ => ⟨E',by simp [h1],h2⟩,fun ⟨E',h1,h2⟩ => ?_⟩
   rcases List.mem_cons.1 h1 with rfl | h1
   ·have:=h.2 h2; cases this
   ·exact ⟨E',h1,h2⟩
end Go.AI


namespace Go.AI
set_option maxRecDepth 20000
section
variable {a:Aut} {n:Nat} {on on1:List Int} {V V1:Unf (List Int)}
theorem zl4 {on:List Int} {ev:Int}:lowP on [] false ev = true ↔ ev ∉ on:=by simp [lowP]
end
theorem zqh {x:Sys} (hx:gSys x) (hV:(lpV x).length ≤ 4095) (hn:(lpR x).2.length ≤ 11) (h0:(lpR x).2.length ≠ 0):∃ V,prjU (lpR x).1 (lpR x).2.length x.ob V ∧ (esR x).2 = V.sts:=by
 obtain ⟨V,hU⟩:=zu0 (lp_g hx hV).1 (by omega) hn x.ob
 exact ⟨V,hU,by unfold esR; rw [if_neg h0,hU.hV]⟩
theorem ztc {x:Sys} (h0:(lpR x).2.length = 0):(esR x).2 = []:=by unfold esR; rw [if_pos h0]
end Go.AI


namespace Go.AI
set_option maxRecDepth 20000
theorem zfY {es:List Edg} {e:Int}:∀ {w:List Int} {s:Int},0 ≤ runI es s w → runI es s (w ++ [e]) = if stp3 es (runI es s w) e < 0 then -1 else stp3 es (runI es s w) e
 | [],s,_ => rfl
 | x :: w,s,h => by
  by_cases c:stp3 es s x < 0
  ·rw [runI,if_pos c] at h; omega
  ·have e1:runI es s (x :: w) = runI es (stp3 es s x) w:=by rw [runI,if_neg c]
   have e2:runI es s (x :: (w ++ [e])) = runI es (stp3 es s x) (w ++ [e]):=by rw [runI,if_neg c]
   rw [e1] at h
   rw [List.cons_append,e2,e1]
   exact zfY h
structure vdF (a:Aut) (n:Nat) (l:List Fd):Prop where
 nd:(l.map (·.1)).Nodup
 run:∀ x ∈ l,runI a.edges 0 x.2 = x.1
 rng:∀ x ∈ l,0 ≤ x.1 ∧ x.1 < (n:Int)
 wrd:∀ x ∈ l,inW x.2
theorem zsX {P:List Int → Prop}:∀ (m:Nat) (w:List Int),P w → rk w ≤ m → ∃ w,P w ∧ ∀ w',P w' → rk w ≤ rk w'
 | m,w,hp,hm => by
  by_cases h:∃ w',P w' ∧ rk w' < rk w
  ·obtain ⟨w',h1,h2⟩:=h
   cases m with
   | zero => omega
   | succ m => exact zsX m w' h1 (by omega)
  ·exact ⟨w,hp,fun w' hw => Nat.le_of_not_lt fun hlt => h ⟨w',hw,hlt⟩⟩
section
variable {a:Aut} {on:List Int} {frm:List Fd} {n:Nat}
theorem vdF.ok (h:gAut a n) (hv:vdF a n frm):fdOk a n frm:=⟨(zar (zaK h.c).1).2.1,h.to,hv.rng,hv.wrd⟩
theorem RP.run (h:gAut a n) (hv:vdF a n frm) {s:Int} {w:List Int} (hp:RP a on frm s w):runI a.edges 0 w = s:=by
 induction hp with
 | base hx => exact hv.run _ hx
 | @step s e w hp he ho ht ih =>
  have:=(hp.ok (hv.ok h)).1
  rw [zfY (by rw [ih]; omega),ih,if_neg (by omega)]
theorem vdF.det (h:gAut a n) (hv:vdF a n frm):∀ s t w,RP a on frm s w → RP a on frm t w → s = t:=fun s t w h1 h2 => (h1.run h hv).symm.trans (h2.run h hv)
theorem zsO (h:gAut a n) (hv:vdF a n frm):∀ k,k ≤ n → ∃ l:List Fd,(∀ y ∈ l,RP a on frm y.1 y.2 ∧ y.1 < (k:Int)) ∧ (l.map (·.1)).Nodup ∧ ∀ t w,RP a on frm t w → t < (k:Int) → ∃ y ∈ l,y.1 = t ∧ rk y.2 ≤ rk w
 | 0,_ => ⟨[],by simp,by simp,fun t w hp ht => by have:=(hp.ok (hv.ok h)).1; omega⟩
 | k + 1,hk => by
  obtain ⟨l,h1,h2,h3⟩:=zsO h hv k (by omega)
  by_cases hc:∃ w,RP a on frm (k:Int) w
  ·obtain ⟨w0,hw0⟩:=hc
   obtain ⟨w,hw,hmin⟩:=zsX (P:=fun w => RP a on frm (k:Int) w) _ w0 hw0 (Nat.le_refl _)
   refine ⟨l ++ [((k:Int),w)],fun y hy => ?_,?_,fun t v hp ht => ?_⟩
   ·rcases List.mem_append.1 hy with hy | hy
    ·exact ⟨(h1 y hy).1,by have:=(h1 y hy).2; omega⟩
    ·rw [List.mem_singleton] at hy
     subst hy
     exact ⟨hw,by simp only; omega⟩
   ·rw [List.map_append,List.nodup_append]
    refine ⟨h2,by simp,fun x hx y hy => ?_⟩
    obtain ⟨z,hz,rfl⟩:=List.mem_map.1 hx
    simp only [List.map_cons,List.map_nil,List.mem_singleton] at hy
    subst hy
    have:=(h1 z hz).2
    show z.1 ≠ (k:Int)
    omega
   ·by_cases htk:t = (k:Int)
    ·subst htk
     exact ⟨((k:Int),w),by simp,rfl,hmin v hp⟩
    ·obtain ⟨y,hy,h4⟩:=h3 t v hp (by omega)
     exact ⟨y,by simp [hy],h4⟩
  ·refine ⟨l,fun y hy => ⟨(h1 y hy).1,by have:=(h1 y hy).2; omega⟩,h2,fun t v hp ht => ?_⟩
   by_cases htk:t = (k:Int)
   ·subst htk; exact absurd ⟨v,hp⟩ hc
   ·exact h3 t v hp (by omega)
theorem zfq (h:gAut a n) (hv:vdF a n frm):RQ a on frm (rchF a on frm):=by
 obtain ⟨l,h1,h2,h3⟩:=zsO (on:=on) h hv n (Nat.le_refl _)
 have hlow:∀ t w,RP a on frm t w → ∃ y ∈ l,y.1 = t ∧ rk y.2 ≤ rk w:=fun t w hp => h3 t w hp (hp.ok (hv.ok h)).1.2
 have hg:RGd a on frm l:=⟨fun y hy => (h1 y hy).1,h2,fun x hx => hlow _ _ (RP.base hx)⟩
 obtain ⟨m,hm1,hm2⟩:=zqa (hg.rks (hv.det h) (hv.ok h))
 have hq:RQ a on frm m:=⟨fun y hy => hg.snd y (hm2.mem_iff.1 hy),(hg.perm hm2).nd,fun t w hp => let ⟨y,hy,e⟩:=hlow t w hp; ⟨y,hm2.mem_iff.2 hy,e⟩,hm1⟩
 rwa [← zpc (hv.ok h) hq]
theorem zh1 (h:gAut a n) (hv:vdF a n frm):vdF a n (rchF a on frm):=by
 have hq:=zfq (on:=on) h hv
 exact ⟨hq.nd,fun x hx => (hq.snd x hx).run h hv,fun x hx => ((hq.snd x hx).ok (hv.ok h)).1,fun x hx => ((hq.snd x hx).ok (hv.ok h)).2⟩
theorem zdR (h:gAut a n) (hv:vdF a n frm):zbs ((rchF a on frm).map (·.1)) = clo a.edges (lowP on [] false) n (frm.map (·.1)):=by
 have hq:=zfq (on:=on) h hv
 have hvd:=zh1 (on:=on) h hv
 rw [zed (n:=n) hq.nd fun x hx => by
  obtain ⟨y,hy,rfl⟩:=List.mem_map.1 hx
  exact hvd.rng y hy]
 unfold clo
 refine zcV fun x hx0 hxn => ?_
 clear hx0 hxn
 rw [zc1 h.to]
 constructor
 ·intro hx
  obtain ⟨y,hy,rfl⟩:=List.mem_map.1 hx
  have:∀ s w,RP a on frm s w → Rc a.edges (lowP on [] false) (frm.map (·.1)) s:=by
   intro s w hp
   induction hp with
   | base hx => exact .base (List.mem_map.2 ⟨_,hx,rfl⟩)
   | @step s e w hp he ho ht ih =>
    obtain ⟨z,hz,e1,e2,e3⟩:=zdm ht
    rw [← e3]
    exact .step (by rw [e1]; exact ih) hz (by rw [e2,zl4]; exact ho)
  exact this _ _ (hq.snd y hy)
 ·intro hx
  have:∃ w,RP a on frm x w:=by
   induction hx with
   | base hx =>
    obtain ⟨y,hy,rfl⟩:=List.mem_map.1 hx
    exact ⟨_,RP.base hy⟩
   | @step e hr he hp ih =>
    obtain ⟨w,hw⟩:=ih
    have hs:=zcP h.pw he
    have:=h.to e he
    rw [← hs]
    exact ⟨_,RP.step hw (h.ev e he) (zl4.1 hp) (by rw [hs]; exact this.1)⟩
  obtain ⟨w,hw⟩:=this
  obtain ⟨y,hy,e,_⟩:=hq.low x w hw
  exact List.mem_map.2 ⟨y,hy,e⟩
end
def nxS (es:List Edg) (e:Int) (acc:List Fd) (x:Fd):List Fd:=
 if stp3 es x.1 e < 0 then acc else
 if zay (fun y:Fd => y.1 == stp3 es x.1 e) acc 0 < 0 then acc ++ [(stp3 es x.1 e,x.2 ++ [e])] else
 if cmpW (x.2 ++ [e]) (acc.getD (zay (fun y:Fd => y.1 == stp3 es x.1 e) acc 0).toNat (0,[])).2 < 0 then acc.set (zay (fun y:Fd => y.1 == stp3 es x.1 e) acc 0).toNat ((acc.getD (zay (fun y:Fd => y.1 == stp3 es x.1 e) acc 0).toNat (0,[])).1,x.2 ++ [e]) else acc
def nxF (es:List Edg) (e:Int) (W:List Fd):List Fd:=W.foldl (nxS es e) []
structure NxOk (es:List Edg) (e:Int) (W acc:List Fd):Prop where
 nd:(acc.map (·.1)).Nodup
 snd:∀ y ∈ acc,∃ x ∈ W,y = (stp3 es x.1 e,x.2 ++ [e]) ∧ 0 ≤ y.1
 cov:∀ x ∈ W,0 ≤ stp3 es x.1 e → ∃ y ∈ acc,y.1 = stp3 es x.1 e ∧ rk y.2 ≤ rk (x.2 ++ [e])
theorem zu2 {es:List Edg} {e:Int} {W acc:List Fd} {x:Fd} (he:0 ≤ e ∧ e < 32) (hW:∀ x ∈ W,inW x.2) (hx:inW x.2) (h:NxOk es e W acc):NxOk es e (W ++ [x]) (nxS es e acc x):=by
 have hsn:∀ y ∈ acc,∃ z ∈ W ++ [x],y = (stp3 es z.1 e,z.2 ++ [e]) ∧ 0 ≤ y.1:=fun y hy => let ⟨z,hz,e1⟩:=h.snd y hy; ⟨z,by simp [hz],e1⟩
 have hwe:∀ v:List Int,inW v → inW (v ++ [e]):=fun v hv z hz => by
  rcases List.mem_append.1 hz with hz | hz
  ·exact hv z hz
  ·rw [List.mem_singleton] at hz; subst hz; exact he
 unfold nxS
 by_cases c1:stp3 es x.1 e < 0
 ·rw [if_pos c1]
  refine ⟨h.nd,hsn,fun z hz ht => ?_⟩
  rcases List.mem_append.1 hz with hz | hz
  ·exact h.cov z hz ht
  ·rw [List.mem_singleton] at hz; subst hz; omega
 rw [if_neg c1]
 by_cases c2:zay (fun y:Fd => y.1 == stp3 es x.1 e) acc 0 < 0
 ·rw [if_pos c2]
  have hno:=zeM c2
  refine ⟨?_,fun y hy => ?_,fun z hz ht => ?_⟩
  ·rw [List.map_append,List.nodup_append]
   refine ⟨h.nd,by simp,fun u hu v hv => ?_⟩
   obtain ⟨y,hy,rfl⟩:=List.mem_map.1 hu
   simp only [List.map_cons,List.map_nil,List.mem_singleton] at hv
   subst hv
   have:=hno y hy
   simpa using this
  ·rcases List.mem_append.1 hy with hy | hy
   ·exact hsn y hy
   ·rw [List.mem_singleton] at hy
    subst hy
    exact ⟨x,by simp,rfl,by simp only; omega⟩
  ·rcases List.mem_append.1 hz with hz | hz
   ·obtain ⟨y,hy,e1⟩:=h.cov z hz ht
    exact ⟨y,by simp [hy],e1⟩
   ·rw [List.mem_singleton] at hz
    subst hz
    exact ⟨_,List.mem_append.2 (.inr (List.mem_singleton.2 rfl)),rfl,Nat.le_refl _⟩
 rw [if_neg c2]
 obtain ⟨k,hk,hkx,hkt⟩:=zc2 c2
 rw [Nat.zero_add] at hkx
 have hkt:acc[k].1 = stp3 es x.1 e:=by simpa using hkt
 rw [hkx,Int.toNat_natCast]
 have hgd:acc.getD k (0,[]) = acc[k]:=by rw [List.getD_eq_getElem?_getD,List.getElem?_eq_getElem hk]; rfl
 rw [hgd]
 have hyin:inW acc[k].2:=by
  obtain ⟨z,hz,e1,_⟩:=h.snd _ (List.getElem_mem hk)
  rw [e1]
  exact hwe _ (hW z hz)
 by_cases c3:cmpW (x.2 ++ [e]) acc[k].2 < 0
 ·rw [if_pos c3]
  have hlt:=(zgN (hwe _ hx) hyin).1 c3
  have hmap:(acc.set k (acc[k].1,x.2 ++ [e])).map (·.1) = acc.map (·.1):=by
   rw [List.map_set]
   have:acc[k].1 = (acc.map (·.1))[k]'(by rw [List.length_map]; exact hk):=by simp
   simp only
   rw [this,List.set_getElem_self]
  have hcv:∀ t v,(∃ y ∈ acc,y.1 = t ∧ rk y.2 ≤ v) → ∃ y ∈ acc.set k (acc[k].1,x.2 ++ [e]),y.1 = t ∧ rk y.2 ≤ v:=by
   rintro t v ⟨y,hy,h1,h2⟩
   obtain ⟨i,hi,rfl⟩:=List.mem_iff_getElem.1 hy
   by_cases hik:k = i
   ·subst hik
    exact ⟨_,List.mem_set hk _,h1,by simp only; omega⟩
   ·exact ⟨acc[i],by
     rw [List.mem_iff_getElem]
     exact ⟨i,by rw [List.length_set]; exact hi,by rw [List.getElem_set_ne hik]⟩,h1,h2⟩
  refine ⟨by rw [hmap]; exact h.nd,fun y hy => ?_,fun z hz ht => ?_⟩
  ·rcases List.mem_or_eq_of_mem_set hy with hy | rfl
   ·exact hsn y hy
   ·exact ⟨x,by simp,by rw [hkt],by simp only; rw [hkt]; omega⟩
  ·rcases List.mem_append.1 hz with hz | hz
   ·exact hcv _ _ (h.cov z hz ht)
   ·rw [List.mem_singleton] at hz
    subst hz
    exact ⟨_,List.mem_set hk _,hkt,Nat.le_refl _⟩
 ·rw [if_neg c3]
  refine ⟨h.nd,hsn,fun z hz ht => ?_⟩
  rcases List.mem_append.1 hz with hz | hz
  ·exact h.cov z hz ht
  ·rw [List.mem_singleton] at hz
   subst hz
   refine ⟨acc[k],List.getElem_mem hk,hkt,?_⟩
   rcases Nat.lt_or_ge (rk (z.2 ++ [e])) (rk acc[k].2) with hlt | hge
   ·exact absurd ((zgN (hwe _ hx) hyin).2 hlt) c3
   ·exact hge
theorem zpo {es:List Edg} {e:Int} (he:0 ≤ e ∧ e < 32):∀ (W W0 acc:List Fd),(∀ x ∈ W0,inW x.2) → (∀ x ∈ W,inW x.2) → NxOk es e W0 acc → NxOk es e (W0 ++ W) (W.foldl (nxS es e) acc)
 | [],W0,acc,_,_,h => by simpa using h
 | x :: W,W0,acc,h0,h1,h => by
  rw [List.foldl_cons]
  have:=zpo he W (W0 ++ [x]) _ (fun y hy => by
   rcases List.mem_append.1 hy with hy | hy
   ·exact h0 y hy
   ·rw [List.mem_singleton] at hy; subst hy; exact h1 _ (by simp)) (fun y hy => h1 y (by simp [hy])) (zu2 he h0 (h1 x (by simp)) h)
  simpa using this
theorem zjc {es:List Edg} {e:Int} {W:List Fd} (he:0 ≤ e ∧ e < 32) (hW:∀ x ∈ W,inW x.2):NxOk es e W (nxF es e W):=by
 have:=zpo (es:=es) he W [] [] (by simp) hW ⟨by simp,by simp,by simp⟩
 simpa [nxF] using this
section
variable {a:Aut} {on:List Int} {n:Nat} {W:List Fd} {e:Int}
theorem zlY (h:gAut a n) (he:0 ≤ e ∧ e < 32) (hv:vdF a n W):vdF a n (nxF a.edges e W):=by
 have hn:=zjc (es:=a.edges) he hv.wrd
 refine ⟨hn.nd,fun y hy => ?_,fun y hy => ?_,fun y hy => ?_⟩
 ·obtain ⟨x,hx,rfl,h0⟩:=hn.snd y hy
  simp only at h0 ⊢
  have hr:=hv.run x hx
  have:=hv.rng x hx
  rw [zfY (by rw [hr]; omega),hr,if_neg (by omega)]
 ·obtain ⟨x,hx,rfl,h0⟩:=hn.snd y hy
  refine ⟨h0,?_⟩
  obtain ⟨z,hz,_,_,e3⟩:=zdm (show 0 ≤ stp3 a.edges x.1 e from h0)
  simp only
  rw [← e3]
  exact (h.to z hz).2
 ·obtain ⟨x,hx,rfl,_⟩:=hn.snd y hy
  intro z hz
  rcases List.mem_append.1 hz with hz | hz
  ·exact hv.wrd x hx z hz
  ·rw [List.mem_singleton] at hz; subst hz; exact he
theorem znz (h:gAut a n) (he:0 ≤ e ∧ e < 32) (hv:vdF a n W) {s:List Int} (hs:∀ x,x ∈ s ↔ x ∈ W.map (·.1)):∀ t,t ∈ (nxF a.edges e W).map (·.1) ↔ t ∈ tgtE a.edges s e:=by
 have hn:=zjc (es:=a.edges) he hv.wrd
 intro t
 rw [zib]
 constructor
 ·intro ht
  obtain ⟨y,hy,rfl⟩:=List.mem_map.1 ht
  obtain ⟨x,hx,rfl,h0⟩:=hn.snd y hy
  obtain ⟨z,hz,e1,e2,e3⟩:=zdm (show 0 ≤ stp3 a.edges x.1 e from h0)
  exact ⟨z,hz,by rw [e1,hs]; exact List.mem_map.2 ⟨x,hx,rfl⟩,e2,e3⟩
 ·rintro ⟨z,hz,h1,rfl,rfl⟩
  rw [hs] at h1
  obtain ⟨x,hx,e1⟩:=List.mem_map.1 h1
  have hst:=zcP h.pw hz
  rw [← e1] at hst
  obtain ⟨y,hy,e2,_⟩:=hn.cov x hx (by rw [hst]; exact (h.to z hz).1)
  exact List.mem_map.2 ⟨y,hy,by rw [e2,hst]⟩
theorem zh8 (h:gAut a n) (he:0 ≤ e ∧ e < 32) (hv:vdF a n W) {s:List Int} (hs:∀ x,x ∈ s ↔ x ∈ W.map (·.1)):clo a.edges (lowP on [] false) n ((nxF a.edges e W).map (·.1)) = nxt a.edges (lowP on [] false) n s e:=
 zeR h.to (fun _ _ => rfl) (znz h he hv hs)
theorem zpp (h:gAut a n) (he:0 ≤ e ∧ e < 32) (hv:vdF a n W) {s:List Int} (hs:∀ x,x ∈ s ↔ x ∈ W.map (·.1)):nxF a.edges e W = [] ↔ nxt a.edges (lowP on [] false) n s e = []:=by
 constructor
 ·intro h0
  have:=zh8 (on:=on) h he hv hs
  rw [h0,List.map_nil,zuB] at this
  exact this.symm
 ·intro h0
  refine Classical.byContradiction fun hne => ?_
  obtain ⟨y,hy⟩:=List.exists_mem_of_ne_nil _ hne
  have hr:=(zlY h he hv).rng y hy
  have:y.1 ∈ nxt a.edges (lowP on [] false) n s e:=by
   rw [← zh8 (on:=on) h he hv hs,zid h.to]
   exact ⟨hr,.base (List.mem_map.2 ⟨y,hy,rfl⟩)⟩
  rw [h0] at this
  cases this
theorem vd0 (h:gAut a n) (h0:0 < n):vdF a n [((0:Int),([]:List Int))]:=⟨by simp,by simp [runI],fun x hx => by
 rw [List.mem_singleton] at hx; subst hx; exact ⟨Int.le_refl _,by simp only; omega⟩,fun x hx => by
 rw [List.mem_singleton] at hx; subst hx; intro z hz; cases hz⟩
end
structure WOk (a:Aut) (on:List Int) (eds:List Edg) (N:Nat) (W:List (List Fd)):Prop where
 len:W.length = N
 fst:W[0]? = some (rchF a on [((0:Int),([]:List Int))])
 nxt:∀ k,0 < k → k < N → ∃ (i:Nat) (e:Int) (Wi:List Fd),eds.find? (fun x => x.2.2 == (k:Int)) = some ((i:Int),e,(k:Int)) ∧ i < k ∧ W[i]? = some Wi ∧ W[k]? = some (rchF a on (nxF a.edges e Wi))
theorem WOk.eq {a:Aut} {on:List Int} {eds:List Edg} {N:Nat} {W W':List (List Fd)} (h:WOk a on eds N W) (h':WOk a on eds N W'):W = W':=by
 have key:∀ (m k:Nat),k < m → W[k]? = W'[k]?:=by
  intro m
  induction m with
  | zero => intro k hk; omega
  | succ m ih =>
   intro k hk
   by_cases h0:k = 0
   ·subst h0; rw [h.fst,h'.fst]
   ·by_cases hN:k < N
    ·obtain ⟨i,e,Wi,f1,f2,f3,f4⟩:=h.nxt k (by omega) hN
     obtain ⟨i',e',Wi',g1,g2,g3,g4⟩:=h'.nxt k (by omega) hN
     rw [f1] at g1
     simp only [Option.some.injEq,Prod.mk.injEq,and_true] at g1
     obtain ⟨g0,rfl⟩:=g1
     obtain rfl:i = i':=by omega
     rw [ih i (by omega),g3] at f3
     obtain rfl:=Option.some.inj f3
     rw [f4,g4]
    ·rw [List.getElem?_eq_none (by rw [h.len]; omega),List.getElem?_eq_none (by rw [h'.len]; omega)]
 exact List.ext_getElem? fun k => key (k + 1) k (Nat.lt_succ_self k)
open Classical in
noncomputable def wrdF (a:Aut) (on:List Int) (eds:List Edg) (N:Nat):List (List Fd):=if h:∃ W,WOk a on eds N W then h.choose else []
theorem zom {a:Aut} {on:List Int} {eds:List Edg} {N:Nat} {W:List (List Fd)} (h:WOk a on eds N W):W = wrdF a on eds N:=by
 have hex:∃ W,WOk a on eds N W:=⟨W,h⟩
 have e:wrdF a on eds N = hex.choose:=by unfold wrdF; rw [dif_pos hex]
 rw [e]
 exact h.eq hex.choose_spec
theorem WOk.edge {a:Aut} {on:List Int} {eds:List Edg} {N:Nat} {W:List (List Fd)} (h:WOk a on eds N W) (x:Edg):WOk a on (eds ++ [x]) N W:=by
 refine ⟨h.len,h.fst,fun k h0 hk => ?_⟩
 obtain ⟨i,e,Wi,f1,f2⟩:=h.nxt k h0 hk
 exact ⟨i,e,Wi,by rw [List.find?_append,f1]; rfl,f2⟩
theorem WOk.grow {a:Aut} {on:List Int} {eds:List Edg} {N:Nat} {W:List (List Fd)} (h:WOk a on eds N W) (hb:∀ x ∈ eds,x.2.2 < (N:Int)) {i:Nat} {e:Int} {Wi:List Fd} (hi:W[i]? = some Wi):WOk a on (eds ++ [((i:Int),e,(N:Int))]) (N + 1) (W ++ [rchF a on (nxF a.edges e Wi)]):=by
 have hil:i < N:=by rw [← h.len]; exact (List.getElem?_eq_some_iff.1 hi).1
 have hpos:0 < W.length:=by rw [h.len]; omega
 refine ⟨by rw [List.length_append,h.len]; rfl,by rw [List.getElem?_append_left hpos]; exact h.fst,fun k h0 hk => ?_⟩
 by_cases hkN:k = N
 ·subst hkN
  refine ⟨i,e,Wi,?_,hil,by rw [List.getElem?_append_left (by rw [h.len]; omega)]; exact hi,?_⟩
  ·have hnone:eds.find? (fun x => x.2.2 == (k:Int)) = none:=List.find?_eq_none.2 fun x hx => by
    have:=hb x hx
    simp only [beq_iff_eq]
    omega
   rw [List.find?_append,hnone]
   simp
  ·rw [List.getElem?_append_right (by rw [h.len]; omega),h.len,Nat.sub_self]
   rfl
 ·obtain ⟨i',e',Wi',f1,f2,f3,f4⟩:=h.nxt k h0 (by omega)
  exact ⟨i',e',Wi',by rw [List.find?_append,f1]; rfl,f2,by rw [List.getElem?_append_left (by rw [h.len]; omega)]; exact f3,by rw [List.getElem?_append_left (by rw [h.len]; omega)]; exact f4⟩
end Go.AI


namespace Go.AI
open Go.Proofs
set_option maxRecDepth 20000
abbrev Es2:=List Int × List Fd
abbrev esI (x:Es2):List I:=[zbu x.1,.sl 2 x.2.length (x.2.map fdI)]
abbrev esD (x:Es2):D:=.agg [ints x.1,fdsD x.2]
abbrev zh6 (l:List Es2):Ob:=.arr 102 2 l.length (l.map esI) true
abbrev znP (l:List Es2):D:=.i (.sl 2 l.length (l.map esI))
theorem zpl (l:List Es2) (x:Es2):Ob.arr 102 2 (l.length + 1) (l.map esI ++ [esI x]) true = zh6 (l ++ [x]):=by simp
theorem zsE {P:Program} {f:FuncId} {args args':List D} {O O':List Heap} {res:D} {Hr:Heap} (hc:CoDL args' args) (h:zan P f args O res Hr O'):zan P f args' O res Hr O':=fun E K ρ w vs hi hr => h E K ρ w vs hi (hc.rep hr)
theorem mk98 (O:List Heap) (a:Aut) (s:Int) (d nm:Nat) (hl:a.marked.length ≤ 1000000) (ho:zaa O d nm = some (.box (autC a))):zan Tryz.prog 98 [ii s,.own d nm 0 0] O (bb (decide (s ∈ a.marked))) [] O:=by
 have h:=fun O => zbc O a.marked s (by simp only [zas]; omega)
 obtain ⟨al,st,mk,es⟩:=a
 refine zad Tk Tryz.func98 rfl Tryz.call98 Tryz.ntmps98 (Nat.le_of_ble_eq_true rfl) fun E => ?_
 refine zae Tk Tryz.func98 ?_
 refine zbg Tk Tryz.func98 (zaI ho) ?_
 refine zaf Tk Tryz.func98 (h _) rfl rfl rfl rfl rfl ?_
 refine zal Tk (r:=bb (decide (s ∈ Aut.marked ⟨al,st,mk,es⟩))) rfl rfl rfl trivial rfl rfl ?_
 rfl
theorem zwa (O:List Heap) (z y:Es2) (d nm:Nat) (hl:z.1.length ≤ 1000000) (ho:zaa O d nm = some (.box [ints y.1,fdsD y.2])):zan Tryz.prog 103 [esD z,.own d nm 0 0] O (bb (decide (z.1 = y.1))) [] O:=by
 have h:=fun O => zdD O z.1 y.1 (by simp only [zas]; omega)
 refine zad Tk Tryz.func103 rfl Tryz.call103 Tryz.ntmps103 (Nat.le_of_ble_eq_true rfl) fun E => ?_
 refine zae Tk Tryz.func103 ?_
 refine zbg Tk Tryz.func103 (zaI ho) ?_
 refine zaf Tk Tryz.func103 (h _) rfl rfl rfl rfl rfl ?_
 refine zal Tk (r:=bb (decide (z.1 = y.1))) rfl rfl rfl trivial rfl rfl ?_
 rfl
theorem zr9 (O:List Heap) (l:List Es2) (f:Nat) (e w d nm:Nat) (p:Es2 → Bool) (hl:l.length ≤ 1000000) (ho:zaa O e w = some (zh6 l)) (hp:∀ x ∈ l,zan Tryz.prog f [esD x,.own (d + 1) nm 0 0] ([] :: O) (bb (p x)) [] ([] :: O)) :
  zan Tryz.prog 102 [.osl e w,.fn (.func f) [] [.own d nm 0 0]] O (ii (zay p l 0)) [] O:=by
 generalize hR:zay p l 0 = R
 refine zad Tk Tryz.func102 rfl Tryz.call102 Tryz.ntmps102 (Nat.le_of_ble_eq_true rfl) fun E => ?_
 refine zae Tk Tryz.func102 ?_
 refine zbg Tk Tryz.func102 (zaI ho) ?_
 refine zac ?_
 refine zah (fun i:Nat => [(0,.osl (e + 1) w),(1,.fn (.func f) [] [.own (d + 1) nm 0 0]),(7,ii l.length),(8,ii i)]) (fun _ => []) (fun _ => O) 19
  (fun i => i ≤ l.length ∧ zay p (l.drop i) i = R) (fun i => l.length - i) 0 ⟨Nat.zero_le _,hR⟩ ⟨rfl,rfl,rfl,rfl,trivial⟩ rfl trivial rfl rfl ?_
 rintro i ⟨hi,hno⟩ ih
 clear hR
 refine zae Tk Tryz.func102 ?_
 refine zai Tk Tryz.func102 rfl (fun g1 => ?_) (fun g1 => ?_)
 ·have h1:i < l.length:=by simpa using g1
  have gs:(l.map esI)[(i:Int).toNat]? = some (esI l[i]):=zaj h1
  have hps:=hp l[i] (List.getElem_mem h1)
  have hd:l.drop i = l[i] :: l.drop (i + 1):=List.drop_eq_getElem_cons h1
  rw [hd] at hno
  simp only [zay] at hno
  clear hd
  generalize l[i] = s at *
  refine zbg Tk Tryz.func102 (zaI ho) ?_
  refine zag Tk Tryz.func102 (by exact ⟨by omega,by show (i:Int) < (l.length:Int); omega⟩) ?_
  refine zbg Tk Tryz.func102 (zaI ho) ?_
  refine zap Tk Tryz.func102 (gs) ?_
  refine zaf Tk Tryz.func102 (hps) rfl rfl rfl rfl rfl ?_
  refine zai Tk Tryz.func102 rfl (fun g2 => ?_) (fun g2 => ?_)
  ·rw [if_pos g2] at hno
   subst hno
   refine zal Tk (r:=ii (i:Int)) rfl rfl rfl trivial rfl rfl ?_
   rfl
  ·rw [if_neg (by rw [g2]; simp)] at hno
   refine zac ?_
   exact ih (i + 1) _ _ ⟨h1,hno⟩ (by omega) ⟨rfl,rfl,rfl,congrArg ii (zaB (n:=1000001) (by omega) (by decide)),trivial⟩ rfl trivial rfl rfl
 ·have h1:l.length ≤ i:=by simpa using g1
  rw [List.drop_eq_nil_of_le h1] at hno
  simp only [zay] at hno
  subst hno
  refine zal Tk (r:=ii (-1)) rfl rfl rfl trivial rfl rfl ?_
  rfl
theorem of95 (O:List Heap) (a:Aut) (x:Sys) (n B:Nat) (frm:List Fd) (da na dx nx:Nat) (h:gAut a n) (hn:n ≤ 12) (hB:B ≤ 500000) (hv:vdF a n frm) (hne:frm ≠ []) (hlen:∀ y ∈ frm,y.2.length ≤ B) (hob:x.ob.length ≤ 1000000)
  (hoA:zaa O da na = some (.box (autC a))) (hoX:zaa O dx nx = some (.box (sysC x))):zan Tryz.prog 95 [fdsD frm,.own da na 0 0,.own dx nx 0 0] O (esD (zbs ((rchF a x.ob frm).map (·.1)),rchF a x.ob frm)) [] O:=by
 have h1:=fun O => ztR O a n B frm x.ob hn hB h.sm.al h.sm.ed hob (hv.ok h) hlen hv.nd (hv.det h)
 have hq:=zfq (on:=x.ob) h hv
 have hpos:0 < (rchF a x.ob frm).length:=by
  obtain ⟨y,hy⟩:=List.exists_mem_of_ne_nil _ hne
  obtain ⟨z,hz,_⟩:=hq.low _ _ (RP.base hy)
  exact List.length_pos_of_mem hz
 have hfew:(rchF a x.ob frm).length ≤ n:=(RGd.few ⟨hq.snd,hq.nd,fun x hx => hq.low _ _ (RP.base hx)⟩ (hv.ok h))
 clear hq hv hne hlen h
 generalize rchF a x.ob frm = R at *
 obtain ⟨al,st,mk,es⟩:=a
 obtain ⟨xp,xs,ob,ct⟩:=x
 simp only at hob h1
 obtain ⟨al',st',mk',es'⟩:=xp
 obtain ⟨al2,st2,mk2,es2⟩:=xs
 refine zad Tk Tryz.func95 rfl Tryz.call95 Tryz.ntmps95 (Nat.le_of_ble_eq_true rfl) fun E => ?_
 refine zae Tk Tryz.func95 ?_
 refine zbg Tk Tryz.func95 (zaI hoA) ?_
 refine zbg Tk Tryz.func95 (zaI hoX) ?_
 refine zaf Tk Tryz.func95 (h1 _) rfl rfl rfl rfl rfl ?_
 refine zac ?_
 refine zao (zaO 5 26 3 1 (pre:=[]) (post:=[fdsD R]) rfl rfl rfl) ?_
 refine zah (fun i:Nat => [(4,.own 0 4 0 0),(5,.own 0 5 0 0),(15,fdsD R),(16,ii R.length),(17,ii i)]) (fun i => [(4,.box [.i (.v (.slice none 0 0)),.i (.v (.slice none 0 0))]),(5,.box [.osl 0 26,fdsD R]),(26,zaw ((R.take i).map (·.1)))]) (fun _ => O) 33
  (fun i => i ≤ R.length) (fun i => R.length - i) 0 (Nat.zero_le _) ⟨rfl,rfl,rfl,rfl,rfl,trivial⟩ rfl ⟨rfl,rfl,rfl,trivial⟩ rfl rfl ?_
 intro i hi ih
 refine zae Tk Tryz.func95 ?_
 refine zai Tk Tryz.func95 rfl (fun g1 => ?_) (fun g1 => ?_)
 ·have h3:i < R.length:=by simpa using g1
  clear g1
  have hi1:ii (IntKind.i64.wrap ((i:Int) + 1)) = ii ((i + 1:Nat):Int):=congrArg ii (zaB (n:=1000001) (by omega) (by decide))
  have gr:(R.map fdI)[(i:Int).toNat]? = some (fdI R[i]):=zaj h3
  have htk:(R.take (i + 1)).map (·.1) = (R.take i).map (·.1) ++ [R[i].1]:=zcl h3
  have hl:((R.take i).map (·.1)).length = i:=by simp; omega
  generalize R[i] = y at *
  generalize (R.take i).map (·.1) = acc at *
  refine zag Tk Tryz.func95 (by exact ⟨by omega,by show (i:Int) < (R.length:Int); omega⟩) ?_
  refine zap Tk Tryz.func95 (gr) ?_
  refine zag Tk Tryz.func95 (by exact ⟨by show (acc.length + 1) * 8 ≤ 140737488355328; omega,by show acc.length + 1 ≤ 9223372036854775807; omega⟩) ?_
  refine zac ?_
  refine ih (i + 1) _ _ h3 (by omega) ⟨rfl,rfl,rfl,rfl,hi1,trivial⟩ rfl ⟨rfl,rfl,?_,trivial⟩ rfl rfl
  rw [htk]
  exact congrArg some (zaL acc y.1)
 ·have h3:R.length ≤ i:=by simpa using g1
  rw [List.take_of_length_le h3]
  have hml:(R.map (·.1)).length = R.length:=by rw [List.length_map]
  generalize R.map (·.1) = S at *
  refine zaf Tk Tryz.func95 (zsK _ 0 26 S (by omega) (by omega) rfl) rfl rfl rfl (zbn (ob:=zaw S) rfl (by simp [Ob.sh,zfQ])) rfl ?_
  refine zcJ (zam 26 rfl rfl) ?_
  refine zal Tk (r:=esD (zbs S,R)) rfl rfl rfl trivial rfl rfl ?_
  rfl
end Go.AI
