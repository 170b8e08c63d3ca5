/- The layer of abstract runs, part 28. -/
import Derived.Test.YtlcekmemdnjjbaaGreatDoorAshZA
import Derived.Shelf.Slices.Reverse
import Derived.Shelf.Slices.Cells
import Derived.KernelRfl
import Derived.Test.YtlcekmemdnjjbaaGreatDoorTie
import Derived.Test.YtlcekmemdnjjbaaGreatDoorCards
import Derived.ProofKit
import Derived.LaidMore
import Derived.OpenShut
import Derived.Lay
import Derived.SevenTiedAt
import Derived.Stop.Joined
import Derived.Stop.LaidErr
import Derived.Lib.LaidTab
set_option linter.unusedSimpArgs false
set_option linter.unusedVariables false
set_option linter.all false

set_option maxHeartbeats 4000000
namespace Go.AI
open Go.Proofs
set_option maxRecDepth 20000
theorem gAut.ok {a:Aut} {n:Nat} (h:gAut a n):autOk a:=⟨h.sm.ed,h.sm.al,h.sm.mkd,h.c⟩
theorem zpr {es:List Edg} (hp:es.Pairwise ltE) (s ev:Int):zrV es s ev = stp3 es s ev:=by
 have hs:=zdM hp
 unfold zrV
 cases h:(outR es s).find? (fun x => x.2.1 == ev) with
 | none =>
  refine (zhO fun e he hc => ?_).symm
  have hm:=zrS hs he
  rw [hc.1] at hm
  have:=List.find?_eq_none.1 h e hm
  simp [hc.2] at this
 | some e =>
  have h1:=List.mem_of_find?_eq_some h
  have h2:=zlX hs e h1
  have h3:e.2.1 = ev:=by have:=List.find?_some h; simpa using this
  have:=zcP hp (zrR e h1)
  rw [h2,h3] at this
  exact this.symm
theorem zfs {α:Type} {p:α → Bool} {l:List α} (h:∀ x ∈ l,p x = false):l.filter p = []:=List.filter_eq_nil_iff.2 fun x hx => by rw [h x hx]; decide
theorem zj1 {es:List Edg} (hs:zdn es) (s:Int):outR es s = es.filter fun e => e.1 == s:=by
 have hm:=zjh hs (show s ≤ s + 1 by omega)
 have e1:es = es.take (lowE es (s + 1)) ++ es.drop (lowE es (s + 1)):=(List.take_append_drop _ _).symm
 have e2:es.take (lowE es (s + 1)) = (es.take (lowE es (s + 1))).take (lowE es s) ++ outR es s:=(List.take_append_drop _ _).symm
 rw [e2] at e1
 have h1:((es.take (lowE es (s + 1))).take (lowE es s)).filter (fun e => e.1 == s) = []:=zfs fun x hx => by
  rw [List.take_take,Nat.min_eq_left hm] at hx
  obtain ⟨j,hj,rfl⟩:=List.getElem_of_mem hx
  rw [List.length_take] at hj
  rw [List.getElem_take]
  have:=zgp (l:=es) (s:=s) (j:=j) (by omega) (by omega)
  simp; omega
 have h2:(es.drop (lowE es (s + 1))).filter (fun e => e.1 == s) = []:=zfs fun x hx => by
  obtain ⟨j,hj,rfl⟩:=List.getElem_of_mem hx
  rw [List.length_drop] at hj
  rw [List.getElem_drop]
  have:=zif hs (s:=s + 1) (j:=lowE es (s + 1) + j) (Nat.le_add_right _ _) (by omega)
  simp; omega
 have h3:(outR es s).filter (fun e => e.1 == s) = outR es s:=List.filter_eq_self.2 fun x hx => by have:=zlX hs x hx; simp [this]
 have:=congrArg (List.filter fun e => e.1 == s) e1
 rw [List.filter_append,List.filter_append,h1,h2,h3] at this
 simpa using this.symm
theorem zrT {a:Aut} {n:Nat} (h:gAut a n) (s:Int):(outR a.edges s).map (fun e => e.2.1) = evC a.edges s:=by
 rw [zj1 (zdM h.pw)]; rfl
abbrev stpT (a:Aut) (s ev:Int):D:=.tup [ii (if 0 ≤ stp3 a.edges s ev then stp3 a.edges s ev else 0),bb (decide (0 ≤ stp3 a.edges s ev)),ii (if ev ∈ a.alpha then 0 else 9)]
theorem zoJ (O:List Heap) (a:Aut) (n:Nat) (s ev:Int) (h:gAut a n) (hs:0 ≤ s ∧ s < (n:Int)):zan Tryz.prog 60 [autD a,ii s,ii ev] O (stpT a s ev) [] O:=by
 have hn:=(zaK h.c).2.1
 have hst:=h.st
 have h1:=fun O => zeU O a s h.ok (by omega)
 have h2:=fun O => zbc O a.alpha ev (by have:=h.sm.al; simp only [zas]; omega)
 have h3:=fun O => ztX O a s ev h.ok (by omega)
 rw [zpr h.pw] at h3
 have hev:ev ∉ a.alpha → stp3 a.edges s ev = -1:=fun hne => zhO fun e he hc => hne (hc.2 ▸ h.ev e he)
 unfold stpT
 generalize stp3 a.edges s ev = t at *
 clear h
 obtain ⟨al,st,mk,es⟩:=a
 simp only at *
 refine zad Tk Tryz.func60 rfl Tryz.call60 Tryz.ntmps60 (Nat.le_of_ble_eq_true rfl) fun E => ?_
 refine zae Tk Tryz.func60 ?_
 refine zaf Tk Tryz.func60 (h1 _) rfl rfl rfl rfl rfl ?_
 refine gcF Tk Tryz.func60 rfl ?_
 refine zaf Tk Tryz.func60 (h2 _) rfl rfl rfl rfl rfl ?_
 refine zai Tk Tryz.func60 rfl (fun c1 => ?_) (fun c1 => ?_)
 ·have c1:ev ∉ al:=of_decide_eq_false (notT c1)
  rw [hev c1,if_neg c1]
  refine zal Tk (r:=.tup [ii 0,bb false,ii 9]) rfl rfl rfl trivial rfl rfl ?_
  rfl
 have c1:ev ∈ al:=of_decide_eq_true (notF c1)
 rw [if_pos c1]
 refine zaf Tk Tryz.func60 (h3 _) rfl rfl rfl rfl rfl ?_
 refine zai Tk Tryz.func60 rfl (fun c2 => ?_) (fun c2 => ?_)
 ·have c2:0 ≤ t:=of_decide_eq_true c2
  rw [if_pos c2,decide_eq_true c2]
  refine zal Tk (r:=.tup [ii t,bb true,ii 0]) rfl rfl rfl trivial rfl rfl ?_
  rfl
 ·have c2:¬ 0 ≤ t:=of_decide_eq_false c2
  rw [if_neg c2,decide_eq_false c2]
  refine zal Tk (r:=.tup [ii 0,bb false,ii 0]) rfl rfl rfl trivial rfl rfl ?_
  rfl
theorem znR (O:List Heap) (a:Aut) (n:Nat) (s:Int) (h:gAut a n) (hs:0 ≤ s ∧ s < (n:Int)):zan Tryz.prog 157 [autD a,ii s] O (.tup [ints (evC a.edges s),ii 0]) [] O:=by
 have hn:=(zaK h.c).2.1
 have hst:=h.st
 have h1:=fun O => zeU O a s h.ok (by omega)
 have hfr:=h.fr
 have h2:=fun O => zsR O a s (by have:=h.sm.ed; simp only [zas]; omega) (zdM h.pw) (fun e he => by have:=hfr e he; omega) (by omega)
 have hrl:(outR a.edges s).length ≤ 1000000:=by rw [zdT]; have:=zel a.edges (s + 1); have:=h.sm.ed; omega
 rw [← zrT h s]
 generalize outR a.edges s = row at *
 clear h hfr
 obtain ⟨al,st,mk,es⟩:=a
 refine zat [10] Tk Tryz.func157 rfl Tryz.call157 Tryz.ntmps157 (Nat.le_of_ble_eq_true rfl) fun E => ?_
 refine zae Tk Tryz.func157 ?_
 refine zaf Tk Tryz.func157 (h1 _) rfl rfl rfl rfl rfl ?_
 refine gcF Tk Tryz.func157 rfl ?_
 refine zaf Tk Tryz.func157 (h2 _) rfl rfl rfl rfl rfl ?_
 refine zac ?_
 refine zao (zb4 7 28 3 1 rfl rfl rfl) ?_
 refine zah (fun i:Nat => [(7,.osl 0 28),(18,edgs row),(19,ii row.length),(20,ii i)]) (fun i => [(28,zaw ((row.take i).map fun e => e.2.1))]) (fun _ => O) 31
  (fun i => i ≤ row.length) (fun i => row.length - i) 0 (Nat.zero_le _) ⟨rfl,rfl,rfl,rfl,trivial⟩ rfl ⟨rfl,trivial⟩ rfl rfl ?_
 rintro i hi ih
 refine zae Tk Tryz.func157 ?_
 refine zai Tk Tryz.func157 rfl (fun g1 => ?_) (fun g1 => ?_)
 ·have h3:i < row.length:=by simpa using g1
  have ge:(row.map edgI)[(i:Int).toNat]? = some (edgI row[i]):=zaj h3
  have htk:=zcl (f:=fun e:Edg => e.2.1) h3
  have hl:((row.take i).map fun e => e.2.1).length ≤ 1000000:=by rw [List.length_map,List.length_take]; omega
  generalize row[i] = e at *
  obtain ⟨e1,e2,e3⟩:=e
  generalize (row.take i).map (fun e => e.2.1) = L at *
  refine zag Tk Tryz.func157 (by exact ⟨by omega,by show (i:Int) < (row.length:Int); omega⟩) ?_
  refine zap Tk Tryz.func157 (ge) ?_
  refine zag Tk Tryz.func157 (by exact ⟨by show (L.length + 1) * 8 ≤ 140737488355328; omega,by show L.length + 1 ≤ 9223372036854775807; omega⟩) ?_
  refine zac ?_
  refine ih (i + 1) _ _ h3 (by omega) ⟨rfl,rfl,rfl,congrArg ii (zaB (n:=1000001) (by omega) (by decide)),trivial⟩ rfl ⟨?_,trivial⟩ rfl rfl
  rw [htk]
  exact congrArg some (zaL L e2)
 ·have h3:row.length ≤ i:=by simpa using g1
  rw [List.take_of_length_le h3]
  refine zax ?_
  refine zao (zam 28 rfl rfl) ?_
  refine zae Tk Tryz.func157 ?_
  refine g_go Tk Tryz.func157 ?_
  refine zal Tk (r:=.tup [ints (row.map fun e => e.2.1),ii 0]) rfl rfl rfl trivial rfl rfl ?_
  rfl
structure stOk (x:Sys) (a:Aut) (ps:List (Int × Int)):Prop where
 hx:gSys x
 sm:smallS x
 ga:gAut a ps.length
 pin:∀ z ∈ ps,0 ≤ z.1 ∧ z.1 < x.p.states
 len:ps.length ≤ 4095
abbrev ze3 (a:Aut) (st ev:Int):Bool:=decide (0 ≤ stp3 a.edges st ev)
abbrev canF (x:Sys) (ps:List (Int × Int)) (st ev:Int):Bool:=decide (0 ≤ stp3 x.p.edges ((ps.getD st.toNat (0,0)).1) ev)
abbrev refF (x:Sys) (a:Aut) (ps:List (Int × Int)) (st ev:Int):Bool:=canF x ps st ev && !ze3 a st ev
theorem zi5 (O:List Heap) (x:Sys) (a:Aut) (ps:List (Int × Int)) (o:Aut) (es:List (List Int)) (h:stOk x a ps) (st ev:Int) (hs:0 ≤ st ∧ st < (ps.length:Int)):zan Tryz.prog 65 [zbI x a ps o es,ii st,ii ev] O (bb (ze3 a st ev)) [] O:=by
 have h1:=fun O => zoJ O a _ st ev h.ga hs
 unfold stpT at h1
 unfold ze3
 generalize stp3 a.edges st ev = t at *
 clear h
 obtain ⟨al,n,mk,eds⟩:=a
 refine zad Tk Tryz.func65 rfl Tryz.call65 Tryz.ntmps65 (Nat.le_of_ble_eq_true rfl) fun E => ?_
 refine zae Tk Tryz.func65 ?_
 refine zap Tk Tryz.func65 (rfl) ?_
 refine zaf Tk Tryz.func65 (h1 _) rfl rfl rfl rfl rfl ?_
 refine zal Tk (r:=bb (decide (0 ≤ t))) rfl rfl rfl trivial rfl rfl ?_
 rfl
theorem zo7 (O:List Heap) (x:Sys) (a:Aut) (ps:List (Int × Int)) (o:Aut) (es:List (List Int)) (h:stOk x a ps) (st ev:Int) (hs:0 ≤ st ∧ st < (ps.length:Int)):zan Tryz.prog 66 [zbI x a ps o es,ii st,ii ev] O (bb (refF x a ps st ev)) [] O:=by
 have h1:=fun O => zi5 O x a ps o es h st ev hs
 obtain ⟨k,rfl⟩:∃ k:Nat,st = k:=⟨st.toNat,by omega⟩
 have hk:k < ps.length:=by omega
 have hg:ps.getD (k:Int).toNat (0,0) = ps[k]:=by rw [Int.toNat_natCast,List.getD_eq_getElem?_getD,List.getElem?_eq_getElem hk]; rfl
 unfold refF canF
 rw [hg]
 have gp:(ps.map prI)[(k:Int).toNat]? = some (prI ps[k]):=zaj hk
 have hz:=h.pin _ (List.getElem_mem hk)
 generalize ps[k] = z at *
 obtain ⟨z1,z2⟩:=z
 simp only at hz
 have hgp:gAut x.p x.p.states.toNat:=⟨by have:=(zaK h.hx.p).2.1; omega,h.sm.p,h.hx.p⟩
 have h2:=fun O => zoJ O x.p _ z1 ev hgp (by omega)
 unfold stpT at h2
 simp only
 generalize stp3 x.p.edges z1 ev = t at *
 generalize ze3 a k ev = b at *
 clear h hgp hz
 obtain ⟨⟨al,st,mk,eds⟩,⟨al',st',mk',es'⟩,ob,ct⟩:=x
 refine zad Tk Tryz.func66 rfl Tryz.call66 Tryz.ntmps66 (Nat.le_of_ble_eq_true rfl) fun E => ?_
 refine zae Tk Tryz.func66 ?_
 refine zaD Tk Tryz.func66 zaN rfl ?_
 refine zaJ Tk (rfl) ?_
 refine zaJ Tk (rfl) ?_
 refine zaz Tk (by exact ⟨by omega,by show (k:Int) < (ps.length:Int); omega⟩) ?_
 refine zaz Tk (by exact ⟨by decide,by decide⟩) ?_
 refine zaJ Tk (gp) ?_
 refine za2 Tk (fun _ => h2 _) rfl rfl rfl ?_
 refine zaS Tk Tryz.func66 (by kernel_rfl) ?_
 refine zaW Tk Tryz.func66 rfl (fun c1 => ?_) (fun c1 => ?_)
 ·rw [c1,Bool.true_and]
  refine zaf Tk Tryz.func66 (h1 _) rfl rfl rfl rfl rfl ?_
  refine zal Tk (r:=bb (!b)) rfl rfl rfl trivial rfl rfl ?_
  rfl
 ·rw [c1,Bool.false_and]
  refine zal Tk (r:=bb false) rfl rfl rfl trivial rfl rfl ?_
  rfl
theorem zeO (f:Int → Bool) (l:List Int) (x:Int):(l ++ [x]).filter f = l.filter f ++ if f x = true then [x] else []:=by
 rw [List.filter_append]
 congr 1
 by_cases h:f x = true <;> simp [h]
theorem zmg (O:List Heap) (x:Sys) (a:Aut) (ps:List (Int × Int)) (o:Aut) (es:List (List Int)) (h:stOk x a ps) (est:List Int) (ev:Int) (hs:∀ s ∈ est,0 ≤ s ∧ s < (ps.length:Int)) (hl:est.length ≤ 1000000) :
  zan Tryz.prog 57 [zbI x a ps o es,ints est,ii ev] O (.tup [ints (est.filter fun s => ze3 a s ev),ints (est.filter fun s => refF x a ps s ev)]) [] O:=by
 obtain ⟨pf,hpf⟩:∃ pf:Int → Bool,pf = fun s => ze3 a s ev:=⟨_,rfl⟩
 obtain ⟨rf,hrf⟩:∃ rf:Int → Bool,rf = fun s => refF x a ps s ev:=⟨_,rfl⟩
 have h1:∀ O s,0 ≤ s ∧ s < (ps.length:Int) → zan Tryz.prog 65 [zbI x a ps o es,ii s,ii ev] O (bb (pf s)) [] O:=fun O s hs => by rw [hpf]; exact zi5 O x a ps o es h s ev hs
 have h2:∀ O s,0 ≤ s ∧ s < (ps.length:Int) → zan Tryz.prog 66 [zbI x a ps o es,ii s,ii ev] O (bb (rf s)) [] O:=fun O s hs => by rw [hrf]; exact zo7 O x a ps o es h s ev hs
 have hex:∀ s,pf s = true → rf s = false:=fun s hp => by
  rw [hpf] at hp
  rw [hrf]
  show (canF x ps s ev && !ze3 a s ev) = false
  rw [show ze3 a s ev = true from hp]; simp
 rw [← hpf,← hrf]
 clear hpf hrf h
 refine zat [9] Tk Tryz.func57 rfl Tryz.call57 Tryz.ntmps57 (Nat.le_of_ble_eq_true rfl) fun E => ?_
 refine zae Tk Tryz.func57 ?_
 refine zac ?_
 refine zao (zb4 6 24 3 1 rfl rfl rfl) ?_
 refine zao (zb4 7 33 3 1 rfl rfl rfl) ?_
 refine zah (fun i:Nat => [(0,zbI x a ps o es),(2,ii ev),(6,.osl 0 24),(7,.osl 0 33),(10,ints est),(11,ii est.length),(12,ii i)]) (fun i => [(24,zaw ((est.take i).filter pf)),(33,zaw ((est.take i).filter rf))]) (fun _ => O) 37
  (fun i => i ≤ est.length) (fun i => est.length - i) 0 (Nat.zero_le _) ⟨rfl,rfl,rfl,rfl,rfl,rfl,rfl,trivial⟩ rfl ⟨rfl,rfl,trivial⟩ rfl rfl ?_
 rintro i hi ih
 have hj1:ii (IntKind.i64.wrap ((i:Int) + 1)) = ii ((i + 1:Nat):Int):=congrArg ii (zaB (n:=1000001) (by omega) (by decide))
 refine zae Tk Tryz.func57 ?_
 refine zai Tk Tryz.func57 rfl (fun g1 => ?_) (fun g1 => ?_)
 ·have h3:i < est.length:=by simpa using g1
  have ge:(est.map fun x => [vi x])[(i:Int).toNat]? = some [vi est[i]]:=zaj (f:=fun x => [vi x]) h3
  have htk:est.take (i + 1) = est.take i ++ [est[i]]:=List.take_succ_eq_append_getElem h3
  have hsr:=hs _ (List.getElem_mem h3)
  have hA:=zeO pf (est.take i) est[i]
  have hB:=zeO rf (est.take i) est[i]
  rw [← htk] at hA hB
  have lA:((est.take i).filter pf).length ≤ 1000000:=Nat.le_trans (List.length_filter_le _ _) (by rw [List.length_take]; omega)
  have lB:((est.take i).filter rf).length ≤ 1000000:=Nat.le_trans (List.length_filter_le _ _) (by rw [List.length_take]; omega)
  generalize est[i] = s at *
  clear htk
  generalize (est.take i).filter pf = A at *
  generalize (est.take i).filter rf = B at *
  refine zag Tk Tryz.func57 (by exact ⟨by omega,by show (i:Int) < (est.length:Int); omega⟩) ?_
  refine zap Tk Tryz.func57 (ge) ?_
  refine zaf Tk Tryz.func57 (h1 _ s hsr) rfl rfl rfl rfl rfl ?_
  refine zai Tk Tryz.func57 rfl (fun c1 => ?_) (fun c1 => ?_)
  ·have c1:pf s = true:=c1
   rw [if_pos c1] at hA
   rw [if_neg (by rw [hex s c1]; decide),List.append_nil] at hB
   refine zag Tk Tryz.func57 (by exact ⟨by show (A.length + 1) * 8 ≤ 140737488355328; omega,by show A.length + 1 ≤ 9223372036854775807; omega⟩) ?_
   refine zac ?_
   exact ih (i + 1) _ _ h3 (by omega) ⟨rfl,rfl,rfl,rfl,rfl,rfl,hj1,trivial⟩ rfl ⟨by rw [hA]; exact congrArg some (zaL A s),by rw [hB]; rfl,trivial⟩ rfl rfl
  ·have c1:pf s = false:=c1
   rw [if_neg (by rw [c1]; decide),List.append_nil] at hA
   refine zaf Tk Tryz.func57 (h2 _ s hsr) rfl rfl rfl rfl rfl ?_
   refine zai Tk Tryz.func57 rfl (fun c2 => ?_) (fun c2 => ?_)
   ·have c2:rf s = true:=c2
    rw [if_pos c2] at hB
    refine zag Tk Tryz.func57 (by exact ⟨by show (B.length + 1) * 8 ≤ 140737488355328; omega,by show B.length + 1 ≤ 9223372036854775807; omega⟩) ?_
    refine zac ?_
    exact ih (i + 1) _ _ h3 (by omega) ⟨rfl,rfl,rfl,rfl,rfl,rfl,hj1,trivial⟩ rfl ⟨by rw [hA]; rfl,by rw [hB]; exact congrArg some (zaL B s),trivial⟩ rfl rfl
   ·have c2:rf s = false:=c2
    rw [if_neg (by rw [c2]; decide),List.append_nil] at hB
    refine zac ?_
    exact ih (i + 1) _ _ h3 (by omega) ⟨rfl,rfl,rfl,rfl,rfl,rfl,hj1,trivial⟩ rfl ⟨by rw [hA]; rfl,by rw [hB]; rfl,trivial⟩ rfl rfl
 ·have h3:est.length ≤ i:=by simpa using g1
  rw [List.take_of_length_le h3]
  refine zax ?_
  refine zao (zam 24 rfl rfl) ?_
  refine zao (zam 33 rfl rfl) ?_
  refine zae Tk Tryz.func57 ?_
  refine g_go Tk Tryz.func57 ?_
  refine zal Tk (r:=.tup [ints (est.filter pf),ints (est.filter rf)]) rfl rfl rfl trivial rfl rfl ?_
  rfl
end Go.AI


namespace Go.Proofs
open Go.Shelf
def Tryz.lays112_ren:Go.Shelf.Ren:=⟨fun | 112 => 194 | n => n,fun | 28 => 31 | 3 => 3 | 4 => 4 | 0 => 0 | n => n,fun | n => n⟩
theorem Tryz.lays112:Go.Proofs.Lays.n112 Tryz.prog Tryz.lays112_ren:={
 mixed:=by kernel_rfl
 f112:=Tryz.func194.trans (congrArg some (by kernel_rfl))
 t0:=Tryz.underlying0
 a0:=Tryz.isAgg0
 z0:=Tryz.sizeOf0
 v0:=Tryz.zeroValue0
 t3:=Tryz.underlying3
 a3:=Tryz.isAgg3
 z3:=Tryz.sizeOf3
 v3:=Tryz.zeroValue3
 t4:=Tryz.underlying4
 a4:=Tryz.isAgg4
 z4:=Tryz.sizeOf4
 v4:=Tryz.zeroValue4
 t28:=Tryz.underlying31
 a28:=Tryz.isAgg31
 z28:=Tryz.sizeOf31
 v28:=Tryz.zeroValue31 }
open Go.RowKit Go.Lib Go.Sort in
theorem Tryz.slices_Reverse_int_cells (b off n c:Nat) (zs:List Int) (w:World) (hz:n ≤ zs.length) (hbig:n ≤ 9223372036854775807) (hc:∀ j,j < zs.length → w.cell? ⟨b,off + j,none⟩ = some (.int .i64 (zs.getD j 0))) (hf:∀ j,j < n → w.frozen? ⟨b,off + j,none⟩ = false) :
  Calls Tryz.prog 194 #[.slice (some ⟨b,off,none⟩) n c] w fun e w' => e = .returned (.tuple #[]) ∧ ∃ q,w' = (w.drewN q).setCells b off ((zs.take n).reverse.map (Value.int .i64)):=Any.slices_Reverse_int_cells Tryz.lays112 b off n c zs w hz hbig hc hf
end Go.Proofs


namespace Go.AI
open Go.Proofs
theorem zo5 (O:List Heap) (d nm:Nat) (l:List Int) (hl:l.length ≤ zas) (ho:zaa O d nm = some (zaw l)):zan Tryz.prog 194 [.osl d nm] O (.tup []) [] (setAt O d nm (zaw l.reverse)):=by
 intro E K ρ w vs hw hrep
 obtain rfl:vs = [.slice (ρ d nm).base l.length (ρ d nm).cap]:=by
  cases hrep with
  | cons r rs =>
   cases rs
   rw [zcg (es:=1) (len:=l.length) r (by simp [shape,ho,Ob.sh])]
 have hown:=hw.own _ _ _ ho
 obtain ⟨ρ1,hρ1,hI⟩:=zcu hw
 have ho1:zaa (([]:Heap) :: O) (d + 1) nm = some (zaw l):=zaI ho
 have hown1:=zcX (s:={ σ:=[],S:=[] :: O,n:=0 }) hI ho1
 have hfin:∀ w',HInv (.of K ρ w) K ρ1 (setAt ([] :: O) (d + 1) nm (zaw l.reverse)) w' → ∃ K' ρ',HInv (.of K ρ w) K' ρ' ([] :: setAt O d nm (zaw l.reverse)) w' ∧ RepD K' ρ' (shape ([] :: setAt O d nm (zaw l.reverse))) (.tuple #[]) (.tup []):=
  fun w' h => ⟨K,ρ1,h,.tup .nil⟩
 refine .inl ⟨Tryz.call194 _ _,?_⟩
 obtain ⟨h1,h2,h3,h4,h5⟩:=hown1
 have hloc:ρ1 (d + 1) nm = ρ d nm:=by rw [hρ1]
 rw [hloc] at h3 h4 h5
 rcases h5 with ⟨h5,h6⟩ | ⟨h5,c,h6,h7,h8,h9,h10,h11⟩
 ·have hl0:l = []:=by
   apply List.eq_nil_of_length_eq_zero
   omega
  subst hl0
  rw [h6,h5]
  refine (Any.slices_Reverse_int_empty Tryz.lays112 none 0 w).mono ?_
  rintro e w' ⟨rfl,rfl⟩
  refine ⟨_,rfl,hfin _ (hI.sameS ?_)⟩
  exact zdu ho1
 ·have hcl:c.toList.take l.length = l.map (Value.int .i64):=by
   rw [Nat.mul_one] at h8
   exact zf3 h8
  have hsz:l.length ≤ c.size:=by rw [h7,Nat.mul_one]; exact h3
  rw [h5]
  refine (Tryz.slices_Reverse_int_cells (ρ d nm).block 0 l.length (ρ d nm).cap l w (Nat.le_refl _) hl (fun j hj => ?_) (fun j hj => ?_)).mono ?_
  ·rw [Nat.zero_add,cell_of_heap h6]
   have:(c.toList.take l.length)[j]? = some (.int .i64 (l.getD j 0)):=by
    rw [hcl,List.getElem?_map,List.getElem?_eq_getElem hj,List.getD_eq_getElem?_getD,List.getElem?_eq_getElem hj]
    rfl
   rw [List.getElem?_take] at this
   rw [if_pos hj] at this
   simpa using this
  ·simp [World.frozen?,h6]
  ·rintro e w' ⟨rfl,q,rfl⟩
   rw [List.take_length]
   have hh:(w.drewN q).heap[(ρ d nm).block]? = some (.cells c 3 (0,0)):=h6
   obtain ⟨a1,a2,a3,a4,a5,a6⟩:=zc7 (l.reverse.map (Value.int .i64)) 0 (w.drewN q) c 3 (0,0) hh
   refine ⟨_,rfl,hfin _ ?_⟩
   have hbk:zaq (ρ1 (d + 1) nm) (zaw l):=by rw [hloc]; show _ ≠ none; rw [h5]; simp
   refine hI.put ho1 (by simp [Ob.sh]) hbk (by rw [hloc]; show _ ≠ none; rw [h5]; simp) a3 (fun b hb => a2 b (by rw [← hloc]; exact hb)) ⟨a4,a5,a6⟩ (fun o x hx => ?_) ?_
   ·rw [hloc] at hx ⊢
    rw [h9 rfl] at hx; cases hx
   ·rw [hloc]
    refine ⟨by simp,by simp,by simpa using h3,h4,.inr ⟨h5,_,a1,by rw [zga,h7],?_,fun _ => h9 rfl,fun o ho => by rw [h9 rfl o],fun h => by cases h⟩⟩
    have e:(over c 0 (l.reverse.map (Value.int .i64))).toList.take (l.reverse.length * 1) = l.reverse.map (Value.int .i64):=by
     apply List.ext_getElem?
     intro j
     rw [List.getElem?_take,Nat.mul_one]
     by_cases hj:j < l.reverse.length
     ·rw [if_pos hj]
      have:=zh4 (l.reverse.map (Value.int .i64)) c 0 j (by simpa using hsz)
      rw [if_pos (by simpa using hj)] at this
      simpa using this
     ·rw [if_neg hj]
      simp at hj
      simp [hj]
    rw [e]
    exact zgv _
end Go.AI


namespace Go.AI
open Go.Proofs
set_option maxRecDepth 20000
abbrev Vis:=Int × Int × Int × Int
abbrev visI (v:Vis):List I:=[vi v.1,vi v.2.1,vi v.2.2.1,vi v.2.2.2]
abbrev zuM (l:List Vis):I:=.sl 4 l.length (l.map visI)
abbrev ovis (l:List Vis):Ob:=.arr 244 4 l.length (l.map visI) true
theorem zlV (l:List Vis) (v:Vis):Ob.arr 244 4 (l.length + 1) (l.map visI ++ [visI v]) true = ovis (l ++ [v]):=by simp
structure VOk {S:Type} (pr:Vis → S) (vl:List Vis) (wl:List (S × List Int)):Prop where
 len:vl.length = wl.length
 el:∀ (j:Nat) v,vl[j]? = some v → ∃ w,wl[j]? = some (pr v,w) ∧ ((v.2.2.1 < 0 ∧ w = []) ∨ ∃ k:Nat,v.2.2.1 = (k:Int) ∧ k < j ∧ ∃ z,wl[k]? = some z ∧ w = z.2 ++ [v.2.2.2])
theorem zqH {S:Type} (pr:Vis → S) (v:Vis) (h:v.2.2.1 < 0):VOk pr [v] [(pr v,[])]:=
 ⟨rfl,fun j w hj => by
  cases j with
  | zero => simp at hj; subst hj; exact ⟨[],rfl,.inl ⟨h,rfl⟩⟩
  | succ j => simp at hj⟩
theorem zqI {S:Type} {pr:Vis → S} {vl:List Vis} {wl:List (S × List Int)} (h:VOk pr vl wl) {k:Nat} {z:S × List Int} (hk:wl[k]? = some z) {v:Vis} (hv:v.2.2.1 = (k:Int)):VOk pr (vl ++ [v]) (wl ++ [(pr v,z.2 ++ [v.2.2.2])]):=by
 have hl:=h.len
 have hkl:=(List.getElem?_eq_some_iff.1 hk).1
 refine ⟨by simp [hl],fun j u hj => ?_⟩
 by_cases hjl:j < vl.length
 ·rw [List.getElem?_append_left hjl] at hj
  obtain ⟨w,h1,h2⟩:=h.el j u hj
  refine ⟨w,by rw [List.getElem?_append_left (by omega)]; exact h1,?_⟩
  rcases h2 with h2 | ⟨k',a1,a2,z',a3,a4⟩
  ·exact .inl h2
  ·have:=(List.getElem?_eq_some_iff.1 a3).1
   exact .inr ⟨k',a1,a2,z',by rw [List.getElem?_append_left (by omega)]; exact a3,a4⟩
 ·have hj2:j = vl.length:=by
   have:=(List.getElem?_eq_some_iff.1 hj).1
   simp at this; omega
  subst hj2
  simp at hj
  subst hj
  refine ⟨_,by rw [List.getElem?_append_right (by omega),hl,Nat.sub_self]; rfl,.inr ⟨k,hv,by omega,z,by rw [List.getElem?_append_left hkl]; exact hk,rfl⟩⟩
theorem zon {S:Type} {pr:Vis → S} (O:List Heap) (vl:List Vis) (wl:List (S × List Int)) (h:VOk pr vl wl) (hl:vl.length ≤ 1000000) (i:Nat) (z:S × List Int) (hz:wl[i]? = some z) :
  zan Tryz.prog 156 [.i (zuM vl),ii i] O (ints z.2) [] O:=by
 obtain ⟨R,hR⟩:∃ R,R = z.2:=⟨_,rfl⟩
 rw [← hR]
 have hno:R = z.2 ++ ([]:List Int).reverse:=by simpa using hR
 clear hR
 refine zat [5,6] Tk Tryz.func156 rfl Tryz.call156 Tryz.ntmps156 (Nat.le_of_ble_eq_true rfl) fun E => ?_
 refine zae Tk Tryz.func156 ?_
 refine zac ?_
 refine zao (zb4 5 24 3 1 rfl rfl rfl) ?_
 refine zah (fun x:Nat × List Int => [(0,.i (zuM vl)),(1,ii x.1),(5,.osl 0 24)]) (fun x => [(24,zaw x.2)]) (fun _ => O) 28
  (fun x => x.2.length + x.1 ≤ 1000000 ∧ ∃ z,wl[x.1]? = some z ∧ R = z.2 ++ x.2.reverse) (fun x => x.1) (i,[])
  ⟨by have:=(List.getElem?_eq_some_iff.1 hz).1; have:=h.len; simp only [List.length_nil]; omega,z,hz,hno⟩ ⟨rfl,rfl,rfl,trivial⟩ rfl ⟨rfl,trivial⟩ rfl rfl ?_
 clear hno hz
 rintro ⟨i,out⟩ ⟨hb,z,hz,hno⟩ ih
 simp only at hb hz hno
 have hi:i < vl.length:=by rw [h.len]; exact (List.getElem?_eq_some_iff.1 hz).1
 have gv:(vl.map visI)[(i:Int).toNat]? = some (visI vl[i]):=zaj hi
 obtain ⟨w,hw,hc⟩:=h.el i _ (List.getElem?_eq_getElem hi)
 rw [hz] at hw
 obtain rfl:=Option.some.inj hw
 generalize vl[i] = v at *
 obtain ⟨v1,v2,v3,v4⟩:=v
 simp only at hc hno
 refine zae Tk Tryz.func156 ?_
 refine zag Tk Tryz.func156 (by exact ⟨by omega,by show (i:Int) < (vl.length:Int); omega⟩) ?_
 refine zap Tk Tryz.func156 (gv) ?_
 refine zai Tk Tryz.func156 rfl (fun g1 => ?_) (fun g1 => ?_)
 ·have g1:v3 ≥ 0:=of_decide_eq_true g1
  rcases hc with hc | ⟨k,hk,hki,z',hz',hww⟩
  ·omega
  subst hk
  refine zag Tk Tryz.func156 (by exact ⟨by omega,by show (i:Int) < (vl.length:Int); omega⟩) ?_
  refine zap Tk Tryz.func156 (gv) ?_
  refine zag Tk Tryz.func156 (by exact ⟨by show (out.length + 1) * 8 ≤ 140737488355328; omega,by show out.length + 1 ≤ 9223372036854775807; omega⟩) ?_
  refine zag Tk Tryz.func156 (by exact ⟨by omega,by show (i:Int) < (vl.length:Int); omega⟩) ?_
  refine zap Tk Tryz.func156 (gv) ?_
  refine zac ?_
  refine ih (k,out ++ [v4]) _ _ ⟨by simp only [List.length_append,List.length_singleton]; omega,z',hz',?_⟩ (by simp only; omega) ⟨rfl,rfl,rfl,trivial⟩ rfl ⟨congrArg some (zaL out v4),trivial⟩ rfl rfl
  rw [hno,hww]
  simp
 ·have g1:¬ v3 ≥ 0:=of_decide_eq_false g1
  rcases hc with ⟨_,hc⟩ | ⟨k,hk,_⟩
  rotate_left
  ·omega
  rw [hc,List.nil_append] at hno
  subst hno
  refine zax ?_
  refine zae Tk Tryz.func156 ?_
  refine g_go Tk Tryz.func156 ?_
  refine zaf Tk Tryz.func156 (zo5 _ 0 24 out (by simp only [zas]; omega) rfl) rfl rfl rfl (zbn (ob:=zaw out) rfl (by simp [Ob.sh])) rfl ?_
  refine zax ?_
  refine zao (zam 24 rfl rfl) ?_
  refine zae Tk Tryz.func156 ?_
  refine g_go Tk Tryz.func156 ?_
  refine zal Tk (r:=ints out.reverse) rfl rfl rfl trivial rfl rfl ?_
  rfl
set_option maxHeartbeats 8000000 in
theorem zg3 (O:List Heap) (x:Sys) (a:Aut) (ps:List (Int × Int)) (o:Aut) (es:List (List Int)) (n:Nat) (ho:gAut o n) (hn:n ≤ 4095) (hn0:0 < n) (st:Int) (z:Int × List Int)
  (hz:bsr (stp3 o.edges) (fun _ => true) (evC o.edges) (fun s => decide (s = st)) 4096 0 [((0:Int),([]:List Int))] = some z) :
  zan Tryz.prog 107 [zbI x a ps o es,ii st] O (ints z.2) [] O:=by
 have hto:=ho.to
 have hpw:=ho.pw
 have hed:=ho.sm.ed
 have hVl:=zgw n
 have hV0:(0:Int) ∈ zil n:=zdw.2 (by omega)
 have hB0:bOk (zil n) [((0:Int),([]:List Int))]:=zkJ hV0
 have hk0:zj6 (mset [] (.int .i64 0) true) ([((0:Int),([]:List Int))].map (·.1)):=zjg (l:=[]) zpx 0
 have hv0:VOk (fun v:Vis => v.1) [((0,0,-1,0):Vis)] [((0:Int),([]:List Int))]:=zqH _ (0,0,-1,0) (by decide)
 clear ho
 obtain ⟨oal,ost,omk,oes⟩:=o
 simp only at hto hpw hed hz
 have hwd:=fun O vl wl h hl i y hy => zon (S:=Int) (pr:=fun v:Vis => v.1) O vl wl h hl i y hy
 refine zat [5,100011] Tk Tryz.func107 rfl Tryz.call107 Tryz.ntmps107 (Nat.le_of_ble_eq_true rfl) fun E => ?_
 refine zae Tk Tryz.func107 ?_
 refine zac ?_
 refine zao (zcT 11 62 rfl rfl rfl) ?_
 refine zah (fun y:Nat × Nat × List (Value × Bool) × List Vis × List (Int × List Int) => [(0,zbI x a ps ⟨oal,ost,omk,oes⟩ es),(1,ii st),(5,.osl 0 62),(6,.osl 0 12),(7,ii y.1)])
  (fun y => [(62,ovis y.2.2.2.1),(12,.mp (.int .i64) (.b y.2.2.1))]) (fun _ => O) 64
  (fun y => y.1 ≤ y.2.2.2.2.length ∧ bOk (zil n) y.2.2.2.2 ∧ zj6 y.2.2.1 (y.2.2.2.2.map (·.1)) ∧ VOk (fun v:Vis => v.1) y.2.2.2.1 y.2.2.2.2 ∧ y.2.1 + y.1 = 4096 ∧ bsr (stp3 oes) (fun _ => true) (evC oes) (fun s => decide (s = st)) y.2.1 y.1 y.2.2.2.2 = some z) (fun y => y.2.1) (0,4096,mset [] (.int .i64 0) true,[(0,0,-1,0)],[(0,[])])
  ⟨Nat.zero_le _,hB0,hk0,hv0,rfl,hz⟩ ⟨rfl,rfl,rfl,rfl,rfl,trivial⟩ rfl ⟨rfl,rfl,trivial⟩ rfl rfl ?_
 clear hB0 hk0 hz hV0 hv0
 rintro ⟨i,fu,km,vl,wl⟩ ⟨hi,hb,hk,hv,hf,hno⟩ ih
 simp only at hi hb hk hv hf hno
 have hll:=zeu hb
 have hvl:=hv.len
 have h1:i < wl.length:=by
  rcases Nat.lt_or_ge i wl.length with h | h
  ·exact h
  ·rw [zmo h] at hno; cases hno
 obtain ⟨fu,rfl⟩:∃ f',fu = f' + 1:=⟨fu - 1,by omega⟩
 have hgi:wl[i]? = some wl[i]:=List.getElem?_eq_getElem h1
 have hvi:vl[i]? = some vl[i]:=List.getElem?_eq_getElem (by omega)
 have gl:(vl.map visI)[(i:Int).toNat]? = some (visI vl[i]):=zaj (by omega)
 have hzV:=zdw.1 (hb.el _ (List.getElem_mem h1))
 simp only [bsr,hgi] at hno
 obtain ⟨ww,hw1,_⟩:=hv.el i _ hvi
 generalize vl[i] = v at *
 generalize wl[i] = w at *
 rw [hgi] at hw1
 obtain rfl:=Option.some.inj hw1
 obtain ⟨v1,v2,v3,v4⟩:=v
 simp only at hno hzV hgi
 refine zae Tk Tryz.func107 ?_
 refine zag Tk Tryz.func107 (by exact ⟨by omega,by show (i:Int) < (vl.length:Int); omega⟩) ?_
 refine zap Tk Tryz.func107 (gl) ?_
 refine zai Tk Tryz.func107 rfl (fun c0 => ?_) (fun c0 => ?_)
 ·have c0:v1 = st:=beqT c0
  rw [if_pos (decide_eq_true c0)] at hno
  obtain rfl:=Option.some.inj hno
  refine zax ?_
  refine zao (zam 62 rfl rfl) ?_
  refine zae Tk Tryz.func107 ?_
  refine g_go Tk Tryz.func107 ?_
  refine zaf Tk Tryz.func107 (hwd _ vl wl hv (by omega) i _ hgi) rfl rfl rfl rfl rfl ?_
  refine zal Tk (r:=ints ww) rfl rfl rfl trivial rfl rfl ?_
  rfl
 have c0:¬ v1 = st:=beqF c0
 rw [if_neg (by simpa using c0)] at hno
 have hno:bsr (stp3 oes) (fun _ => true) (evC oes) (fun s => decide (s = st)) fu (i + 1) (bvis (stp3 oes) (fun _ => true) (v1,ww) (((oes.drop 0).filter fun e => e.1 == v1).map fun e => e.2.1) wl) = some z:=hno
 refine zap Tk Tryz.func107 (rfl) ?_
 refine zac ?_
 refine zah (fun y:Nat × List (Value × Bool) × List Vis × List (Int × List Int) => [(0,zbI x a ps ⟨oal,ost,omk,oes⟩ es),(1,ii st),(5,.osl 0 62),(6,.osl 0 12),(7,ii i),(30,edgs oes),(31,ii oes.length),(32,ii y.1)])
  (fun y => [(62,ovis y.2.2.1),(12,.mp (.int .i64) (.b y.2.1))]) (fun _ => O) 64
  (fun y => y.1 ≤ oes.length ∧ bOk (zil n) y.2.2.2 ∧ zj6 y.2.1 (y.2.2.2.map (·.1)) ∧ VOk (fun v:Vis => v.1) y.2.2.1 y.2.2.2 ∧ y.2.2.1[i]? = some (v1,v2,v3,v4) ∧ y.2.2.2[i]? = some (v1,ww) ∧ bsr (stp3 oes) (fun _ => true) (evC oes) (fun s => decide (s = st)) fu (i + 1) (bvis (stp3 oes) (fun _ => true) (v1,ww) (((oes.drop y.1).filter fun e => e.1 == v1).map fun e => e.2.1) y.2.2.2) = some z) (fun y => oes.length - y.1) (0,km,vl,wl)
  ⟨Nat.zero_le _,hb,hk,hv,hvi,hgi,hno⟩ ⟨rfl,rfl,rfl,rfl,rfl,rfl,rfl,rfl,trivial⟩ rfl ⟨rfl,rfl,trivial⟩ rfl rfl ?_
 clear hb hk hv hvi hgi hno gl hi hll hvl h1
 rintro ⟨j,km,vl,wl⟩ ⟨hj,hb,hk,hv,hvi,hgi,hno⟩ ih2
 simp only at hj hb hk hv hvi hgi hno
 have hll:=zeu hb
 have hvl:=hv.len
 have h1:i < vl.length:=(List.getElem?_eq_some_iff.1 hvi).1
 have gl:(vl.map visI)[(i:Int).toNat]? = some (visI (v1,v2,v3,v4)):=by rw [Int.toNat_natCast,List.getElem?_map,hvi]; rfl
 have hj1:ii (IntKind.i64.wrap ((j:Int) + 1)) = ii ((j + 1:Nat):Int):=congrArg ii (zaB (n:=1000001) (by omega) (by decide))
 refine zae Tk Tryz.func107 ?_
 refine zai Tk Tryz.func107 rfl (fun g1 => ?_) (fun g1 => ?_)
 ·have h2:j < oes.length:=by simpa using g1
  have ge:(oes.map edgI)[(j:Int).toNat]? = some (edgI oes[j]):=zaj h2
  have hte:=hto _ (List.getElem_mem h2)
  have hse:=zcP hpw (List.getElem_mem h2)
  rw [List.drop_eq_getElem_cons h2,List.filter_cons] at hno
  generalize oes[j] = e at *
  obtain ⟨ef,ee,et⟩:=e
  simp only at hno hte hse
  have hkk:=hk et
  refine zag Tk Tryz.func107 (by exact ⟨by omega,by show (j:Int) < (oes.length:Int); omega⟩) ?_
  refine zap Tk Tryz.func107 (ge) ?_
  refine zaD Tk Tryz.func107 zaN rfl ?_
  refine zaz Tk (by exact ⟨by omega,by show (i:Int) < (vl.length:Int); omega⟩) ?_
  refine zaJ Tk (gl) ?_
  refine zcW Tk (fun d1 => ?_) (fun d1 => ?_)
  ·have d1:ef = v1:=beqT d1
   rw [if_pos (by simpa using d1)] at hno
   simp only [List.map_cons,bvis] at hno
   rw [← d1,hse] at hno
   refine zaS Tk Tryz.func107 (by kernel_rfl) ?_
   refine zai Tk Tryz.func107 rfl (fun d2 => ?_) (fun d2 => ?_)
   ·have d2:zdj km (.int .i64 et) = false:=notT d2
    rw [hkk] at d2
    have d2:∀ y ∈ wl,y.1 ≠ et:=fun y hy e => of_decide_eq_false d2 (List.mem_map.2 ⟨y,hy,e⟩)
    rw [if_pos ⟨trivial,d2⟩] at hno
    refine zaD Tk Tryz.func107 zaN rfl ?_
    refine zuV Tk ?_
    refine zqq Tk (by exact ⟨by show (vl.length + 1) * 32 ≤ 140737488355328; omega,by show vl.length + 1 ≤ 9223372036854775807; omega⟩) ?_
    refine zuw Tk (p:=⟨[(62,.osl 0 62),(54,.dead),(41,.dead),(40,.dead),(38,.dead),(5,.dead)],[(62,.arr 244 4 (vl.length + 1) (vl.map visI ++ [visI (et,0,(i:Int),ee)]) true)],some 62⟩) rfl rfl rfl ?_
    refine zuw Tk (p:=⟨[],[(12,.mp (.int .i64) (.b (mset km (.int .i64 et) true)))],none⟩) rfl rfl rfl ?_
    refine zqr Tk Tryz.func107 (by kernel_rfl) (GM.h ?_)
    have hmk:zj6 (mset km (.int .i64 et) true) ((wl ++ [(et,ww ++ [ee])]).map (·.1)):=by
     rw [List.map_append]
     exact zjg hk et
    refine zac ?_
    rw [d1] at hno
    refine ih2 (j + 1,mset km (.int .i64 et) true,vl ++ [(et,0,(i:Int),ee)],wl ++ [(et,ww ++ [ee])]) _ _ ⟨h2,zkK hb hgi (zdw.2 hte) d2 ee,hmk,zqI hv hgi rfl,by rw [List.getElem?_append_left h1]; exact hvi,by rw [List.getElem?_append_left (by omega)]; exact hgi,hno⟩ (by simp only; omega) ⟨rfl,rfl,rfl,rfl,rfl,rfl,rfl,hj1,trivial⟩ rfl ⟨congrArg some (zlV vl (et,0,(i:Int),ee)),rfl,trivial⟩ rfl rfl
   ·have d2:zdj km (.int .i64 et) = true:=notF d2
    rw [hkk] at d2
    obtain ⟨y,hy,hye⟩:=List.mem_map.1 (of_decide_eq_true d2)
    rw [if_neg (fun h => h.2 y hy hye)] at hno
    rw [d1] at hno
    refine zac ?_
    exact ih2 (j + 1,km,vl,wl) _ _ ⟨h2,hb,hk,hv,hvi,hgi,hno⟩ (by simp only; omega) ⟨rfl,rfl,rfl,rfl,rfl,rfl,rfl,hj1,trivial⟩ rfl ⟨rfl,rfl,trivial⟩ rfl rfl
  ·have d1:¬ ef = v1:=beqF d1
   rw [if_neg (by simpa using d1)] at hno
   refine zaS Tk Tryz.func107 (by kernel_rfl) ?_
   refine gcF Tk Tryz.func107 rfl ?_
   refine zac ?_
   exact ih2 (j + 1,km,vl,wl) _ _ ⟨h2,hb,hk,hv,hvi,hgi,hno⟩ (by simp only; omega) ⟨rfl,rfl,rfl,rfl,rfl,rfl,rfl,hj1,trivial⟩ rfl ⟨rfl,rfl,trivial⟩ rfl rfl
 ·have h2:oes.length ≤ j:=by simpa using g1
  rw [List.drop_eq_nil_of_le h2] at hno
  simp only [List.filter_nil,List.map_nil,bvis] at hno
  refine zac ?_
  exact ih (i + 1,fu,km,vl,wl) _ _ ⟨by simp only; omega,hb,hk,hv,by simp only; omega,hno⟩ (by simp only; omega) ⟨rfl,rfl,rfl,rfl,congrArg ii (zaB (n:=5000) (by omega) (by decide)),trivial⟩ rfl ⟨rfl,rfl,trivial⟩ rfl rfl
end Go.AI


namespace Go.AI
open Go.Proofs
set_option maxRecDepth 20000
abbrev LS:=Int × Int
def nxQ (es:List Edg) (ob:List Int) (y:LS) (ev:Int):LS:=(stp3 es y.1 ev,if ev ∈ ob then y.2 + 1 else y.2)
def okQ (ob obs:List Int) (k:Int) (ev:Int):Bool:=!decide (ev ∈ ob) || decide (obs[k.toNat]? = some ev)
def evQ (es:List Edg) (ob obs:List Int) (y:LS):List Int:=(evC es y.1).filter (okQ ob obs y.2)
def badQ (obs sts:List Int) (y:LS):Bool:=decide (y.2 = (obs.length:Int)) && decide (y.1 ∈ sts)
def zgt (es:List Edg) (ob obs sts:List Int):Option (LS × List Int):=bsr (nxQ es ob) (fun _ => true) (evQ es ob obs) (badQ obs sts) 100000 0 [(((0,0):LS),([]:List Int))]
def lsV (n m:Nat):List LS:=(List.range n).flatMap fun (i:Nat) => (List.range (m + 1)).map fun (j:Nat) => ((i:Int),(j:Int))
theorem zj8 (m:Nat):∀ n,(lsV n m).length = n * (m + 1)
 | 0 => by simp [lsV]
 | n + 1 => by
  have:=zj8 m n
  unfold lsV at *
  rw [List.range_succ (n:=n),List.flatMap_append,List.length_append,this]
  simp [Nat.succ_mul]
theorem zic {n m:Nat} {y:LS} (h:(0 ≤ y.1 ∧ y.1 < (n:Int)) ∧ 0 ≤ y.2 ∧ y.2 ≤ (m:Int)):y ∈ lsV n m:=by
 unfold lsV
 refine List.mem_flatMap.2 ⟨y.1.toNat,List.mem_range.2 (by omega),List.mem_map.2 ⟨y.2.toNat,List.mem_range.2 (by omega),?_⟩⟩
 rw [show ((y.1.toNat:Nat):Int) = y.1 by omega,show ((y.2.toNat:Nat):Int) = y.2 by omega]
theorem zpz {n m:Nat} {y:LS} (h:y ∈ lsV n m):(0 ≤ y.1 ∧ y.1 < (n:Int)) ∧ 0 ≤ y.2 ∧ y.2 ≤ (m:Int):=by
 unfold lsV at h
 obtain ⟨i,hi,h⟩:=List.mem_flatMap.1 h
 obtain ⟨j,hj,rfl⟩:=List.mem_map.1 h
 have:=List.mem_range.1 hi
 have:=List.mem_range.1 hj
 simp only
 omega
def zgk (km:List (Value × Bool)) (l:List LS):Prop:=∀ y:LS,zdj km (pk y.1 y.2) = decide (y ∈ l)
theorem zhr {km:List (Value × Bool)} {l:List LS} (h:zgk km l) (y:LS):zgk (mset km (pk y.1 y.2) true) (l ++ [y]):=by
 intro u
 have h1:=h u
 unfold zdj at h1 ⊢
 rw [ze6]
 by_cases e:u.1 = y.1 ∧ u.2 = y.2
 ·have:u = y:=Prod.ext e.1 e.2
  rw [if_pos e,this]
  simp
 ·have:u ≠ y:=fun h => e (by rw [h]; exact ⟨rfl,rfl⟩)
  rw [if_neg e,h1]
  simp [this]
theorem znA:zgk [] []:=fun y => by simp [zdj,zbJ]
abbrev prL (v:Vis):LS:=(v.1,v.2.1)
theorem ziv {es:List Edg} (hp:es.Pairwise ltE) {s ev:Int} (h:ev ∈ evC es s):(s,ev,stp3 es s ev) ∈ es:=by
 unfold evC at h
 obtain ⟨e,he,rfl⟩:=List.mem_map.1 h
 obtain ⟨h1,h2⟩:=List.mem_filter.1 he
 have h2:e.1 = s:=by simpa using h2
 have:=zcP hp h1
 rw [h2] at this
 rw [this,← h2]
 exact h1
set_option maxHeartbeats 16000000 in
theorem zr3 (O:List Heap) (x:Sys) (a:Aut) (ps:List (Int × Int)) (o:Aut) (es:List (List Int)) (h:stOk x a ps) (h0:0 < ps.length) (obs sts:List Int) (hso:sts.Pairwise (· < ·)) (hsl:sts.length ≤ 1000000) (hol:obs.length ≤ 4096) (hpl:ps.length ≤ 12) (z:LS × List Int)
  (hz:zgt a.edges x.ob obs sts = some z) :
  zan Tryz.prog 108 [zbI x a ps o es,ints obs,ints sts] O (ints z.2) [] O:=by
 have hga:=h.ga
 obtain ⟨n,hn⟩:∃ n,n = ps.length:=⟨_,rfl⟩
 rw [← hn] at hga h0 hpl
 have hst:=fun O s ev hs => zoJ O a n s ev hga hs
 have hen:=fun O s hs => znR O a n s hga hs
 have hto:=hga.to
 have hpw:=hga.pw
 have hed:=hga.sm.ed
 have hobs:=(zar h.hx.ob).1
 have hobl:=h.sm.ob
 have hcs:=fun O s => zdY O sts s (by simp only [zas]; omega) hso
 have hco:=fun O e => zdY O x.ob e (by simp only [zas]; omega) hobs
 have hVl:=zj8 obs.length n
 have hVb:n * (obs.length + 1) ≤ 12 * 4097:=Nat.mul_le_mul hpl (by omega)
 have hB0:bOk (lsV n obs.length) [(((0,0):LS),([]:List Int))]:=zkJ (zic ⟨⟨Int.le_refl _,by simpa using h0⟩,Int.le_refl _,by simp⟩)
 have hk0:zgk (mset [] (pk 0 0) true) ([(((0,0):LS),([]:List Int))].map (·.1)):=zhr (l:=[]) znA (0,0)
 have hv0:VOk prL [((0,0,-1,0):Vis)] [(((0,0):LS),([]:List Int))]:=zqH _ (0,0,-1,0) (by decide)
 have hwd:=fun O vl wl h hl i y hy => zon (S:=LS) (pr:=prL) O vl wl h hl i y hy
 have hrl:∀ s,(evC a.edges s).length ≤ 1000000:=fun s => by unfold evC; rw [List.length_map]; exact Nat.le_trans (List.length_filter_le _ _) hed
 unfold zgt at hz
 unfold stpT at hst
 clear h hga hn
 obtain ⟨al,st,mk,eds⟩:=a
 obtain ⟨xp,xs,ob,ct⟩:=x
 simp only at hto hpw hed hz hen hst hobs hobl hco hrl
 refine zat [7,8,16,100020] Tk Tryz.func108 rfl Tryz.call108 Tryz.ntmps108 (Nat.le_of_ble_eq_true rfl) fun E => ?_
 refine zae Tk Tryz.func108 ?_
 refine zaD Tk Tryz.func108 zaN rfl ?_
 refine zuV Tk ?_
 refine zuw Tk (p:=⟨[],[(21,.mp (.pair .i64) (.b (mset [] (pk 0 0) true)))],none⟩) rfl rfl rfl ?_
 refine zqr Tk Tryz.func108 (by kernel_rfl) (GM.h ?_)
 refine zac ?_
 refine zao (zcT 20 116 rfl rfl rfl) ?_
 refine zah (fun y:Nat × Nat × List (Value × Bool) × List Vis × List (LS × List Int) => [(0,zbI ⟨xp,xs,ob,ct⟩ ⟨al,st,mk,eds⟩ ps o es),(1,ints obs),(2,ints sts),(7,.osl 0 116),(8,.osl 0 21),(9,ii y.1)])
  (fun y => [(116,ovis y.2.2.2.1),(21,.mp (.pair .i64) (.b y.2.2.1))]) (fun _ => O) 118
  (fun y => y.1 ≤ y.2.2.2.2.length ∧ bOk (lsV n obs.length) y.2.2.2.2 ∧ zgk y.2.2.1 (y.2.2.2.2.map (·.1)) ∧ VOk prL y.2.2.2.1 y.2.2.2.2 ∧ y.2.1 + y.1 = 100000 ∧ bsr (nxQ eds ob) (fun _ => true) (evQ eds ob obs) (badQ obs sts) y.2.1 y.1 y.2.2.2.2 = some z) (fun y => y.2.1) (0,100000,mset [] (pk 0 0) true,[(0,0,-1,0)],[((0,0),[])])
  ⟨Nat.zero_le _,hB0,hk0,hv0,rfl,hz⟩ ⟨rfl,rfl,rfl,rfl,rfl,rfl,trivial⟩ rfl ⟨rfl,rfl,trivial⟩ rfl rfl ?_
 clear hB0 hk0 hz hv0
 rintro ⟨i,fu,km,vl,wl⟩ ⟨hi,hb,hk,hv,hf,hno⟩ ih
 simp only at hi hb hk hv hf hno
 have hll:=zeu hb
 have hvl:=hv.len
 have h1:i < wl.length:=by
  rcases Nat.lt_or_ge i wl.length with h | h
  ·exact h
  ·rw [zmo h] at hno; cases hno
 obtain ⟨fu,rfl⟩:∃ f',fu = f' + 1:=⟨fu - 1,by omega⟩
 have hgi:wl[i]? = some wl[i]:=List.getElem?_eq_getElem h1
 have hvi:vl[i]? = some vl[i]:=List.getElem?_eq_getElem (by omega)
 have gl:(vl.map visI)[(i:Int).toNat]? = some (visI vl[i]):=zaj (by omega)
 have hzV:=zpz (hb.el _ (List.getElem_mem h1))
 simp only [bsr,hgi] at hno
 obtain ⟨ww,hw1,_⟩:=hv.el i _ hvi
 generalize vl[i] = v at *
 generalize wl[i] = w at *
 rw [hgi] at hw1
 obtain rfl:=Option.some.inj hw1
 obtain ⟨v1,v2,v3,v4⟩:=v
 simp only at hno hzV hgi
 have hj0:ii (IntKind.i64.wrap ((i:Int) + 1)) = ii ((i + 1:Nat):Int):=congrArg ii (zaB (n:=1000001) (by omega) (by decide))
 have hcs1:=fun O => hcs O v1
 have hbd:badQ obs sts (v1,v2) = (decide (v2 = (obs.length:Int)) && decide (v1 ∈ sts)):=rfl
 rw [hbd] at hno
 clear hbd
 refine zae Tk Tryz.func108 ?_
 refine zai Tk Tryz.func108 rfl (fun _ => ?_) (fun h => absurd h (by simp; omega))
 refine zag Tk Tryz.func108 (by exact ⟨by omega,by show (i:Int) < (vl.length:Int); omega⟩) ?_
 refine zap Tk Tryz.func108 (gl) ?_
 apply zcj (P:=bsr (nxQ eds ob) (fun _ => true) (evQ eds ob obs) (badQ obs sts) fu (i + 1) (bvis (nxQ eds ob) (fun _ => true) ((v1,v2),ww) (evQ eds ob obs (v1,v2)) wl) = some z) (s6:={ σ:=[(0,zbI ⟨xp,xs,ob,ct⟩ ⟨al,st,mk,eds⟩ ps o es),(1,ints obs),(2,ints sts),(7,.osl 0 116),(8,.osl 0 21),(9,ii i),(10,.own 0 10 0 0)],S:=[(116,ovis vl),(21,.mp (.pair .i64) (.b km)),(10,.box [ii v1,ii v2,ii v3,ii v4])] :: O,n:=118 })
 ·intro J
  refine zaW Tk Tryz.func108 rfl (fun c0 => ?_) (fun c0 => ?_)
  ·have c0:v2 = (obs.length:Int):=beqT c0
   rw [decide_eq_true c0,Bool.true_and] at hno
   refine zaf Tk Tryz.func108 (hcs1 _) rfl rfl rfl rfl rfl ?_
   refine zai Tk Tryz.func108 rfl (fun c1 => ?_) (fun c1 => ?_)
   ·have c1:decide (v1 ∈ sts) = true:=c1
    rw [if_pos c1] at hno
    obtain rfl:=Option.some.inj hno
    refine zax ?_
    refine zao (zam 116 rfl rfl) ?_
    refine zae Tk Tryz.func108 ?_
    refine g_go Tk Tryz.func108 ?_
    refine zaf Tk Tryz.func108 (hwd _ vl wl hv (by omega) i _ hgi) rfl rfl rfl rfl rfl ?_
    refine zal Tk (r:=ints ww) rfl rfl rfl trivial rfl rfl ?_
    rfl
   ·have c1:¬ decide (v1 ∈ sts) = true:=by rw [show decide (v1 ∈ sts) = false from c1]; decide
    rw [if_neg c1] at hno
    refine zax ?_
    refine zaC (J hno) ⟨rfl,rfl,rfl,rfl,rfl,rfl,rfl,trivial⟩ rfl ⟨rfl,rfl,rfl,trivial⟩ rfl rfl
  ·have c0:¬ v2 = (obs.length:Int):=beqF c0
   rw [decide_eq_false c0,Bool.false_and,if_neg (by decide)] at hno
   refine gcF Tk Tryz.func108 rfl ?_
   refine zax ?_
   refine zaC (J hno) ⟨rfl,rfl,rfl,rfl,rfl,rfl,rfl,trivial⟩ rfl ⟨rfl,rfl,rfl,trivial⟩ rfl rfl
 clear hno
 intro hno
 have hen1:=fun O => hen O v1 hzV.1
 have hno:bsr (nxQ eds ob) (fun _ => true) (evQ eds ob obs) (badQ obs sts) fu (i + 1) (bvis (nxQ eds ob) (fun _ => true) ((v1,v2),ww) (((evC eds v1).drop 0).filter (okQ ob obs v2)) wl) = some z:=hno
 have hrow:∀ e ∈ evC eds v1,(v1,e,stp3 eds v1 e) ∈ eds:=fun e he => ziv hpw he
 have hrl1:=hrl v1
 generalize evC eds v1 = row at *
 refine zae Tk Tryz.func108 ?_
 refine g_go Tk Tryz.func108 ?_
 refine zaD Tk Tryz.func108 zaN rfl ?_
 refine zaJ Tk (rfl) ?_
 refine za2 Tk (fun _ => hen1 _) rfl rfl rfl ?_
 refine zaS Tk Tryz.func108 (by kernel_rfl) ?_
 refine zac ?_
 refine zah (fun y:Nat × List (Value × Bool) × List Vis × List (LS × List Int) => [(0,zbI ⟨xp,xs,ob,ct⟩ ⟨al,st,mk,eds⟩ ps o es),(1,ints obs),(2,ints sts),(7,.osl 0 116),(8,.osl 0 21),(9,ii i),(10,.own 0 10 0 0),(58,ints row),(59,ii row.length),(60,ii y.1)])
  (fun y => [(116,ovis y.2.2.1),(21,.mp (.pair .i64) (.b y.2.1)),(10,.box [ii v1,ii v2,ii v3,ii v4])]) (fun _ => O) 118
  (fun y => y.1 ≤ row.length ∧ bOk (lsV n obs.length) y.2.2.2 ∧ zgk y.2.1 (y.2.2.2.map (·.1)) ∧ VOk prL y.2.2.1 y.2.2.2 ∧ y.2.2.2[i]? = some ((v1,v2),ww) ∧ bsr (nxQ eds ob) (fun _ => true) (evQ eds ob obs) (badQ obs sts) fu (i + 1) (bvis (nxQ eds ob) (fun _ => true) ((v1,v2),ww) (((row.drop y.1)).filter (okQ ob obs v2)) y.2.2.2) = some z) (fun y => row.length - y.1) (0,km,vl,wl)
  ⟨Nat.zero_le _,hb,hk,hv,hgi,hno⟩ ⟨rfl,rfl,rfl,rfl,rfl,rfl,rfl,rfl,rfl,rfl,trivial⟩ rfl ⟨rfl,rfl,rfl,trivial⟩ rfl rfl ?_
 clear hb hk hv hvi hgi hno gl hi hll hvl h1
 rintro ⟨j,km,vl,wl⟩ ⟨hj,hb,hk,hv,hgi,hno⟩ ih2
 simp only at hj hb hk hv hgi hno
 have hll:=zeu hb
 have hvl:=hv.len
 have h1:i < wl.length:=(List.getElem?_eq_some_iff.1 hgi).1
 have hj1:ii (IntKind.i64.wrap ((j:Int) + 1)) = ii ((j + 1:Nat):Int):=congrArg ii (zaB (n:=1000001) (by omega) (by decide))
 refine zae Tk Tryz.func108 ?_
 refine zai Tk Tryz.func108 rfl (fun g1 => ?_) (fun g1 => ?_)
 ·have h2:j < row.length:=by simpa using g1
  have ge:(row.map fun x => [vi x])[(j:Int).toNat]? = some [vi row[j]]:=zaj (f:=fun x => [vi x]) h2
  have hre:=hrow _ (List.getElem_mem h2)
  rw [List.drop_eq_getElem_cons h2,List.filter_cons] at hno
  generalize row[j] = e at *
  have hte:=hto _ hre
  simp only at hte
  have hst1:=fun O => hst O v1 e hzV.1
  rw [if_pos hte.1,decide_eq_true hte.1] at hst1
  have hco1:=fun O => hco O e
  have hokq:okQ ob obs v2 e = (!decide (e ∈ ob) || decide (obs[v2.toNat]? = some e)):=rfl
  have hnx:nxQ eds ob (v1,v2) e = (stp3 eds v1 e,if e ∈ ob then v2 + 1 else v2):=rfl
  obtain ⟨q,hq⟩:∃ q,q = if e ∈ ob then v2 + 1 else v2:=⟨_,rfl⟩
  rw [← hq] at hnx
  have hj2:ii (IntKind.i64.wrap (v2 + 1)) = ii (v2 + 1):=congrArg ii (w64 (by omega) (by omega))
  generalize stp3 eds v1 e = t at *
  refine zag Tk Tryz.func108 (by exact ⟨by omega,by show (j:Int) < (row.length:Int); omega⟩) ?_
  refine zap Tk Tryz.func108 (ge) ?_
  refine zap Tk Tryz.func108 (rfl) ?_
  refine zaf Tk Tryz.func108 (hco1 _) rfl rfl rfl rfl rfl ?_
  apply zcj (P:=okQ ob obs v2 e = true ∧ q ≤ (obs.length:Int)) (s6:={ σ:=[(0,zbI ⟨xp,xs,ob,ct⟩ ⟨al,st,mk,eds⟩ ps o es),(1,ints obs),(2,ints sts),(7,.osl 0 116),(8,.osl 0 21),(9,ii i),(10,.own 0 10 0 0),(58,ints row),(59,ii row.length),(60,ii j),(14,ii e),(15,ii q)],S:=[(116,ovis vl),(21,.mp (.pair .i64) (.b km)),(10,.box [ii v1,ii v2,ii v3,ii v4])] :: O,n:=118 })
  ·intro J
   refine zai Tk Tryz.func108 rfl (fun c2 => ?_) (fun c2 => ?_)
   rotate_left
   ·have c2:e ∉ ob:=of_decide_eq_false c2
    rw [if_neg c2] at hq
    have hf:okQ ob obs v2 e = true:=by rw [hokq,decide_eq_false c2]; rfl
    refine zax ?_
    refine zaC (J ⟨hf,by omega⟩) ⟨rfl,rfl,rfl,rfl,rfl,rfl,rfl,rfl,rfl,rfl,rfl,by rw [hq]; rfl,trivial⟩ rfl ⟨rfl,rfl,rfl,trivial⟩ rfl rfl
   ·have c2:e ∈ ob:=of_decide_eq_true c2
    rw [if_pos c2] at hq
    rw [decide_eq_true c2,Bool.not_true,Bool.false_or] at hokq
    have hcon:∀ (hf:okQ ob obs v2 e = false),bsr (nxQ eds ob) (fun _ => true) (evQ eds ob obs) (badQ obs sts) fu (i + 1) (bvis (nxQ eds ob) (fun _ => true) ((v1,v2),ww) (((row.drop (j + 1))).filter (okQ ob obs v2)) wl) = some z:=fun hf => by
     rw [if_neg (by rw [hf]; decide)] at hno; exact hno
    refine zaW Tk Tryz.func108 rfl (fun c3 => ?_) (fun c3 => ?_)
    ·have c3:v2 = (obs.length:Int):=beqT c3
     have hf:okQ ob obs v2 e = false:=by
      rw [hokq]
      have:obs[v2.toNat]? = none:=List.getElem?_eq_none (by omega)
      rw [this]; simp
     refine gcT Tk Tryz.func108 rfl ?_
     refine zac ?_
     exact ih2 (j + 1,km,vl,wl) _ _ ⟨h2,hb,hk,hv,hgi,hcon hf⟩ (by simp only; omega) ⟨rfl,rfl,rfl,rfl,rfl,rfl,rfl,rfl,rfl,hj1,trivial⟩ rfl ⟨rfl,rfl,rfl,trivial⟩ rfl rfl
    ·have c3:¬ v2 = (obs.length:Int):=beqF c3
     have hvl2:v2.toNat < obs.length:=by omega
     obtain ⟨u,hgo⟩:∃ u,obs[v2.toNat]? = some u:=⟨_,List.getElem?_eq_getElem hvl2⟩
     have go:(obs.map fun x => [vi x])[v2.toNat]? = some [vi u]:=by rw [List.getElem?_map,hgo]; rfl
     refine zag Tk Tryz.func108 (by exact ⟨by omega,by show v2 < (obs.length:Int); omega⟩) ?_
     refine zap Tk Tryz.func108 (go) ?_
     refine zai Tk Tryz.func108 rfl (fun c4 => ?_) (fun c4 => ?_)
     ·have c4:u ≠ e:=bneT c4
      have hf:okQ ob obs v2 e = false:=by
       rw [hokq,hgo]; simp [c4]
      refine zac ?_
      exact ih2 (j + 1,km,vl,wl) _ _ ⟨h2,hb,hk,hv,hgi,hcon hf⟩ (by simp only; omega) ⟨rfl,rfl,rfl,rfl,rfl,rfl,rfl,rfl,rfl,hj1,trivial⟩ rfl ⟨rfl,rfl,rfl,trivial⟩ rfl rfl
     ·have c4:u = e:=bneF c4
      have hf:okQ ob obs v2 e = true:=by rw [hokq,hgo,c4]; simp
      refine zax ?_
      refine zaC (J ⟨hf,by omega⟩) ⟨rfl,rfl,rfl,rfl,rfl,rfl,rfl,rfl,rfl,rfl,rfl,by rw [hq]; exact hj2,trivial⟩ rfl ⟨rfl,rfl,rfl,trivial⟩ rfl rfl
  rintro ⟨hf,hqb⟩
  have hq0:0 ≤ q:=by rw [hq]; split <;> omega
  rw [if_pos hf] at hno
  simp only [bvis] at hno
  rw [hnx] at hno
  have hkk:=hk (t,q)
  refine zae Tk Tryz.func108 ?_
  refine g_go Tk Tryz.func108 ?_
  refine zaD Tk Tryz.func108 zaN rfl ?_
  refine zaJ Tk (rfl) ?_
  refine za2 Tk (fun _ => hst1 _) rfl rfl rfl ?_
  refine zaS Tk Tryz.func108 (by kernel_rfl) ?_
  refine zai Tk Tryz.func108 rfl (fun d2 => ?_) (fun d2 => ?_)
  ·have d2:zdj km (pk t q) = false:=notT d2
   rw [hkk] at d2
   have d2:∀ y ∈ wl,y.1 ≠ (t,q):=fun y hy e => of_decide_eq_false d2 (List.mem_map.2 ⟨y,hy,e⟩)
   rw [if_pos ⟨trivial,d2⟩] at hno
   refine zag Tk Tryz.func108 (by exact ⟨by show (vl.length + 1) * 32 ≤ 140737488355328; omega,by show vl.length + 1 ≤ 9223372036854775807; omega⟩) ?_
   have hmk:zgk (mset km (pk t q) true) ((wl ++ [((t,q),ww ++ [e])]).map (·.1)):=by
    rw [List.map_append]
    exact zhr hk (t,q)
   refine zac ?_
   refine ih2 (j + 1,mset km (pk t q) true,vl ++ [(t,q,(i:Int),e)],wl ++ [((t,q),ww ++ [e])]) _ _ ⟨h2,zkK hb hgi (zic ⟨hte,hq0,hqb⟩) d2 e,hmk,zqI (v:=(t,q,(i:Int),e)) hv hgi rfl,by rw [List.getElem?_append_left h1]; exact hgi,hno⟩ (by simp only; omega) ⟨rfl,rfl,rfl,rfl,rfl,rfl,rfl,rfl,rfl,hj1,trivial⟩ rfl ⟨congrArg some (zlV vl (t,q,(i:Int),e)),rfl,rfl,trivial⟩ rfl rfl
  ·have d2:zdj km (pk t q) = true:=notF d2
   rw [hkk] at d2
   obtain ⟨y,hy,hye⟩:=List.mem_map.1 (of_decide_eq_true d2)
   rw [if_neg (fun h => h.2 y hy hye)] at hno
   refine zac ?_
   exact ih2 (j + 1,km,vl,wl) _ _ ⟨h2,hb,hk,hv,hgi,hno⟩ (by simp only; omega) ⟨rfl,rfl,rfl,rfl,rfl,rfl,rfl,rfl,rfl,hj1,trivial⟩ rfl ⟨rfl,rfl,rfl,trivial⟩ rfl rfl
 ·have h2:row.length ≤ j:=by simpa using g1
  rw [List.drop_eq_nil_of_le h2] at hno
  simp only [List.filter_nil,bvis] at hno
  refine zac ?_
  exact ih (i + 1,fu,km,vl,wl) _ _ ⟨h1,hb,hk,hv,by simp only; omega,hno⟩ (by simp only; omega) ⟨rfl,rfl,rfl,rfl,rfl,hj0,trivial⟩ rfl ⟨rfl,rfl,trivial⟩ rfl rfl
end Go.AI


namespace Go.AI
open Go.Proofs
set_option maxRecDepth 20000
def obsQ (o:Aut) (i:Int):Option (Int × List Int):=bsr (stp3 o.edges) (fun _ => true) (evC o.edges) (fun s => decide (s = i)) 4096 0 [((0:Int),([]:List Int))]
def obsW (o:Aut) (i:Int):List Int:=match obsQ o i with
 | some z => z.2
 | none => []
def zhv (es:List Edg) (ob obs sts:List Int):List Int:=match zgt es ob obs sts with
 | some z => z.2
 | none => []
abbrev divP (a:Aut) (est:List Int) (ev:Int):List Int:=est.filter fun s => ze3 a s ev
abbrev divR (x:Sys) (a:Aut) (ps:List (Int × Int)) (est:List Int) (ev:Int):List Int:=est.filter fun s => refF x a ps s ev
abbrev Wit:=List Int × List Int × Int
def zd5 (x:Sys) (a:Aut) (ps:List (Int × Int)) (o:Aut) (i:Int) (est:List Int):List Int → Option Wit
 | [] => none
 | e :: r => if 0 < (divP a est e).length ∧ 0 < (divR x a ps est e).length then some (zhv a.edges x.ob (obsW o i) (divP a est e),zhv a.edges x.ob (obsW o i) (divR x a ps est e),e) else zd5 x a ps o i est r
def za9 (x:Sys) (a:Aut) (ps:List (Int × Int)) (o:Aut):List (List Int) → Nat → Option Wit
 | [],_ => none
 | est :: r,i => match zd5 x a ps o i est x.ct with
  | some w => some w
  | none => za9 x a ps o r (i + 1)
structure tornOk (x:Sys) (a:Aut) (ps:List (Int × Int)) (o:Aut) (es:List (List Int)):Prop where
 st:stOk x a ps
 go:gAut o es.length
 el:es.length ≤ 4095
 len:ps.length ≤ 12
 srt:∀ est ∈ es,est.Pairwise (· < ·)
 rng:∀ est ∈ es,est ≠ [] ∧ est.length ≤ 4096 ∧ ∀ s ∈ est,0 ≤ s ∧ s < (ps.length:Int)
 h1:∀ (i:Nat) est,es[i]? = some est → (∃ z,obsQ o i = some z) ∧ (obsW o i).length ≤ 4096
 h2:∀ (i:Nat) est,es[i]? = some est → ∀ sts:List Int,(∀ s ∈ sts,s ∈ est) → 0 < sts.length → ∃ z,zgt a.edges x.ob (obsW o i) sts = some z
abbrev witC (w:Wit):List D:=[ints w.1,ints w.2.1,ii w.2.2]
abbrev zWit:Wit:=([],[],0)
set_option maxHeartbeats 8000000 in
theorem zoC (O:List Heap) (x:Sys) (a:Aut) (ps:List (Int × Int)) (o:Aut) (es:List (List Int)) (h:tornOk x a ps o es) :
  zan Tryz.prog 52 [zbI x a ps o es] O (.tup [.agg (witC ((za9 x a ps o es 0).getD zWit)),bb (za9 x a ps o es 0).isSome]) [] O:=by
 have hst:=h.st
 have hctl:=h.st.sm.ct
 have hdv:=fun O est ev (hm:est ∈ es) => zmg O x a ps o es hst est ev (h.rng est hm).2.2 (by have:=(h.rng est hm).2.1; omega)
 have hob:∀ O (i:Nat) est,es[i]? = some est → zan Tryz.prog 107 [zbI x a ps o es,ii i] O (ints (obsW o i)) [] O:=fun O i est he => by
  obtain ⟨⟨z,hz⟩,_⟩:=h.h1 i est he
  have:=zg3 O x a ps o es es.length h.go h.el (by have:=(List.getElem?_eq_some_iff.1 he).1; omega) i z hz
  unfold obsW
  rw [hz]
  exact this
 have hle:∀ O (i:Nat) est,es[i]? = some est → ∀ sts:List Int,sts.Pairwise (· < ·) → (∀ s ∈ sts,s ∈ est) → 0 < sts.length → sts.length ≤ 4096 → zan Tryz.prog 108 [zbI x a ps o es,ints (obsW o i),ints sts] O (ints (zhv a.edges x.ob (obsW o i) sts)) [] O:=fun O i est he sts hs hi h0 hl => by
  obtain ⟨z,hz⟩:=h.h2 i est he sts hi h0
  have hps:0 < ps.length:=by
   cases hsts:sts with
   | nil => rw [hsts] at h0; simp at h0
   | cons s r =>
    have:=(h.rng est (List.mem_of_getElem? he)).2.2 s (hi s (by rw [hsts]; simp))
    omega
  have:=zr3 O x a ps o es hst hps (obsW o i) sts hs (by omega) (h.h1 i est he).2 h.len z hz
  unfold zhv
  rw [hz]
  exact this
 have hsrt:=h.srt
 have hrng:=h.rng
 obtain ⟨R,hR⟩:∃ R,R = za9 x a ps o (es.drop 0) 0:=⟨_,rfl⟩
 have e0:za9 x a ps o es 0 = R:=hR.symm
 rw [e0]
 have hel:=h.el
 clear h hst e0
 refine zat [] Tk Tryz.func52 rfl Tryz.call52 Tryz.ntmps52 (Nat.le_of_ble_eq_true rfl) fun E => ?_
 refine zae Tk Tryz.func52 ?_
 refine zap Tk Tryz.func52 (rfl) ?_
 refine zac ?_
 refine zah (fun i:Nat => [(0,zbI x a ps o es),(2,.own 0 2 0 0),(14,.i (zdo es)),(15,ii es.length),(16,ii i)]) (fun _ => [(2,.box [.i (.v (.slice none 0 0)),.i (.v (.slice none 0 0)),ii 0])]) (fun _ => O) 62
  (fun i => i ≤ es.length ∧ R = za9 x a ps o (es.drop i) i) (fun i => es.length - i) 0 ⟨Nat.zero_le _,hR⟩ ⟨rfl,rfl,rfl,rfl,rfl,trivial⟩ rfl ⟨rfl,trivial⟩ rfl rfl ?_
 clear hR
 rintro i ⟨hi,hno⟩ ih
 have hj0:ii (IntKind.i64.wrap ((i:Int) + 1)) = ii ((i + 1:Nat):Int):=congrArg ii (zaB (n:=5000) (by omega) (by decide))
 refine zae Tk Tryz.func52 ?_
 refine zai Tk Tryz.func52 rfl (fun g1 => ?_) (fun g1 => ?_)
 ·have h2:i < es.length:=by simpa using g1
  have ge:(es.map fun r => [zbu r])[(i:Int).toNat]? = some [zbu es[i]]:=zaj (f:=fun r => [zbu r]) h2
  have hei:es[i]? = some es[i]:=List.getElem?_eq_getElem h2
  have hm:=List.getElem_mem h2
  rw [List.drop_eq_getElem_cons h2] at hno
  simp only [za9] at hno
  generalize es[i] = est at *
  have hdv1:=fun O ev => hdv O est ev hm
  have hob1:=fun O => hob O i est hei
  have hle1:=fun O => hle O i est hei
  have hs1:=hsrt est hm
  have hl1:=(hrng est hm).2.1
  have hno:R = match zd5 x a ps o i est (x.ct.drop 0) with
   | some w => some w
   | none => za9 x a ps o (es.drop (i + 1)) (i + 1):=hno
  refine zag Tk Tryz.func52 (by exact ⟨by omega,by show (i:Int) < (es.length:Int); omega⟩) ?_
  refine zap Tk Tryz.func52 (ge) ?_
  refine zap Tk Tryz.func52 (rfl) ?_
  refine zac ?_
  refine zah (fun j:Nat => [(0,zbI x a ps o es),(2,.own 0 2 0 0),(14,.i (zdo es)),(15,ii es.length),(16,ii i),(4,ii i),(5,ints est),(25,ints x.ct),(26,ii x.ct.length),(27,ii j)]) (fun _ => [(2,.box [.i (.v (.slice none 0 0)),.i (.v (.slice none 0 0)),ii 0])]) (fun _ => O) 62
   (fun j => j ≤ x.ct.length ∧ R = match zd5 x a ps o i est (x.ct.drop j) with
    | some w => some w
    | none => za9 x a ps o (es.drop (i + 1)) (i + 1)) (fun j => x.ct.length - j) 0 ⟨Nat.zero_le _,hno⟩ ⟨rfl,rfl,rfl,rfl,rfl,rfl,rfl,rfl,rfl,rfl,trivial⟩ rfl ⟨rfl,trivial⟩ rfl rfl ?_
  clear hno
  rintro j ⟨hj,hno⟩ ih2
  have hj1:ii (IntKind.i64.wrap ((j:Int) + 1)) = ii ((j + 1:Nat):Int):=congrArg ii (zaB (n:=1000001) (by omega) (by decide))
  refine zae Tk Tryz.func52 ?_
  refine zai Tk Tryz.func52 rfl (fun g2 => ?_) (fun g2 => ?_)
  ·have h3:j < x.ct.length:=by simpa using g2
   have gc:(x.ct.map fun x => [vi x])[(j:Int).toNat]? = some [vi x.ct[j]]:=zaj (f:=fun x => [vi x]) h3
   rw [List.drop_eq_getElem_cons h3] at hno
   simp only [zd5] at hno
   generalize x.ct[j] = e at *
   have hdv2:=fun O => hdv1 O e
   have lA:=hle1
   have pA:(divP a est e).Pairwise (· < ·):=hs1.filter _
   have pB:(divR x a ps est e).Pairwise (· < ·):=hs1.filter _
   have sA:∀ s ∈ divP a est e,s ∈ est:=fun s hs => (List.mem_filter.1 hs).1
   have sB:∀ s ∈ divR x a ps est e,s ∈ est:=fun s hs => (List.mem_filter.1 hs).1
   have nA:(divP a est e).length ≤ 4096:=Nat.le_trans (List.length_filter_le _ _) hl1
   have nB:(divR x a ps est e).length ≤ 4096:=Nat.le_trans (List.length_filter_le _ _) hl1
   have hA:=fun O h0 => hle1 O _ pA sA h0 nA
   have hB:=fun O h0 => hle1 O _ pB sB h0 nB
   have hdv2:∀ O,zan Tryz.prog 57 [zbI x a ps o es,ints est,ii e] O (.tup [ints (divP a est e),ints (divR x a ps est e)]) [] O:=hdv2
   generalize divP a est e = A at *
   generalize divR x a ps est e = B at *
   generalize zhv a.edges x.ob (obsW o i) A = wA at *
   generalize zhv a.edges x.ob (obsW o i) B = wB at *
   generalize obsW o i = w0 at *
   refine zag Tk Tryz.func52 (by exact ⟨by omega,by show (j:Int) < (x.ct.length:Int); omega⟩) ?_
   refine zap Tk Tryz.func52 (gc) ?_
   refine zaf Tk Tryz.func52 (hdv2 _) rfl rfl rfl rfl rfl ?_
   refine zaW Tk Tryz.func52 rfl (fun c1 => ?_) (fun c1 => ?_)
   ·have c1:((A.length:Nat):Int) > 0:=of_decide_eq_true c1
    have c1:0 < A.length:=by omega
    refine zai Tk Tryz.func52 rfl (fun c2 => ?_) (fun c2 => ?_)
    ·have c2:((B.length:Nat):Int) > 0:=of_decide_eq_true c2
     have c2:0 < B.length:=by omega
     rw [if_pos ⟨c1,c2⟩] at hno
     simp only at hno
     subst hno
     refine zaf Tk Tryz.func52 (hob1 _) rfl rfl rfl rfl rfl ?_
     refine zaf Tk Tryz.func52 (hA _ c1) rfl rfl rfl rfl rfl ?_
     refine zaf Tk Tryz.func52 (hB _ c2) rfl rfl rfl rfl rfl ?_
     refine zal Tk (r:=.tup [.agg [ints wA,ints wB,ii e],bb true]) rfl rfl rfl trivial rfl rfl ?_
     rfl
    ·have c2:¬ ((B.length:Nat):Int) > 0:=of_decide_eq_false c2
     rw [if_neg (fun h => c2 (by omega))] at hno
     refine zac ?_
     exact ih2 (j + 1) _ _ ⟨h3,hno⟩ (by omega) ⟨rfl,rfl,rfl,rfl,rfl,rfl,rfl,rfl,rfl,hj1,trivial⟩ rfl ⟨rfl,trivial⟩ rfl rfl
   ·have c1:¬ ((A.length:Nat):Int) > 0:=of_decide_eq_false c1
    rw [if_neg (fun h => c1 (by omega))] at hno
    refine gcF Tk Tryz.func52 rfl ?_
    refine zac ?_
    exact ih2 (j + 1) _ _ ⟨h3,hno⟩ (by omega) ⟨rfl,rfl,rfl,rfl,rfl,rfl,rfl,rfl,rfl,hj1,trivial⟩ rfl ⟨rfl,trivial⟩ rfl rfl
  ·have h3:x.ct.length ≤ j:=by simpa using g2
   rw [List.drop_eq_nil_of_le h3] at hno
   simp only [zd5] at hno
   refine zac ?_
   exact ih (i + 1) _ _ ⟨h2,hno⟩ (by omega) ⟨rfl,rfl,rfl,rfl,hj0,trivial⟩ rfl ⟨rfl,trivial⟩ rfl rfl
 ·have h2:es.length ≤ i:=by simpa using g1
  rw [List.drop_eq_nil_of_le h2] at hno
  simp only [za9] at hno
  subst hno
  refine zb2 Tk (r:=.tup [.agg [.i (.v (.slice none 0 0)),.i (.v (.slice none 0 0)),ii 0],bb false]) rfl rfl rfl trivial rfl rfl ?_
  repeat' (first | refine zcR ?_ | refine zcS ?_ | refine zfi ?_ | refine CoDL.cons ?_ ?_ | exact CoDL.nil | exact zbZ | refine zdF ?_ | refine CoLL.cons ?_ ?_ | exact CoLL.nil | refine CoL.cons ?_ ?_ | exact CoL.nil | exact CoI.refl _ | exact CoL.refl _ | exact CoLL.refl _ | exact CoDL.refl _ | exact CoD.refl _)
end Go.AI


namespace Go.AI
open Go.Proofs
set_option maxRecDepth 20000
structure obOk (x:Sys):Prop where
 sm:smallS x
 hx:gSys x
 h64:x.p.states ≤ 64 ∧ x.s.states ≤ 64
 hV:(lpV x).length ≤ 4095
 hn:(lpR x).2.length ≤ 12
 tn:tornOk x (lpR x).1 (lpR x).2 (esR x).1 (esR x).2
abbrev zfL (x:Sys):Option Wit:=za9 x (lpR x).1 (lpR x).2 (esR x).1 (esR x).2 0
theorem zdt {g:Nat} (hg:zfx g) {ty:TypeId} {fr:Nat × Nat} (O:List Heap) (x:Sys) (h:obOk x):ASpecT g (ptab ty fr) Tryz.prog 14 [sysD x] O (.tup [.agg (witC ((zfL x).getD zWit)),bb (!(zfL x).isSome),ii 0]) [] O:=by
 have h1:=fun O => zpj hg (ty:=ty) (fr:=fr) O x h.sm h.hx h.h64 h.hV h.hn
 have h2:=fun O => zoC O x _ _ _ _ h.tn
 have h1:∀ O,ASpecT g (ptab ty fr) Tryz.prog 51 [sysD x] O (.tup [zbI x (lpR x).1 (lpR x).2 (esR x).1 (esR x).2,ii 0]) [] O:=h1
 show ASpecT g (ptab ty fr) Tryz.prog 14 [sysD x] O (.tup [.agg (witC ((za9 x (lpR x).1 (lpR x).2 (esR x).1 (esR x).2 0).getD zWit)),bb (!(za9 x (lpR x).1 (lpR x).2 (esR x).1 (esR x).2 0).isSome),ii 0]) [] O
 generalize za9 x (lpR x).1 (lpR x).2 (esR x).1 (esR x).2 0 = T at *
 have h2:∀ O,zan Tryz.prog 52 [zbI x (lpR x).1 (lpR x).2 (esR x).1 (esR x).2] O (.tup [.agg (witC (T.getD zWit)),bb T.isSome]) [] O:=h2
 generalize (lpR x).1 = a at *
 generalize (lpR x).2 = ps at *
 generalize (esR x).1 = o at *
 generalize (esR x).2 = es at *
 generalize T.isSome = b at *
 generalize T.getD zWit = w at *
 obtain ⟨w1,w2,w3⟩:=w
 clear h
 obtain ⟨⟨al,st,mk,eds⟩,⟨al',st',mk',eds'⟩,ob,ct⟩:=x
 refine zaU [] Tk Tryz.func14 rfl Tryz.call14 Tryz.ntmps14 (Nat.le_of_ble_eq_true rfl) fun E hE => ?_
 refine zae Tk Tryz.func14 ?_
 refine zbf Tk Tryz.func14 hE (h1 _) rfl rfl rfl rfl rfl rfl ?_
 refine gcF Tk Tryz.func14 rfl ?_
 refine zaf Tk Tryz.func14 (h2 _) rfl rfl rfl rfl rfl ?_
 refine zal Tk (r:=.tup [.agg [ints w1,ints w2,ii w3],bb (!b),ii 0]) rfl rfl rfl trivial rfl rfl ?_
 rfl
def ctlR (x:Sys) (a:Aut) (es:List (List Int)):List (List Int):=es.map fun est => x.ct.filter fun e => decide (0 < (divP a est e).length)
abbrev zCtl:D:=.agg [.i (.v (.slice none 0 0)),ii 0,.i (.v (.slice none 0 0)),.i (.v (.slice none 0 0)),.i (.v (.slice none 0 0))]
theorem zjk {g:Nat} (hg:zfx g) {ty:TypeId} {fr:Nat × Nat} (O:List Heap) (x:Sys) (h:obOk x) (ht:(zfL x).isSome = true):ASpecT g (ptab ty fr) Tryz.prog 19 [sysD x] O (.tup [zCtl,ii 26]) [] O:=by
 have h1:∀ O,ASpecT g (ptab ty fr) Tryz.prog 51 [sysD x] O (.tup [zbI x (lpR x).1 (lpR x).2 (esR x).1 (esR x).2,ii 0]) [] O:=fun O => zpj hg (ty:=ty) (fr:=fr) O x h.sm h.hx h.h64 h.hV h.hn
 have h2:=fun O => zoC O x _ _ _ _ h.tn
 have ht:(za9 x (lpR x).1 (lpR x).2 (esR x).1 (esR x).2 0).isSome = true:=ht
 simp only [ht] at h2
 generalize (za9 x (lpR x).1 (lpR x).2 (esR x).1 (esR x).2 0).getD zWit = w at *
 clear ht h
 generalize (lpR x).1 = a at *
 generalize (lpR x).2 = ps at *
 generalize (esR x).1 = o at *
 generalize (esR x).2 = es at *
 obtain ⟨w1,w2,w3⟩:=w
 obtain ⟨⟨al,st,mk,eds⟩,⟨al',st',mk',eds'⟩,ob,ct⟩:=x
 refine zaU [] Tk Tryz.func19 rfl Tryz.call19 Tryz.ntmps19 (Nat.le_of_ble_eq_true rfl) fun E hE => ?_
 refine zae Tk Tryz.func19 ?_
 refine zbf Tk Tryz.func19 hE (h1 _) rfl rfl rfl rfl rfl rfl ?_
 refine gcF Tk Tryz.func19 rfl ?_
 refine zaf Tk Tryz.func19 (h2 _) rfl rfl rfl rfl rfl ?_
 refine gcT Tk Tryz.func19 rfl ?_
 refine zal Tk (r:=.tup [zCtl,ii 26]) rfl rfl rfl trivial rfl rfl ?_
 rfl
abbrev ctlD (o:Aut) (rows:List (List Int)):D:=.agg [ints o.alpha,ii o.states,ints o.marked,edgs o.edges,.i (zdo rows)]
set_option maxHeartbeats 8000000 in
theorem zgx {g:Nat} (hg:zfx g) {ty:TypeId} {fr:Nat × Nat} (O:List Heap) (x:Sys) (h:obOk x) (ht:(zfL x).isSome = false):ASpecT g (ptab ty fr) Tryz.prog 19 [sysD x] O (.tup [ctlD (esR x).1 (ctlR x (lpR x).1 (esR x).2),ii 0]) [] O:=by
 have h1:∀ O,ASpecT g (ptab ty fr) Tryz.prog 51 [sysD x] O (.tup [zbI x (lpR x).1 (lpR x).2 (esR x).1 (esR x).2,ii 0]) [] O:=fun O => zpj hg (ty:=ty) (fr:=fr) O x h.sm h.hx h.h64 h.hV h.hn
 have h2:=fun O => zoC O x _ _ _ _ h.tn
 have ht:(za9 x (lpR x).1 (lpR x).2 (esR x).1 (esR x).2 0).isSome = false:=ht
 simp only [ht] at h2
 have hdv:=fun O est ev (hm:est ∈ (esR x).2) => zmg O x (lpR x).1 (lpR x).2 (esR x).1 (esR x).2 h.tn.st est ev (h.tn.rng est hm).2.2 (by have:=(h.tn.rng est hm).2.1; omega)
 have hdv:∀ O est ev,est ∈ (esR x).2 → zan Tryz.prog 57 [zbI x (lpR x).1 (lpR x).2 (esR x).1 (esR x).2,ints est,ii ev] O (.tup [ints (divP (lpR x).1 est ev),ints (divR x (lpR x).1 (lpR x).2 est ev)]) [] O:=hdv
 have hel:=h.tn.el
 have hctl:=h.sm.ct
 unfold ctlR
 generalize (za9 x (lpR x).1 (lpR x).2 (esR x).1 (esR x).2 0).getD zWit = w at *
 clear ht h
 generalize (lpR x).1 = a at *
 generalize (lpR x).2 = ps at *
 generalize (esR x).1 = o at *
 generalize (esR x).2 = es at *
 obtain ⟨w1,w2,w3⟩:=w
 obtain ⟨pf,hpf⟩:∃ pf:List Int → Int → Bool,pf = fun est e => decide (0 < (divP a est e).length):=⟨_,rfl⟩
 have hpe:∀ est e,decide (0 < (divP a est e).length) = pf est e:=fun est e => by rw [hpf]
 simp only [hpe]
 have hpd:∀ est e,decide (((divP a est e).length:Int) > 0) = pf est e:=fun est e => by rw [hpf]; exact decide_eq_decide.2 (by omega)
 clear hpf hpe
 obtain ⟨oal,ost,omk,oes⟩:=o
 obtain ⟨⟨al,st,mk,eds⟩,⟨al',st',mk',eds'⟩,ob,ct⟩:=x
 simp only at hctl hel
 refine zaU [19,21] Tk Tryz.func19 rfl Tryz.call19 Tryz.ntmps19 (Nat.le_of_ble_eq_true rfl) fun E hE => ?_
 refine zae Tk Tryz.func19 ?_
 refine zbf Tk Tryz.func19 hE (h1 _) rfl rfl rfl rfl rfl rfl ?_
 refine gcF Tk Tryz.func19 rfl ?_
 refine zaf Tk Tryz.func19 (h2 _) rfl rfl rfl rfl rfl ?_
 refine gcF Tk Tryz.func19 rfl ?_
 refine zap Tk Tryz.func19 (rfl) ?_
 refine zap Tk Tryz.func19 (rfl) ?_
 refine zac ?_
 refine zao (zaO 8 72 31 1 (pre:=[ints oal,ii ost,ints omk,edgs oes]) (post:=[]) rfl rfl rfl) ?_
 refine zah (fun i:Nat => [(1,.own 0 1 0 0),(2,.own 0 2 0 0),(4,zbI ⟨⟨al,st,mk,eds⟩,⟨al',st',mk',eds'⟩,ob,ct⟩ a ps ⟨oal,ost,omk,oes⟩ es),(8,.own 0 8 0 0),(40,.i (zdo es)),(41,ii es.length),(42,ii i)])
  (fun i => [(1,.box (sysC ⟨⟨al,st,mk,eds⟩,⟨al',st',mk',eds'⟩,ob,ct⟩)),(2,.box [.i (.v (.slice none 0 0)),ii 0,.i (.v (.slice none 0 0)),.i (.v (.slice none 0 0)),.i (.v (.slice none 0 0))]),(8,.box [ints oal,ii ost,ints omk,edgs oes,.osl 0 72]),(72,ze4 ((es.take i).map fun est => ct.filter (pf est)))]) (fun _ => O) 76
  (fun i => i ≤ es.length) (fun i => es.length - i) 0 (Nat.zero_le _) ⟨rfl,rfl,rfl,rfl,rfl,rfl,rfl,trivial⟩ rfl ⟨rfl,rfl,rfl,rfl,trivial⟩ rfl rfl ?_
 rintro i hi ih
 have hj0:ii (IntKind.i64.wrap ((i:Int) + 1)) = ii ((i + 1:Nat):Int):=congrArg ii (zaB (n:=5000) (by omega) (by decide))
 refine zae Tk Tryz.func19 ?_
 refine zai Tk Tryz.func19 rfl (fun g1 => ?_) (fun g1 => ?_)
 ·have hh2:i < es.length:=by simpa using g1
  have ge:(es.map fun r => [zbu r])[(i:Int).toNat]? = some [zbu es[i]]:=zaj (f:=fun r => [zbu r]) hh2
  have hm:=List.getElem_mem hh2
  have htk:=zcl (f:=fun est => ct.filter (pf est)) hh2
  have hl0:((es.take i).map fun est => ct.filter (pf est)).length = i:=by rw [List.length_map,List.length_take]; omega
  generalize es[i] = est at *
  generalize hQ:(es.take i).map (fun est => ct.filter (pf est)) = Q at *
  have hdv1:=fun O ev => hdv O est ev hm
  have hpd1:=hpd est
  generalize pf est = pf1 at *
  refine zag Tk Tryz.func19 (by exact ⟨by omega,by show (i:Int) < (es.length:Int); omega⟩) ?_
  refine zap Tk Tryz.func19 (ge) ?_
  refine zac ?_
  refine zao (zb4 11 66 3 1 rfl rfl rfl) ?_
  refine zah (fun j:Nat => [(1,.own 0 1 0 0),(2,.own 0 2 0 0),(4,zbI ⟨⟨al,st,mk,eds⟩,⟨al',st',mk',eds'⟩,ob,ct⟩ a ps ⟨oal,ost,omk,oes⟩ es),(8,.own 0 8 0 0),(40,.i (zdo es)),(41,ii es.length),(42,ii i),(10,ints est),(11,.osl 0 66),(47,ints ct),(48,ii ct.length),(49,ii j)])
   (fun j => [(1,.box (sysC ⟨⟨al,st,mk,eds⟩,⟨al',st',mk',eds'⟩,ob,ct⟩)),(2,.box [.i (.v (.slice none 0 0)),ii 0,.i (.v (.slice none 0 0)),.i (.v (.slice none 0 0)),.i (.v (.slice none 0 0))]),(8,.box [ints oal,ii ost,ints omk,edgs oes,.osl 0 72]),(72,ze4 Q),(66,zaw ((ct.take j).filter pf1))]) (fun _ => O) 76
   (fun j => j ≤ ct.length) (fun j => ct.length - j) 0 (Nat.zero_le _) ⟨rfl,rfl,rfl,rfl,rfl,rfl,rfl,rfl,rfl,rfl,rfl,rfl,trivial⟩ rfl ⟨rfl,rfl,rfl,rfl,rfl,trivial⟩ rfl rfl ?_
  rintro j hj ih2
  have hj1:ii (IntKind.i64.wrap ((j:Int) + 1)) = ii ((j + 1:Nat):Int):=congrArg ii (zaB (n:=1000001) (by omega) (by decide))
  refine zae Tk Tryz.func19 ?_
  refine zai Tk Tryz.func19 rfl (fun g2 => ?_) (fun g2 => ?_)
  ·have h3:j < ct.length:=by simpa using g2
   have gc:(ct.map fun x => [vi x])[(j:Int).toNat]? = some [vi ct[j]]:=zaj (f:=fun x => [vi x]) h3
   have htk2:ct.take (j + 1) = ct.take j ++ [ct[j]]:=List.take_succ_eq_append_getElem h3
   have hA:=zeO pf1 (ct.take j) ct[j]
   rw [← htk2] at hA
   have lA:((ct.take j).filter pf1).length ≤ 1000000:=Nat.le_trans (List.length_filter_le _ _) (by rw [List.length_take]; omega)
   generalize ct[j] = e at *
   clear htk2
   generalize (ct.take j).filter pf1 = A at *
   refine zag Tk Tryz.func19 (by exact ⟨by omega,by show (j:Int) < (ct.length:Int); omega⟩) ?_
   refine zap Tk Tryz.func19 (gc) ?_
   refine zaf Tk Tryz.func19 (hdv1 _ _) rfl rfl rfl rfl rfl ?_
   refine zai Tk Tryz.func19 rfl (fun c1 => ?_) (fun c1 => ?_)
   ·have c1:decide (((divP a est e).length:Int) > 0) = true:=c1
    rw [hpd1] at c1
    rw [if_pos c1] at hA
    refine zag Tk Tryz.func19 (by exact ⟨by show (A.length + 1) * 8 ≤ 140737488355328; omega,by show A.length + 1 ≤ 9223372036854775807; omega⟩) ?_
    refine zac ?_
    exact ih2 (j + 1) _ _ h3 (by omega) ⟨rfl,rfl,rfl,rfl,rfl,rfl,rfl,rfl,rfl,rfl,rfl,hj1,trivial⟩ rfl ⟨rfl,rfl,rfl,rfl,by rw [hA]; exact congrArg some (zaL A e),trivial⟩ rfl rfl
   ·have c1:decide (((divP a est e).length:Int) > 0) = false:=c1
    rw [hpd1] at c1
    rw [if_neg (by rw [c1]; decide),List.append_nil] at hA
    refine zac ?_
    exact ih2 (j + 1) _ _ h3 (by omega) ⟨rfl,rfl,rfl,rfl,rfl,rfl,rfl,rfl,rfl,rfl,rfl,hj1,trivial⟩ rfl ⟨rfl,rfl,rfl,rfl,by rw [hA]; rfl,trivial⟩ rfl rfl
  ·have h3:ct.length ≤ j:=by simpa using g2
   rw [List.take_of_length_le h3]
   refine zax ?_
   refine zao (zam 66 rfl rfl) ?_
   refine zae Tk Tryz.func19 ?_
   refine g_go Tk Tryz.func19 ?_
   refine zag Tk Tryz.func19 (by exact ⟨by show (Q.length + 1) * 24 ≤ 140737488355328; omega,by show Q.length + 1 ≤ 9223372036854775807; omega⟩) ?_
   refine zac ?_
   refine ih (i + 1) _ _ hh2 (by omega) ⟨rfl,rfl,rfl,rfl,rfl,rfl,hj0,trivial⟩ rfl ⟨rfl,rfl,rfl,?_,trivial⟩ rfl rfl
   rw [htk]
   exact congrArg some (zeD Q (ct.filter pf1))
 ·have hh2:es.length ≤ i:=by simpa using g1
  rw [List.take_of_length_le hh2]
  refine zax ?_
  refine zao (zam 72 rfl rfl) ?_
  refine zae Tk Tryz.func19 ?_
  refine g_go Tk Tryz.func19 ?_
  refine zal Tk (r:=.tup [ctlD ⟨oal,ost,omk,oes⟩ (es.map fun est => ct.filter (pf est)),ii 0]) rfl rfl rfl trivial rfl rfl ?_
  rfl
end Go.AI


namespace Go.AI
theorem zkb:∀ {l:List Edg} {k0 n:Nat},kOf l k0 = some n → ∀ k,k0 ≤ k → k < n → ∃ e ∈ l,e.2.2 = (k:Int) ∧ 0 ≤ e.1 ∧ e.1 < (k:Int)
 | [],k0,n,h,k,h1,h2 => by simp only [kOf,Option.some.injEq] at h; omega
 | e :: r,k0,n,h,k,h1,h2 => by
  simp only [kOf] at h
  by_cases c:(0 ≤ e.1 ∧ e.1 < k0) ∧ 0 ≤ e.2.2 ∧ e.2.2 ≤ k0
  ·rw [if_pos c] at h
   by_cases c2:e.2.2 = k0
   ·rw [if_pos c2] at h
    by_cases c3:k = k0
    ·subst c3
     exact ⟨e,by simp,c2,c.1.1,c.1.2⟩
    ·obtain ⟨e',a1,a2⟩:=zkb h k (by omega) h2
     exact ⟨e',by simp [a1],a2⟩
   ·rw [if_neg c2] at h
    obtain ⟨e',a1,a2⟩:=zkb h k h1 h2
    exact ⟨e',by simp [a1],a2⟩
  ·rw [if_neg c] at h; cases h
theorem zec:∀ {n:Nat} {l:List Int},l ∈ subs n → l.Pairwise (· < ·)
 | 0,l,h => by simp [subs] at h; subst h; exact .nil
 | n + 1,l,h => by
  rw [subs,List.mem_append] at h
  rcases h with h | h
  ·exact zec h
  ·obtain ⟨m,hm,rfl⟩:=List.mem_map.1 h
   rw [List.pairwise_append]
   refine ⟨zec hm,List.pairwise_singleton _ _,fun a ha b hb => ?_⟩
   rw [List.mem_singleton] at hb
   have:=(zbO hm).2 a ha
   omega
theorem srch {S:Type} [DecidableEq S] {V:List S} {nx:S → Int → S} {evs:S → List Int} {x0:S} {N:Nat} (h0:x0 ∈ V) (hv:∀ x ∈ V,∀ ev ∈ evs x,nx x ev ∈ V) (hN:V.length < N) :
  ∃ L:List (S × List Int),(x0,[]) ∈ L ∧ (∀ z ∈ L,∀ ev ∈ evs z.1,∃ w ∈ L,w.1 = nx z.1 ev) ∧ (∀ z ∈ L,runG nx (fun _ => true) evs x0 z.2 = some z.1) ∧ bOk V L ∧
   ∀ bad:S → Bool,bsr nx (fun _ => true) evs bad N 0 [(x0,[])] = L.find? fun z => bad z.1:=by
 have hB:=zkJ (V:=V) h0
 refine ⟨zfn nx (fun _ => true) evs N 0 [(x0,[])],(zgT nx (fun _ => true) evs N 0 [(x0,[])]).subset (by simp),?_,?_,?_,fun bad => ?_⟩
 ·intro z hz ev hev
  exact zfv (V:=V) (fun x hx ev he _ => hv x hx ev he) hN N 0 _ rfl (by simp) hB (by simp) z hz ev hev rfl
 ·exact zjF N 0 _ (by simp [runG])
 ·exact zmp (fun x hx ev he _ => hv x hx ev he) N 0 _ hB
 ·exact zmn (fun x hx ev he _ => hv x hx ev he) hN N 0 _ rfl (by simp) hB (by simp)
theorem zjq {α:Type} {p:α → Bool} {l:List α} (h:∃ x ∈ l,p x = true):∃ z,l.find? p = some z:=by
 cases e:l.find? p with
 | some z => exact ⟨z,rfl⟩
 | none =>
  obtain ⟨x,hx,hp⟩:=h
  exact absurd hp (List.find?_eq_none.1 e x hx)
section
variable {a:Aut} {n:Nat} {on:List Int} {V:Unf (List Int)}
structure prjU (a:Aut) (n:Nat) (on:List Int) (V:Unf (List Int)):Prop where
 g:gAut a n
 n0:0 < n
 hn:n ≤ 11
 hV:prjR a on n = .ok V
 hU:UAt (zcD a) (zbK a on) (estP n) (zd1 a on n) V.sts.length V
theorem zu0 (h:gAut a n) (h0:0 < n) (hn:n ≤ 11) (on:List Int):∃ V,prjU a n on V:=by
 obtain ⟨V,h1,h2⟩:=zf7 h on (by omega) h0
 exact ⟨V,h,h0,hn,h1,h2⟩
theorem prjU.fst (h:prjU a n on V):V.sts[0]? = some (clo a.edges (lowP on [] false) n [0]):=by
 have hpre:=ziK (show zby eqB false (zd1 a on n) (zcD a) (zbK a on) 4097 0 (unf0 (clo a.edges (lowP on [] false) n [0])) = .ok V from h.hV)
 obtain ⟨r,hr⟩:=hpre
 rw [← hr]
 rfl
theorem prjU.kp (h:prjU a n on V):(zbK a on).Pairwise (· < ·):=(zar (zaK h.g.c).1).1.filter _
theorem prjU.few (h:prjU a n on V):V.sts.length ≤ 2048:=by
 have:=zbl h.hU.nd (fun s hs => (h.hU.ok s hs).1)
 rw [zfy] at this
 have:2 ^ n ≤ 2 ^ 11:=Nat.pow_le_pow_right (by decide) h.hn
 omega
theorem prjU.og (h:prjU a n on V):gAut (unfA (zbK a on) V) V.sts.length:=ztz h.hU (zl6 h.g on) (by have:=h.few; omega)
theorem prjU.stp (h:prjU a n on V) {i:Nat} {E:List Int} (hE:V.sts[i]? = some E) {ev:Int} (hev:ev ∈ zbK a on) :
  (nxt a.edges (lowP on [] false) n E ev = [] ∧ stp3 V.eds i ev = -1) ∨ (nxt a.edges (lowP on [] false) n E ev ≠ [] ∧ ∃ j:Nat,stp3 V.eds i ev = (j:Int) ∧ V.sts[j]? = some (nxt a.edges (lowP on [] false) n E ev)):=by
 have hs:∀ s ev,(zd1 a on n s ev).2.1 = decide ((nxt a.edges (lowP on [] false) n s ev).length ≠ 0):=fun _ _ => rfl
 rcases zow h.hU h.kp hE hev with ⟨h1,h2⟩ | ⟨h1,h2⟩
 ·rw [hs] at h1
  have:=of_decide_eq_false h1
  exact .inl ⟨List.eq_nil_of_length_eq_zero (by omega),h2⟩
 ·rw [hs] at h1
  have:=of_decide_eq_true h1
  exact .inr ⟨fun e => this (by rw [e]; rfl),h2⟩
theorem zsr (h:prjU a n on V) {s ev:Int} (he:ev ∈ evC V.eds s):ev ∈ zbK a on ∧ 0 ≤ stp3 V.eds s ev:=by
 have hm:=ziv (zlA h.hU h.kp) he
 have h1:=h.og.ev _ hm
 have h2:=h.og.to _ hm
 exact ⟨h1,h2.1⟩
theorem zo1 (h:prjU a n on V):∀ (w:List Int) (i:Nat) (E:List Int) (s:Int),V.sts[i]? = some E → runG (stp3 V.eds) (fun _ => true) (evC V.eds) (i:Int) w = some s → (∀ e ∈ w,e ∈ zbK a on) ∧ ∃ j:Nat,s = (j:Int) ∧ V.sts[j]? = some (nxtL a.edges (lowP on [] false) n E w)
 | [],i,E,s,hE,hr => by
  simp only [runG,Option.some.injEq] at hr
  exact ⟨by simp,i,hr.symm,hE⟩
 | ev :: w,i,E,s,hE,hr => by
  simp only [runG] at hr
  by_cases c:ev ∈ evC V.eds i ∧ True
  ·rw [if_pos (by simpa using c)] at hr
   obtain ⟨h1,h2⟩:=zsr h c.1
   rcases h.stp hE h1 with ⟨_,h4⟩ | ⟨_,j,h4,h5⟩
   ·omega
   ·rw [h4] at hr
    obtain ⟨a1,j',a2,a3⟩:=zo1 h w j _ s h5 hr
    refine ⟨fun e he => ?_,j',a2,a3⟩
    rcases List.mem_cons.1 he with rfl | he
    ·exact h1
    ·exact a1 e he
  ·rw [if_neg (by simpa using c)] at hr; cases hr
theorem zjb (h:prjU a n on V) {i:Nat} {E:List Int} (hE:V.sts[i]? = some E):∃ z,obsQ (unfA (zbK a on) V) i = some z ∧ z.2.length ≤ 4096 ∧ (∀ e ∈ z.2,e ∈ zbK a on) ∧ nxtL a.edges (lowP on [] false) n (clo a.edges (lowP on [] false) n [0]) z.2 = E:=by
 have hg:=h.og
 have hfew:=h.few
 have hi:=(List.getElem?_eq_some_iff.1 hE).1
 have hpw:=zlA h.hU h.kp
 obtain ⟨L,l1,l2,l3,l4,l5⟩:=srch (V:=zil V.sts.length) (nx:=stp3 V.eds) (evs:=evC V.eds) (x0:=(0:Int)) (N:=4096) (zdw.2 (by omega)) (fun x _ ev he => zdw.2 (hg.to _ (ziv hpw he))) (by rw [zgw]; omega)
 have hall:∀ k:Nat,k < V.sts.length → ∃ z ∈ L,z.1 = (k:Int):=by
  intro k
  induction k using Nat.strongRecOn with
  | ind k ih =>
   intro hk
   by_cases hk0:k = 0
   ·subst hk0; exact ⟨_,l1,rfl⟩
   ·obtain ⟨e,he,h1,h2,h3⟩:=zkb h.hU.fr k (by omega) hk
    obtain ⟨z,hz,hz1⟩:=ih e.1.toNat (by omega) (by omega)
    have hz1:z.1 = e.1:=by omega
    have hev:e.2.1 ∈ evC V.eds z.1:=by
     rw [hz1]
     exact List.mem_map.2 ⟨e,List.mem_filter.2 ⟨he,by simp⟩,rfl⟩
    obtain ⟨w,hw,hw1⟩:=l2 z hz _ hev
    refine ⟨w,hw,?_⟩
    rw [hw1,hz1,zcP hpw he,h1]
 obtain ⟨z,hz⟩:=zjq (p:=fun z:Int × List Int => decide (z.1 = (i:Int))) (by obtain ⟨z,h1,h2⟩:=hall i hi; exact ⟨z,h1,by simpa using h2⟩)
 refine ⟨z,?_,?_,?_⟩
 ·unfold obsQ
  exact (l5 _).trans hz
 ·obtain ⟨j,hj⟩:=List.getElem?_of_mem (List.mem_of_find?_eq_some hz)
  have:=l4.wl j z hj
  have:=zeu l4
  have:=(List.getElem?_eq_some_iff.1 hj).1
  rw [zgw] at *
  omega
 ·have hr:=l3 z (List.mem_of_find?_eq_some hz)
  have hz1:z.1 = (i:Int):=by have:=List.find?_some hz; simpa using this
  obtain ⟨b1,j,b2,b3⟩:=zo1 h z.2 0 _ _ h.fst hr
  rw [hz1] at b2
  have:j = i:=by omega
  subst this
  rw [hE] at b3
  exact ⟨b1,(Option.some.inj b3).symm⟩
theorem zj9 (h:gAut a n) (h0:0 < n) (hn:n ≤ 11) {obs:List Int} (hob:∀ e ∈ obs,e ∈ on) (hol:obs.length ≤ 4096) {sts:List Int} (hs:∃ s ∈ sts,s ∈ nxtL a.edges (lowP on [] false) n (clo a.edges (lowP on [] false) n [0]) obs):∃ z,zgt a.edges on obs sts = some z:=by
 have hpw:=h.pw
 have hto:=h.to
 have hvl:(lsV n obs.length).length < 100000:=by
  rw [zj8]
  have:n * (obs.length + 1) ≤ 11 * 4097:=Nat.mul_le_mul hn (by omega)
  omega
 obtain ⟨L,l1,l2,l3,l4,l5⟩:=srch (V:=lsV n obs.length) (nx:=nxQ a.edges on) (evs:=evQ a.edges on obs) (x0:=((0,0):LS)) (N:=100000) (zic ⟨by simp; omega,by simp⟩) (fun x hx ev he => by
  have hx:=zpz hx
  obtain ⟨h1,h2⟩:=List.mem_filter.1 he
  refine zic ⟨hto _ (ziv hpw h1),?_⟩
  show 0 ≤ (if ev ∈ on then x.2 + 1 else x.2) ∧ (if ev ∈ on then x.2 + 1 else x.2) ≤ (obs.length:Int)
  by_cases c:ev ∈ on
  ·rw [if_pos c]
   unfold okQ at h2
   rw [decide_eq_true c] at h2
   simp only [Bool.not_true,Bool.false_or,decide_eq_true_eq] at h2
   have:=(List.getElem?_eq_some_iff.1 h2).1
   omega
  ·rw [if_neg c]; exact hx.2) hvl
 have hclo:∀ (k:Nat) (m:List Int),(∀ s ∈ m,∃ z ∈ L,z.1 = (s,(k:Int))) → ∀ s,Rc a.edges (lowP on [] false) m s → ∃ z ∈ L,z.1 = (s,(k:Int)):=by
  intro k m hm s hr
  induction hr with
  | base hb => exact hm _ hb
  | @step e hr he hp ih =>
   obtain ⟨z,hz,hz1⟩:=ih
   have hno:e.2.1 ∉ on:=by
    unfold lowP at hp
    simpa using hp
   obtain ⟨w,hw,hw1⟩:=l2 z hz e.2.1 (by
    rw [hz1]
    refine List.mem_filter.2 ⟨List.mem_map.2 ⟨e,List.mem_filter.2 ⟨he,by simp⟩,rfl⟩,?_⟩
    unfold okQ
    rw [decide_eq_false hno]; rfl)
   refine ⟨w,hw,?_⟩
   rw [hw1,hz1]
   show (stp3 a.edges e.1 e.2.1,if e.2.1 ∈ on then ((k:Int)) + 1 else (k:Int)) = _
   rw [if_neg hno,zcP hpw he]
 have hpre:∀ (r p:List Int),p ++ r = obs → (∀ s ∈ nxtL a.edges (lowP on [] false) n (clo a.edges (lowP on [] false) n [0]) p,∃ z ∈ L,z.1 = (s,(p.length:Int))) → ∀ s ∈ nxtL a.edges (lowP on [] false) n (clo a.edges (lowP on [] false) n [0]) obs,∃ z ∈ L,z.1 = (s,(obs.length:Int)):=by
  intro r
  induction r with
  | nil =>
   intro p hp hq
   rw [List.append_nil] at hp
   subst hp
   exact hq
  | cons c r ih =>
   intro p hp hq
   refine ih (p ++ [c]) (by rw [List.append_assoc]; exact hp) ?_
   intro s hs
   rw [zpn] at hs
   have hs:=((zid hto).1 hs).2
   have hlen:((p ++ [c]).length:Int) = ((p.length + 1:Nat):Int):=by simp
   rw [hlen]
   refine hclo (p.length + 1) _ (fun t ht => ?_) s hs
   obtain ⟨e,he,h1,h2,h3⟩:=zib.1 ht
   obtain ⟨z,hz,hz1⟩:=hq e.1 h1
   have hgc:obs[p.length]? = some c:=by rw [← hp]; simp
   have hcon:e.2.1 ∈ on:=by rw [h2]; exact hob c (by rw [← hp]; simp)
   obtain ⟨w,hw,hw1⟩:=l2 z hz e.2.1 (by
    rw [hz1]
    refine List.mem_filter.2 ⟨List.mem_map.2 ⟨e,List.mem_filter.2 ⟨he,by simp⟩,rfl⟩,?_⟩
    unfold okQ
    rw [decide_eq_true hcon]
    simp only [Int.toNat_natCast,hgc,h2,decide_true,Bool.or_true])
   refine ⟨w,hw,?_⟩
   rw [hw1,hz1]
   show (stp3 a.edges e.1 e.2.1,if e.2.1 ∈ on then ((p.length:Nat):Int) + 1 else ((p.length:Nat):Int)) = _
   rw [if_pos hcon,zcP hpw he,h3]
   simp
 obtain ⟨s,hs1,hs2⟩:=hs
 obtain ⟨z,hz,hz1⟩:=hpre obs [] rfl (fun s hs => hclo 0 [0] (fun t ht => by rw [List.mem_singleton] at ht; subst ht; exact ⟨_,l1,rfl⟩) s ((zid hto).1 hs).2) s hs2
 obtain ⟨z',hz'⟩:=zjq (p:=fun z:LS × List Int => badQ obs sts z.1) ⟨z,hz,by rw [hz1]; unfold badQ; simp [hs1]⟩
 exact ⟨z',by unfold zgt; exact (l5 _).trans hz'⟩
end
theorem ztB {x:Sys} (hx:gSys x) (hsm:smallS x) (hV:(lpV x).length ≤ 4095) (hn:(lpR x).2.length ≤ 11) (hin:∀ z ∈ (lpR x).2,0 ≤ z.1 ∧ z.1 < x.p.states):tornOk x (lpR x).1 (lpR x).2 (esR x).1 (esR x).2:=by
 obtain ⟨hg,hal⟩:=lp_g hx hV
 have hst:stOk x (lpR x).1 (lpR x).2:=⟨hx,hsm,hg,hin,by omega⟩
 obtain ⟨eg,eal,ein⟩:=es_g hx hV (by omega)
 have hsub:∀ est,est ∈ subs (lpR x).2.length → est.Pairwise (· < ·):=fun est h => zec h
 by_cases h0:(lpR x).2.length = 0
 ·have he:(esR x).2 = []:=by unfold esR; rw [if_pos h0]
  refine ⟨hst,eg,by rw [he]; simp,by omega,by rw [he]; simp,by rw [he]; simp,fun i est h => by rw [he] at h; simp at h,fun i est h => by rw [he] at h; simp at h⟩
 ·obtain ⟨V,hU⟩:=zu0 hg (by omega) hn x.ob
  have he:esR x = (unfA (zbK (lpR x).1 x.ob) V,V.sts):=by unfold esR; rw [if_neg h0,hU.hV]
  rw [he] at eg ⊢
  have hfew:=hU.few
  have hkob:∀ e ∈ zbK (lpR x).1 x.ob,e ∈ x.ob:=fun e h => by have:=(List.mem_filter.1 h).2; simpa using this
  refine ⟨hst,eg,by show V.sts.length ≤ 4095; omega,by omega,fun est h => hsub est (hU.hU.ok est h).1,fun est h => ⟨(hU.hU.ok est h).2,by have:=(zbO (hU.hU.ok est h).1).1; omega,(zbO (hU.hU.ok est h).1).2⟩,fun i est h => ?_,fun i est h sts hs h1 => ?_⟩
  ·obtain ⟨z,z1,z2,_⟩:=zjb hU h
   refine ⟨⟨z,z1⟩,?_⟩
   unfold obsW
   simp only [z1]
   exact z2
  ·obtain ⟨z,z1,z2,z3,z4⟩:=zjb hU h
   have hw:obsW (unfA (zbK (lpR x).1 x.ob) V) i = z.2:=by unfold obsW; simp only [z1]
   show ∃ z,zgt (lpR x).1.edges x.ob (obsW (unfA (zbK (lpR x).1 x.ob) V) i) sts = some z
   rw [hw]
   refine zj9 hg (by omega) hn (fun e he => hkob e (z3 e he)) z2 ?_
   cases hsts:sts with
   | nil => rw [hsts] at h1; simp at h1
   | cons s r => exact ⟨s,by simp,by rw [z4]; exact hs s (by rw [hsts]; simp)⟩
end Go.AI


namespace Go.AI
open Go.Proofs
set_option maxRecDepth 20000
end Go.AI


namespace Go.AI
open Go.Proofs
set_option maxRecDepth 20000
def back (frm:List (Int × Int)):Nat → Int × Int → List Int
 | 0,_ => []
 | f + 1,p => if p.1 < 0 then [] else p.2 :: back frm f (frm.getD p.1.toNat (-1,-1))
structure Linked (S:Srch):Prop where
 len:S.frm.length = S.sts.length
 frm:∀ k (h:k < S.frm.length),S.frm[k].1 < k
 flt:S.flt.1 < S.sts.length
 most:S.sts.length ≤ 4096
end Go.AI


namespace Go.AI
open Go.Proofs
set_option maxRecDepth 20000
end Go.AI


namespace Go.AI
open Go.Proofs
set_option maxRecDepth 20000
end Go.AI


namespace Go.AI
set_option maxRecDepth 20000
section
variable {h:Int} (h1:1 ≤ h) (h2:h ≤ 8191)
include h1 h2
variable {k:Int} (k1:0 ≤ k) (k2:k ≤ h)
omit h1 in
include k1 k2 in
include k1 k2 in
omit h1 in
include k1 k2 in
omit h1 in
include k1 k2 in
omit h1 in
include k1 k2 in
include k1 k2 in
include k1 k2 in
end
end Go.AI


namespace Go.AI
set_option maxRecDepth 20000
section
variable {H:Nat} (h1:1 ≤ H) (h2:H ≤ 8191)
include h1 h2
end
end Go.AI


namespace Go.AI
open Go.Proofs
set_option maxRecDepth 20000
theorem ASpecT.co {g:Nat} {tab:Obj} {P:Program} {f:FuncId} {args args':List D} {O O':List Heap} {res:D} {Hr:Heap} (h:ASpecT g tab P f args' O res Hr O') (hc:CoDL args args'):ASpecT g tab P f args O res Hr O':=
 fun E K ρ w vs hw ht hr => h E K ρ w vs hw ht (hc.rep hr)
end Go.AI


namespace Go.AI
open Go.Proofs
set_option maxRecDepth 20000
theorem zvQ {x:Sys} (hx:gSys x) (hV:(lpV x).length ≤ 4095):∀ z ∈ (lpR x).2,lpIn x z:=by
 unfold lpR
 by_cases h0:0 < x.p.states ∧ 0 < x.s.states
 ·obtain ⟨V,hV1,hU⟩:=zgn hx h0 (by omega)
  rw [if_pos h0,hV1]
  exact hU.ok
 ·rw [if_neg h0]
  simp
theorem zrU {x:Sys} (hx:gSys x) (hs:smallS x) (h64:x.p.states ≤ 64 ∧ x.s.states ≤ 64) (hV:(lpV x).length ≤ 4095) (hn:(lpR x).2.length ≤ 11):obOk x:=
 ⟨hs,hx,h64,hV,by omega,ztB hx hs hV hn fun z hz => (zvQ hx hV z hz).1⟩
def exP:Aut:=⟨[0,1,2],4,[0],[(0,0,1),(0,1,2),(1,2,3),(2,2,3)]⟩
def exQ:Aut:=⟨[0,1,2],4,[0],[(0,0,1),(0,1,2),(1,2,3)]⟩
abbrev exX (ob ct:List Int):Sys:=⟨exP,exQ,ob,ct⟩
theorem ex_g {ob ct:List Int} (h1:zak 32 ob none = 0) (h2:zak 32 ct none = 0) (h3:∀ e ∈ ob,e ∈ exP.alpha) (h4:∀ e ∈ ct,e ∈ exP.alpha):gSys (exX ob ct):=⟨by kernel_rfl,by kernel_rfl,rfl,h1,h2,h3,h4⟩
theorem zv6:smallA exP:=⟨by decide,by decide,by decide⟩
theorem zv5:smallA exQ:=⟨by decide,by decide,by decide⟩
theorem ex_s {ob ct:List Int} (h1:ob.length ≤ 1000000) (h2:ct.length ≤ 1000000):smallS (exX ob ct):=⟨zv6,zv5,h1,h2⟩
theorem zv3:(lpR (exX [0,1] [2])).2.length = 4:=by kernel_rfl
theorem zv2:(lpR (exX [2] [2])).2.length = 4:=by kernel_rfl
theorem zv1:(lpR (exX [2] [])).2.length = 4:=by kernel_rfl
theorem zs9:obOk (exX [0,1] [2]):=zrU (ex_g (by decide) (by decide) (by decide) (by decide)) (ex_s (by decide) (by decide)) ⟨by decide,by decide⟩ (by rw [zgo]; decide) (by rw [zv3]; decide)
theorem zvu:obOk (exX [2] [2]):=zrU (ex_g (by decide) (by decide) (by decide) (by decide)) (ex_s (by decide) (by decide)) ⟨by decide,by decide⟩ (by rw [zgo]; decide) (by rw [zv2]; decide)
theorem zvt:obOk (exX [2] []):=zrU (ex_g (by decide) (by decide) (by decide) (by decide)) (ex_s (by decide) (by decide)) ⟨by decide,by decide⟩ (by rw [zgo]; decide) (by rw [zv1]; decide)
theorem zvs:zfL (exX [0,1] [2]) = none:=by kernel_rfl
theorem zv0:zfL (exX [2] [2]) = some ([0],[1],2):=by kernel_rfl
theorem zvZ:zfL (exX [2] []) = none:=by kernel_rfl
theorem zv4:ctlR (exX [0,1] [2]) (lpR (exX [0,1] [2])).1 (esR (exX [0,1] [2])).2 = [[],[2],[]]:=by kernel_rfl
theorem zsy (O:List Heap) (l:List Edg) (hl:l.length ≤ 1000000):zan Tryz.prog 105 [edgs l] O (edgs l) [] O:=by
 refine zad Tk Tryz.func105 rfl Tryz.call105 Tryz.ntmps105 (Nat.le_of_ble_eq_true rfl) fun E => ?_
 refine zae Tk Tryz.func105 ?_
 refine zpW Tk Tryz.func105 rfl rfl fun b hb => ?_
 refine zai Tk Tryz.func105 rfl (fun h1 => ?_) (fun h1 => ?_)
 ·have hl0:l = []:=List.eq_nil_of_length_eq_zero (hb h1)
  subst hl0
  refine zb2 Tk (r:=.i (.v (.slice none 0 0))) rfl rfl rfl trivial rfl rfl ?_
  exact zfi zbZ
 ·refine zag Tk Tryz.func105 (by exact ⟨by show (0 + l.length) * 24 ≤ 140737488355328; omega,by show 0 + l.length ≤ 9223372036854775807; omega⟩) ?_
  refine zcJ (ziI (l:=[(2,.osl 0 7)]) (Hv:=[(7,.arr 117 3 (0 + l.length) ([] ++ l.map edgI) true)]) ⟨rfl,trivial⟩ rfl ⟨rfl,trivial⟩ rfl rfl) ?_
  rw [Nat.zero_add,List.nil_append]
  refine zcJ (zam 7 rfl rfl) ?_
  refine zal Tk (r:=edgs l) rfl rfl rfl trivial rfl rfl ?_
  rfl
theorem zp9 (O:List Heap) (ob:List Int):zan Tryz.prog 50 [ints ob] O (sysD (exX ob [2])) [] O:=by
 have h1:=fun O => zsy O exQ.edges (by decide)
 refine zad Tk Tryz.func50 rfl Tryz.call50 Tryz.ntmps50 (Nat.le_of_ble_eq_true rfl) fun E => ?_
 refine zae Tk Tryz.func50 ?_
 refine zag Tk Tryz.func50 (by exact ⟨by decide,by decide⟩) ?_
 refine zaf Tk Tryz.func50 (h1 _) rfl rfl rfl rfl rfl ?_
 refine zal Tk (r:=sysD (exX ob [2])) rfl rfl rfl trivial rfl rfl ?_
 rfl
theorem zuc {g:Nat} (hg:zfx g) {ty:TypeId} {fr:Nat × Nat} (O:List Heap):ASpecT g (ptab ty fr) Tryz.prog 12 [] O (bb true) [] O:=by
 have hA:=fun O => zdt hg (ty:=ty) (fr:=fr) O _ zs9
 rw [zvs] at hA
 have hB:=fun O => zdt hg (ty:=ty) (fr:=fr) O _ zvu
 rw [zv0] at hB
 have hC:=fun O => zdt hg (ty:=ty) (fr:=fr) O _ zvt
 rw [zvZ] at hC
 have hD:=fun O => zgx hg (ty:=ty) (fr:=fr) O _ zs9 (by rw [zvs]; rfl)
 rw [zv4] at hD
 obtain ⟨⟨oal,ost,omk,oes⟩,hM⟩:∃ o,o = (esR (exX [0,1] [2])).1:=⟨_,rfl⟩
 rw [← hM] at hD
 have hX:=fun O ob => zp9 O ob
 have hC:∀ O,ASpecT g (ptab ty fr) Tryz.prog 14 [.agg [ints [0,1,2],ii 4,ints [0],edgs exP.edges,ints [0,1,2],ii 4,ints [0],edgs exQ.edges,ints [2],.i (.v (.slice none 0 0))]] O _ [] O:=fun O => (hC O).co (by
  repeat' (first | refine zcR ?_ | refine zcS ?_ | refine zfi ?_ | refine CoDL.cons ?_ ?_ | exact CoDL.nil | exact zbZ | refine zdF ?_ | refine CoLL.cons ?_ ?_ | exact CoLL.nil | refine CoL.cons ?_ ?_ | exact CoL.nil | exact CoI.refl _ | exact CoL.refl _ | exact CoLL.refl _ | exact CoDL.refl _ | exact CoD.refl _)
  )
 refine zaU [] Tk Tryz.func12 rfl Tryz.call12 Tryz.ntmps12 (Nat.le_of_ble_eq_true rfl) fun E hE => ?_
 refine zae Tk Tryz.func12 ?_
 refine zaf Tk Tryz.func12 (hX _ [0,1]) rfl rfl rfl rfl rfl ?_
 refine zbf Tk Tryz.func12 hE (hA _) rfl rfl rfl rfl rfl rfl ?_
 refine zaf Tk Tryz.func12 (hX _ [2]) rfl rfl rfl rfl rfl ?_
 refine zbf Tk Tryz.func12 hE (hB _) rfl rfl rfl rfl rfl rfl ?_
 refine zaf Tk Tryz.func12 (hX _ [2]) rfl rfl rfl rfl rfl ?_
 refine zbf Tk Tryz.func12 hE (hC _) rfl rfl rfl rfl rfl rfl ?_
 refine zaf Tk Tryz.func12 (hX _ [0,1]) rfl rfl rfl rfl rfl ?_
 refine zbf Tk Tryz.func12 hE (hD _) rfl rfl rfl rfl rfl rfl ?_
 clear hA hB hC hD hX hM
 refine zaD Tk Tryz.func12 zaN rfl ?_
 refine skT Tk ?_
 refine skT Tk ?_
 refine skT Tk ?_
 refine skT Tk ?_
 refine skT Tk ?_
 refine skT Tk ?_
 refine skT Tk ?_
 refine za2 Tk (fun _ => zdD _ [0] [0] (by decide)) rfl rfl rfl ?_
 refine skT Tk ?_
 refine za2 Tk (fun _ => zdD _ [1] [1] (by decide)) rfl rfl rfl ?_
 refine skT Tk ?_
 refine skT Tk ?_
 refine skT Tk ?_
 refine zaz Tk (by exact ⟨by decide,by decide⟩) ?_
 refine zaJ Tk (rfl) ?_
 refine za2 Tk (fun _ => zdD _ [2] [2] (by decide)) rfl rfl rfl ?_
 refine skT Tk ?_
 refine zaz Tk (by exact ⟨by decide,by decide⟩) ?_
 refine zaJ Tk (rfl) ?_
 refine zaz Tk (by exact ⟨by decide,by decide⟩) ?_
 refine zaJ Tk (rfl) ?_
 refine zaS Tk Tryz.func12 (by kernel_rfl) ?_
 refine zal Tk (r:=bb true) rfl rfl rfl trivial rfl rfl ?_
 rfl
end Go.AI


namespace Go.AI
open Go.Proofs
set_option maxRecDepth 20000
structure lenS (x:Sys):Prop where
 pa:x.p.alpha.length ≤ zas
 pm:x.p.marked.length ≤ zas
 pe:x.p.edges.length ≤ zas
 sa:x.s.alpha.length ≤ zas
 sm:x.s.marked.length ≤ zas
 se:x.s.edges.length ≤ zas
 ob:x.ob.length ≤ zas
 ct:x.ct.length ≤ zas
end Go.AI


namespace Go.Proofs.YtlcekmemdnjjbaaGreatDoor
open Go.ChangeShapes Go.WideShapes Go.ChangeAt Go.RowKit
set_option maxRecDepth 100000
theorem Tryz.own:ownKnob Tryz.prog.godebug = none:=by kernel_rfl
theorem powG : Tryz.prog.globalNamed "internal/strconv.uint64pow10" = some 0 := by kernel_rfl
theorem zvh:AI.zfx 0:=fun _ _ _ h => AI.zrk powG h
theorem zjK {W : World} (h : laidMetH Tryz.prog [("math/bits.deBruijn32tab", Rows.laid_math_bits_deBruijn32tab), ("math/bits.deBruijn64tab", Rows.laid_math_bits_deBruijn64tab), ("internal/strconv.uint64pow10", Rows.laid_internal_strconv_uint64pow10)] W) :
  ∃ ty fr,W.heap[0]? = some (AI.ptab ty fr):=by
 rw [MakeChecks.laidMetH_plain _ _ _ (by kernel_rfl)] at h
 have h3:=laidMet.tail (laidMet.tail h)
 have hT : Lib.TabIs Tryz.prog W "internal/strconv.uint64pow10" .u64 Lib.pow10Tab :=
  Lib.tabIs_of_head (t:=312) (e:=277) (n:=20) powG (by kernel_rfl) (by kernel_rfl) (by kernel_rfl) (by kernel_rfl) (by kernel_rfl) (rest:=[]) h3
 unfold Lib.TabIs World.var? at hT
 rw [powG] at hT
 simp only [Option.bind_some] at hT
 cases hc:W.heap[0]? with
 | none => rw [hc] at hT; cases hT
 | some o =>
  rw [hc] at hT
  cases o with
  | cells cs ty fr =>
   simp only [Option.some.injEq] at hT
   subst hT
   exact ⟨ty,fr,rfl⟩
  | _ => cases hT
theorem zsA {f:FuncId} {args:List AI.D} {vs:List Value} {b:Bool} {W:World} {ty:TypeId} {fr:Nat × Nat} (h0:W.heap[0]? = some (AI.ptab ty fr))
  (hcall:∀ a w,(callFunc f a).run Tryz.prog w = .ok (.enter f a) w) (hs:AI.ASpecT 0 (AI.ptab ty fr) Tryz.prog f args [] (AI.bb b) [] [])
  {K:AI.Kn} (hK:∀ bl o x,K bl o = some x → W.cell? ⟨bl,o,none⟩ = some x) (hr:∀ ρ sh,AI.RepDL K ρ sh vs args) :
  Calls Tryz.prog f vs.toArray W fun e W' => e = .returned (.bool b) ∧ (∀ i,i < W.heap.size → W'.heap[i]? = W.heap[i]?) ∧ W'.os = W.os ∧ W'.output = W.output:=by
 let ρ:Nat → Nat → AI.Loc:=fun _ _ => ⟨0,0,none⟩
 have hobj:∀ d n,AI.zaa [] d n = none:=fun d n => by simp [AI.zaa]
 have hI:AI.HInv (AI.Env.of K ρ W) K ρ [] W:=
  ⟨hK,(fun d n ob e => absurd ((hobj d n).symm.trans e) (by simp)),(fun d n ob d' n' ob' e => absurd ((hobj d n).symm.trans e) (by simp)),Nat.le_refl _,fun _ _ _ => rfl,(fun n ob e => absurd ((hobj 0 n).symm.trans e) (by simp)),fun _ => rfl,fun _ _ _ h => h,fun _ _ _ h => .inl h,rfl,rfl,rfl⟩
 have ht:AI.TabQ 0 (AI.ptab ty fr) [] ρ W:=⟨h0,fun d n x e => by simp [AI.shape,hobj] at e⟩
 rcases hs _ K ρ W vs hI ht (hr _ _) with ⟨_,h⟩ | ⟨v,w',h,_⟩
 ·refine h.mono fun e W' => ?_
  rintro ⟨v,rfl,K',ρ',h1,h2⟩
  obtain rfl:=AI.zaM h2
  refine ⟨rfl,fun i hi => h1.old i hi fun d n ob e => ?_,h1.rest.2.1,h1.rest.2.2⟩
  simp [AI.zaa] at e
 ·rw [hcall] at h
  cases h
theorem zuf {W W':World} {P:MemPlace → Prop} (h:∀ i,i < W.heap.size → W'.heap[i]? = W.heap[i]?) (h1:W'.os = W.os) (h2:W'.output = W.output):W.keptBut W' P:=by
 refine ⟨h1,h2,fun i hi => ?_⟩
 rw [h i hi]
 exact (World.keptBut_refl W P).2.2 i hi
end Go.Proofs.YtlcekmemdnjjbaaGreatDoor
