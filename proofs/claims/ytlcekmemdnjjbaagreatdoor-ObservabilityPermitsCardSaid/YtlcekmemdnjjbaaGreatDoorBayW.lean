/- The layer of abstract runs, part 23. -/
import Derived.Test.YtlcekmemdnjjbaaGreatDoorBayV
import Derived.Shelf.Strings.Builder1
import Derived.Deep.Heap
import Derived.Sort.Grow
import Derived.Deep.Draws
import Derived.KernelRfl
set_option linter.unusedSimpArgs false
set_option linter.unusedVariables false
set_option linter.all false

set_option maxHeartbeats 4000000
namespace Go.AI
open Go.Proofs
set_option maxRecDepth 20000
abbrev edgD (e:Edg):D:=.agg [ii e.1,ii e.2.1,ii e.2.2]
def fndE (l:List Edg) (s:Int):Bool:=match l[lowE l s]? with
 | some e => e.1 - s == 0
 | none => false
theorem zt8 {l:List Edg} {s:Int} {i:Nat} (hi:i ≤ l.length) (h1:∀ k (h:k < l.length),k < i → l[k].1 < s) (h2:∀ k (h:k < l.length),i ≤ k → s ≤ l[k].1):lowE l s = i:=by
 rcases Nat.lt_trichotomy (lowE l s) i with h | h | h
 ·have hl:lowE l s < l.length:=by omega
  have a:=h1 _ hl h
  have h0:decide (s ≤ (l[lowE l s]).1) = true:=List.findIdx_getElem (p:=fun e:Edg => decide (s ≤ e.1)) (w:=hl)
  have h0:=of_decide_eq_true h0
  omega
 ·exact h
 ·have hl:i < l.length:=by have:=zej l s; omega
  have a:=zgm h hl
  have b:=h2 _ hl (Nat.le_refl _)
  omega
theorem zgP (O:List Heap) (l:List Int) (n:Int) (hl:l.length ≤ zas):zao Tryz.prog 112 [ints l,ii n] O (ii (zal n l none)) [] O:=by
 generalize hR:zal n l none = R
 refine zat [6,8] Tk Tryz.func112 rfl Tryz.call112 Tryz.ntmps112 (Nat.le_of_ble_eq_true rfl) fun E => ?_
 refine zae Tk Tryz.func112 ?_
 refine zac ?_
 refine zah (fun x:Nat × Option Int => [(0,ints l),(1,ii n),(7,ints l),(8,ii l.length),(9,ii x.1)]) (fun _ => []) (fun _ => O) 35
  (fun x => x.1 ≤ l.length ∧ zal n (l.drop x.1) x.2 = R ∧ ((x.1 = 0 ∧ x.2 = none) ∨ ∃ h:0 < x.1 ∧ x.1 - 1 < l.length,x.2 = some (l[x.1 - 1]'h.2))) (fun x => l.length - x.1) (0,none) ⟨Nat.zero_le _,hR,.inl ⟨rfl,rfl⟩⟩ ⟨rfl,rfl,rfl,rfl,rfl,trivial⟩ rfl trivial rfl rfl ?_
 rintro ⟨i,prev⟩ ⟨hi,hno,hp⟩ ih
 simp only at hi hno hp
 clear hR
 refine zae Tk Tryz.func112 ?_
 refine zai Tk Tryz.func112 rfl (fun g1 => ?_) (fun g1 => ?_)
 ·have h1:i < l.length:=by simpa using g1
  have gl:(l.map fun x => [vi x])[(i:Int).toNat]? = some [vi l[i]]:=zaj (f:=fun x => [vi x]) h1
  have dl:l.drop i = l[i] :: l.drop (i + 1):=List.drop_eq_getElem_cons h1
  rw [dl] at hno
  simp only [zal] at hno
  clear dl
  have hi1:ii (IntKind.i64.wrap ((i:Int) + 1)) = ii ((i + 1:Nat):Int):=congrArg ii (zaD h1 hl)
  have hnext:(i + 1 = 0 ∧ some l[i] = none) ∨ ∃ h:0 < i + 1 ∧ i + 1 - 1 < l.length,some l[i] = some (l[i + 1 - 1]'h.2):=.inr ⟨⟨by omega,by omega⟩,rfl⟩
  generalize hx:l[i] = x at *
  refine zag Tk Tryz.func112 (by exact ⟨by omega,by show (i:Int) < (l.length:Int); omega⟩) ?_
  refine zap Tk Tryz.func112 (gl) ?_
  apply zbS (P:=¬ (x < 0 ∨ x ≥ n)) (s6:={ σ:=[(0,ints l),(1,ii n),(5,ii i),(6,ii x),(7,ints l),(8,ii l.length),(9,ii i)],S:=[] :: O,n:=35 })
  ·intro J
   refine zaR Tk Tryz.func112 rfl (fun c1 => ?_) (fun c1 => ?_)
   ·have c1:x < 0:=of_decide_eq_true c1
    rw [if_pos (.inl c1)] at hno
    subst hno
    refine gcT Tk Tryz.func112 rfl ?_
    refine zak Tk (r:=ii 2) rfl rfl rfl trivial rfl rfl ?_
    rfl
   have c1:¬ x < 0:=of_decide_eq_false c1
   refine zai Tk Tryz.func112 rfl (fun c2 => ?_) (fun c2 => ?_)
   ·have c2:x ≥ n:=of_decide_eq_true c2
    rw [if_pos (.inr c2)] at hno
    subst hno
    refine zak Tk (r:=ii 2) rfl rfl rfl trivial rfl rfl ?_
    rfl
   have c2:¬ x ≥ n:=of_decide_eq_false c2
   refine zav ?_
   refine zaz (J (by rintro (h | h); exact c1 h; exact c2 h)) ⟨rfl,rfl,rfl,rfl,rfl,rfl,rfl,trivial⟩ rfl trivial rfl rfl
  ·intro hc
   rw [if_neg hc] at hno
   refine zae Tk Tryz.func112 ?_
   refine g_go Tk Tryz.func112 ?_
   rcases hp with ⟨h0,hpr⟩ | ⟨hp1,hpr⟩
   ·rw [hpr] at hno
    rw [if_neg (by simp)] at hno
    refine zaR Tk Tryz.func112 rfl (fun c3 => ?_) (fun c3 => ?_)
    ·have c3:(i:Int) > 0:=of_decide_eq_true c3
     omega
    refine gcF Tk Tryz.func112 rfl ?_
    refine zav ?_
    refine zae Tk Tryz.func112 ?_
    refine g_go Tk Tryz.func112 ?_
    refine zac ?_
    exact ih (i + 1,some x) _ _ ⟨h1,hno,hnext⟩ (by simp only; omega) ⟨rfl,rfl,rfl,rfl,hi1,trivial⟩ rfl trivial rfl rfl
   ·have gp:(l.map fun x => [vi x])[(IntKind.i64.wrap ((i:Int) - 1)).toNat]? = some [vi (l[i - 1]'hp1.2)]:=by
     rw [w64 (by omega) (by simp only [zas] at hl; omega),show ((i:Int) - 1).toNat = i - 1 by omega]
     rw [List.getElem?_map,List.getElem?_eq_getElem hp1.2]
     rfl
    have hwp:IntKind.i64.wrap ((i:Int) - 1) = (i:Int) - 1:=w64 (by omega) (by simp only [zas] at hl; omega)
    generalize l[i - 1]'hp1.2 = y at *
    refine zaR Tk Tryz.func112 rfl (fun c3 => ?_) (fun c3 => ?_)
    rotate_left
    ·have c3:¬ (i:Int) > 0:=of_decide_eq_false c3
     omega
    refine zag Tk Tryz.func112 (by rw [hwp]; exact ⟨by omega,by show (i:Int) - 1 < (l.length:Int); omega⟩) ?_
    refine zap Tk Tryz.func112 (gp) ?_
    rw [hpr] at hno
    refine zai Tk Tryz.func112 rfl (fun c4 => ?_) (fun c4 => ?_)
    ·have c4:x ≤ y:=of_decide_eq_true c4
     rw [if_pos (by simpa using c4)] at hno
     subst hno
     refine zak Tk (r:=ii 5) rfl rfl rfl trivial rfl rfl ?_
     rfl
    have c4:¬ x ≤ y:=of_decide_eq_false c4
    rw [if_neg (by simpa using c4)] at hno
    refine zav ?_
    refine zae Tk Tryz.func112 ?_
    refine g_go Tk Tryz.func112 ?_
    refine zac ?_
    exact ih (i + 1,some x) _ _ ⟨h1,hno,hnext⟩ (by simp only; omega) ⟨rfl,rfl,rfl,rfl,hi1,trivial⟩ rfl trivial rfl rfl
 ·have h1:l.length ≤ i:=by simpa using g1
  rw [List.drop_eq_nil_of_le h1] at hno
  simp only [zal] at hno
  subst hno
  refine zak Tk (r:=ii 0) rfl rfl rfl trivial rfl rfl ?_
  rfl
end Go.AI


namespace Go.AI
open Go.Proofs
set_option maxRecDepth 20000
theorem ziA (O:List Heap) (a:Aut) (hl:a.edges.length ≤ zas) (hal:a.alpha.length ≤ zas):zao Tryz.prog 113 [autD a] O (ii (zcA a.alpha a.states none a.edges)) [] O:=by
 obtain ⟨al,n,mk,es⟩:=a
 simp only at hl hal ⊢
 generalize hR:zcA al n none es = R
 refine zad Tk Tryz.func113 rfl Tryz.call113 Tryz.ntmps113 (Nat.le_of_ble_eq_true rfl) fun E => ?_
 refine zae Tk Tryz.func113 ?_
 refine zac ?_
 refine zah (fun x:Nat × Option Edg => [(1,.own 0 1 0 0),(7,edgs es),(8,ii es.length),(9,ii x.1)]) (fun _ => [(1,.box [ints al,ii n,ints mk,edgs es])]) (fun _ => O) 72
  (fun x => x.1 ≤ es.length ∧ zcA al n x.2 (es.drop x.1) = R ∧ ((x.1 = 0 ∧ x.2 = none) ∨ ∃ h:0 < x.1 ∧ x.1 - 1 < es.length,x.2 = some (es[x.1 - 1]'h.2))) (fun x => es.length - x.1) (0,none) ⟨Nat.zero_le _,hR,.inl ⟨rfl,rfl⟩⟩ ⟨rfl,rfl,rfl,rfl,trivial⟩ rfl ⟨rfl,trivial⟩ rfl rfl ?_
 rintro ⟨i,prev⟩ ⟨hi,hno,hp⟩ ih
 simp only at hi hno hp
 clear hR
 refine zae Tk Tryz.func113 ?_
 refine zai Tk Tryz.func113 rfl (fun g1 => ?_) (fun g1 => ?_)
 ·have h1:i < es.length:=by simpa using g1
  have ge:(es.map edgI)[(i:Int).toNat]? = some (edgI es[i]):=zaj h1
  have dl:es.drop i = es[i] :: es.drop (i + 1):=List.drop_eq_getElem_cons h1
  rw [dl] at hno
  simp only [zcA] at hno
  clear dl
  have hi1:ii (IntKind.i64.wrap ((i:Int) + 1)) = ii ((i + 1:Nat):Int):=congrArg ii (zaD h1 hl)
  have hnext:(i + 1 = 0 ∧ some es[i] = none) ∨ ∃ h:0 < i + 1 ∧ i + 1 - 1 < es.length,some es[i] = some (es[i + 1 - 1]'h.2):=.inr ⟨⟨by omega,by omega⟩,rfl⟩
  have hcn:=zaV (l:=al) (x:=es[i].2.1) (hl:=hal)
  generalize hx:es[i] = x at *
  obtain ⟨xf,xe,xt⟩:=x
  simp only at hno hcn
  refine zag Tk Tryz.func113 (by exact ⟨by omega,by show (i:Int) < (es.length:Int); omega⟩) ?_
  refine zap Tk Tryz.func113 (ge) ?_
  refine zaR Tk Tryz.func113 rfl (fun c1 => ?_) (fun c1 => ?_)
  ·have c1:xf < 0:=of_decide_eq_true c1
   rw [if_pos (.inl c1)] at hno
   subst hno
   repeat (first | refine gcT Tk Tryz.func113 rfl ?_ | refine gkT Tk Tryz.func113 rfl ?_ | refine skT Tk ?_ | refine gcF Tk Tryz.func113 rfl ?_ | refine gkF Tk Tryz.func113 rfl ?_ | refine skF Tk ?_)
   refine zak Tk (r:=ii 2) rfl rfl rfl trivial rfl rfl ?_
   rfl
  have c1:¬ xf < 0:=of_decide_eq_false c1
  refine zaR Tk Tryz.func113 rfl (fun c2 => ?_) (fun c2 => ?_)
  ·have c2:xf ≥ n:=of_decide_eq_true c2
   rw [if_pos (.inr (.inl c2))] at hno
   subst hno
   repeat (first | refine gcT Tk Tryz.func113 rfl ?_ | refine gkT Tk Tryz.func113 rfl ?_ | refine skT Tk ?_ | refine gcF Tk Tryz.func113 rfl ?_ | refine gkF Tk Tryz.func113 rfl ?_ | refine skF Tk ?_)
   refine zak Tk (r:=ii 2) rfl rfl rfl trivial rfl rfl ?_
   rfl
  have c2:¬ xf ≥ n:=of_decide_eq_false c2
  refine zaR Tk Tryz.func113 rfl (fun c3 => ?_) (fun c3 => ?_)
  ·have c3:xt < 0:=of_decide_eq_true c3
   rw [if_pos (.inr (.inr (.inl c3)))] at hno
   subst hno
   refine gcT Tk Tryz.func113 rfl ?_
   refine zak Tk (r:=ii 2) rfl rfl rfl trivial rfl rfl ?_
   rfl
  have c3:¬ xt < 0:=of_decide_eq_false c3
  refine zai Tk Tryz.func113 rfl (fun c4 => ?_) (fun c4 => ?_)
  ·have c4:xt ≥ n:=of_decide_eq_true c4
   rw [if_pos (.inr (.inr (.inr c4)))] at hno
   subst hno
   refine zak Tk (r:=ii 2) rfl rfl rfl trivial rfl rfl ?_
   rfl
  have c4:¬ xt ≥ n:=of_decide_eq_false c4
  rw [if_neg (by omega)] at hno
  refine zaf Tk Tryz.func113 (hcn _) rfl rfl rfl rfl rfl ?_
  refine zai Tk Tryz.func113 rfl (fun c5 => ?_) (fun c5 => ?_)
  ·have c5:decide (xe ∈ al) = false:=notT c5
   have c5:xe ∉ al:=of_decide_eq_false c5
   rw [if_pos c5] at hno
   subst hno
   refine zak Tk (r:=ii 9) rfl rfl rfl trivial rfl rfl ?_
   rfl
  have c5:decide (xe ∈ al) = true:=notF c5
  have c5:xe ∈ al:=of_decide_eq_true c5
  rw [if_neg (by simpa using c5)] at hno
  rcases hp with ⟨h0,hpr⟩ | ⟨hp1,hpr⟩
  ·rw [hpr,if_neg (by simp)] at hno
   refine zai Tk Tryz.func113 rfl (fun c6 => ?_) (fun c6 => ?_)
   rotate_left
   ·have c6:(i:Int) ≠ 0:=beqF c6
    omega
   refine zac ?_
   exact ih (i + 1,some (xf,xe,xt)) _ _ ⟨h1,hno,hnext⟩ (by simp only; omega) ⟨rfl,rfl,rfl,hi1,trivial⟩ rfl ⟨rfl,trivial⟩ rfl rfl
  ·have gp:(es.map edgI)[(IntKind.i64.wrap ((i:Int) - 1)).toNat]? = some (edgI (es[i - 1]'hp1.2)):=by
    rw [w64 (by omega) (by simp only [zas] at hl; omega),show ((i:Int) - 1).toNat = i - 1 by omega]
    rw [List.getElem?_map,List.getElem?_eq_getElem hp1.2]
    rfl
   have hwp:IntKind.i64.wrap ((i:Int) - 1) = (i:Int) - 1:=w64 (by omega) (by simp only [zas] at hl; omega)
   rw [hpr] at hno
   generalize es[i - 1]'hp1.2 = y at *
   obtain ⟨yf,ye,yt⟩:=y
   simp only [Option.any_some,decide_eq_true_eq] at hno
   refine zai Tk Tryz.func113 rfl (fun c6 => ?_) (fun c6 => ?_)
   ·have c6:(i:Int) = 0:=beqT c6
    omega
   refine zag Tk Tryz.func113 (by rw [hwp]; exact ⟨by omega,by show (i:Int) - 1 < (es.length:Int); omega⟩) ?_
   refine zap Tk Tryz.func113 (gp) ?_
   refine zaR Tk Tryz.func113 rfl (fun c7 => ?_) (fun c7 => ?_)
   ·have c7:xf < yf:=of_decide_eq_true c7
    rw [if_pos (.inl c7)] at hno
    subst hno
    refine gcT Tk Tryz.func113 rfl ?_
    refine zak Tk (r:=ii 5) rfl rfl rfl trivial rfl rfl ?_
    rfl
   have c7:¬ xf < yf:=of_decide_eq_false c7
   refine zaR Tk Tryz.func113 rfl (fun c8 => ?_) (fun c8 => ?_)
   ·have c8:xf = yf:=beqT c8
    refine zai Tk Tryz.func113 rfl (fun c9 => ?_) (fun c9 => ?_)
    ·have c9:xe ≤ ye:=of_decide_eq_true c9
     rw [if_pos (.inr ⟨c8,c9⟩)] at hno
     subst hno
     refine zak Tk (r:=ii 5) rfl rfl rfl trivial rfl rfl ?_
     rfl
    ·have c9:¬ xe ≤ ye:=of_decide_eq_false c9
     rw [if_neg (by omega)] at hno
     refine zac ?_
     exact ih (i + 1,some (xf,xe,xt)) _ _ ⟨h1,hno,hnext⟩ (by simp only; omega) ⟨rfl,rfl,rfl,hi1,trivial⟩ rfl ⟨rfl,trivial⟩ rfl rfl
   ·have c8:xf ≠ yf:=beqF c8
    rw [if_neg (by omega)] at hno
    refine gcF Tk Tryz.func113 rfl ?_
    refine zac ?_
    exact ih (i + 1,some (xf,xe,xt)) _ _ ⟨h1,hno,hnext⟩ (by simp only; omega) ⟨rfl,rfl,rfl,hi1,trivial⟩ rfl ⟨rfl,trivial⟩ rfl rfl
 ·have h1:es.length ≤ i:=by simpa using g1
  rw [List.drop_eq_nil_of_le h1] at hno
  simp only [zcA] at hno
  subst hno
  refine zak Tk (r:=ii 0) rfl rfl rfl trivial rfl rfl ?_
  rfl
theorem zeU (O:List Heap) (a:Aut) (hl:a.edges.length ≤ zas) (hal:a.alpha.length ≤ zas) (hmk:a.marked.length ≤ zas):zao Tryz.prog 61 [autD a] O (ii (chkA a)) [] O:=by
 have h1:=fun O => zgP O a.alpha 32 hal
 have h2:=fun O => zgP O a.marked a.states hmk
 have h3:=fun O => ziA O a hl hal
 generalize hR:chkA a = R
 unfold chkA at hR
 generalize zal 32 a.alpha none = e1 at *
 generalize zal a.states a.marked none = e2 at *
 generalize zcA a.alpha a.states none a.edges = e3 at *
 obtain ⟨al,n,mk,es⟩:=a
 simp only at hR h1 h2 h3
 refine zad Tk Tryz.func61 rfl Tryz.call61 Tryz.ntmps61 (Nat.le_of_ble_eq_true rfl) fun E => ?_
 refine zae Tk Tryz.func61 ?_
 refine zaf Tk Tryz.func61 (h1 _) rfl rfl rfl rfl rfl ?_
 refine zai Tk Tryz.func61 rfl (fun c1 => ?_) (fun c1 => ?_)
 ·have c1:e1 ≠ 0:=bneT c1
  rw [if_pos c1] at hR
  subst hR
  refine zak Tk (r:=ii e1) rfl rfl rfl trivial rfl rfl ?_
  rfl
 have c1:e1 = 0:=bneF c1
 rw [if_neg (by simpa using c1)] at hR
 refine zai Tk Tryz.func61 rfl (fun c2 => ?_) (fun c2 => ?_)
 ·have c2:n < 0:=of_decide_eq_true c2
  rw [if_pos c2] at hR
  subst hR
  refine zak Tk (r:=ii 2) rfl rfl rfl trivial rfl rfl ?_
  rfl
 have c2:¬ n < 0:=of_decide_eq_false c2
 rw [if_neg c2] at hR
 refine zai Tk Tryz.func61 rfl (fun c3 => ?_) (fun c3 => ?_)
 ·have c3:n > 4096:=of_decide_eq_true c3
  rw [if_pos c3] at hR
  subst hR
  refine zak Tk (r:=ii 3) rfl rfl rfl trivial rfl rfl ?_
  rfl
 have c3:¬ n > 4096:=of_decide_eq_false c3
 rw [if_neg c3] at hR
 refine zaf Tk Tryz.func61 (h2 _) rfl rfl rfl rfl rfl ?_
 refine zai Tk Tryz.func61 rfl (fun c4 => ?_) (fun c4 => ?_)
 ·have c4:e2 ≠ 0:=bneT c4
  rw [if_pos c4] at hR
  subst hR
  refine zak Tk (r:=ii e2) rfl rfl rfl trivial rfl rfl ?_
  rfl
 have c4:e2 = 0:=bneF c4
 rw [if_neg (by simpa using c4)] at hR
 subst hR
 refine zaf Tk Tryz.func61 (h3 _) rfl rfl rfl rfl rfl ?_
 refine zak Tk (r:=ii e3) rfl rfl rfl trivial rfl rfl ?_
 rfl
end Go.AI


namespace Go.Proofs
open Go.Shelf Go.RowKit
variable {P:Program} {ρ:Ren}
theorem zgv {w:World} {b:Nat} {p q v:Value} {T:TypeId} (h:w.heap[b]? = some (.cells #[p,v] T (0,0))):(w.setCell ⟨b,0,none⟩ q).heap[b]? = some (.cells #[q,v] T (0,0)):=by
 show (Array.modify _ _ _)[b]? = _
 rw [Array.getElem?_modify,if_pos rfl,h]
 rfl
theorem zpS {w:World} {b:Nat} {p q v:Value} {T:TypeId} (h:w.heap[b]? = some (.cells #[p,v] T (0,0))):(w.setCell ⟨b,1,none⟩ q).heap[b]? = some (.cells #[p,q] T (0,0)):=by
 show (Array.modify _ _ _)[b]? = _
 rw [Array.getElem?_modify,if_pos rfl,h]
 rfl
theorem znA {w w':World} {e:TypeId} {v:Value} {n:Nat} {xs:List Value} (h:w.ownsRow 0 e 1 v n xs) (hb:∀ k,v.ownBlock = some k → w'.heap[k]? = w.heap[k]?):w'.ownsRow 0 e 1 v n xs:=by
 refine ⟨h.1,?_⟩
 rcases h.2 with h1 | ⟨g,cap,cur,rfl,h2,h3,h4⟩
 ·exact .inl h1
 ·exact .inr ⟨g,cap,cur,rfl,h2,by rw [hb g rfl]; exact h3,h4⟩
section
variable (w:World)
def ziF (w:World) (v v':Value):Prop:=v'.ownBlock = v.ownBlock ∨ ∀ k,v'.ownBlock = some k → w.heap.size ≤ k
theorem zg4 (t u ty e:TypeId) (i:TypeInfo) (ht:P.underlying t = some (.slice e)) (hu:P.underlying u = some .string) (hi:P.info? e = some i) (hz:i.zero = some (.int .u8 0))
  (hsize:i.size = 1) (hby:i.bytes = 1) (v:Value) (n:Nat) (xs:List Value) (hown:w.ownsRow 0 e 1 v n xs) (s:ByteArray) (h63:n + s.size ≤ maxLen) (hbytes:n + s.size ≤ 140737488355328) :
  ∃ v' w',(Builtin.append_ #[t,u] ty #[v,.string s]).run P w = .ok v' w' ∧ w'.ownsRow 0 e 1 v' (n + s.size) (xs ++ Lib.strCells s) ∧ w.grownBy w' v.ownBlock ∧ ziF w v v':=by
 obtain ⟨v',w',hr,h2,h3,-⟩:=Lib.run_append_own_string (P:=P) w 0 t u ty e i ht hu hi hz hsize hby v n xs hown s h63 hbytes (Nat.zero_le _)
 refine ⟨v',w',hr,h2,h3,?_⟩
 have hxl:xs.length = n:=by simpa using hown.1
 rcases hown.2 with ⟨rfl,rfl⟩ | ⟨g,cap,cur,rfl,hbg,hg,hnc,hcm,hcs,htake⟩
 ·obtain rfl:xs = []:=List.eq_nil_of_length_eq_zero hxl
  obtain ⟨v2,w2,hr2,h5,-⟩:=Lib.run_append_own_string (P:=P) w w.heap.size t u ty e i ht hu hi hz hsize hby (.slice none 0 0) 0 [] (World.ownsRow_nil w _ e 1) s h63 hbytes (Nat.le_refl _)
  have e1:v' = v2:=by have:=hr.symm.trans hr2; injection this
  subst e1
  exact .inr fun k hk => (h5.lt k hk).1
 ·by_cases hroom:n + s.size ≤ cap
  ·have hr2:=Lib.run_append_room_string (P:=P) w t u ty e i ht hu hi hsize g n cap cur hg s hroom (by omega)
   have e1:v' = .slice (some ⟨g,0,none⟩) (n + s.size) cap:=by have:=hr.symm.trans hr2; injection this
   subst e1
   exact .inl rfl
  ·have holds:∀ j u,xs[j]? = some u → w.cell? ((⟨g,0,none⟩:Addr).add j) = some u:=hown.cells (g:=g) rfl
   have hr2:=Lib.run_append_grow_string (P:=P) w t u ty e i (.int .u8 0) ht hu hi hz ⟨g,0,none⟩ n cap xs (by rw [hsize]; simpa using hxl) holds s (by omega) (by simp only [maxLen] at h63; omega) (by rw [hby]; exact growslice_fits (by omega) (by omega))
   have e1:v' = .slice (some ⟨w.heap.size,0,none⟩) (n + s.size) (grownCap w (n + s.size) cap e):=by have:=hr.symm.trans hr2; injection this
   subst e1
   exact .inr fun k hk => by simp [Value.ownBlock] at hk; omega
theorem zg5 (t ty e:TypeId) (i:TypeInfo) (ht:P.underlying t = some (.slice e)) (hi:P.info? e = some i) (hz:i.zero = some (.int .u8 0))
  (hsize:i.size = 1) (hby:i.bytes = 1) (v:Value) (n:Nat) (xs:List Value) (hown:w.ownsRow 0 e 1 v n xs)
  (a:Addr) (m c:Nat) (news:List Value) (hl:news.length = m * 1) (hnews:∀ j u,news[j]? = some u → w.cell? (a.add j) = some u) (h1:∀ u ∈ news,u.oneCell' = true)
  (h63:n + m ≤ maxLen) (hbytes:(n + m) * 1 ≤ 140737488355328) :
  ∃ v' w',(Builtin.append_ #[t,t] ty #[v,.slice (some a) m c]).run P w = .ok v' w' ∧ w'.ownsRow 0 e 1 v' (n + m) (xs ++ news) ∧ w.grownBy w' v.ownBlock ∧ ziF w v v':=by
 obtain ⟨v',w',hr,h2,h3,-⟩:=run_append_own (P:=P) w 0 t ty e i (.int .u8 0) 1 1 ht hi hz hsize hby rfl (by decide) v n xs hown a m c news hl hnews h1 h63 hbytes (Nat.zero_le _)
 refine ⟨v',w',hr,h2,h3,?_⟩
 have hxl:xs.length = n:=by simpa using hown.1
 rcases hown.2 with ⟨rfl,rfl⟩ | ⟨g,cap,cur,rfl,hbg,hg,hnc,hcm,hcs,htake⟩
 ·obtain rfl:xs = []:=List.eq_nil_of_length_eq_zero hxl
  obtain ⟨v2,w2,hr2,h5,-⟩:=run_append_own (P:=P) w w.heap.size t ty e i (.int .u8 0) 1 1 ht hi hz hsize hby rfl (by decide) (.slice none 0 0) 0 [] (World.ownsRow_nil w _ e 1) a m c news hl hnews h1 h63 hbytes (Nat.le_refl _)
  have e1:v' = v2:=by have:=hr.symm.trans hr2; injection this
  subst e1
  exact .inr fun k hk => (h5.lt k hk).1
 ·by_cases hroom:n + m ≤ cap
  ·have hr2:=run_append_room (P:=P) w t ty e i ht hi g n cap cur hg a m c news (by rw [hsize]; exact hl) hnews h1 hroom (by rw [hsize]; omega)
   have e1:v' = .slice (some ⟨g,0,none⟩) (n + m) cap:=by have:=hr.symm.trans hr2; injection this
   subst e1
   exact .inl rfl
  ·have holds:∀ j u,xs[j]? = some u → w.cell? ((⟨g,0,none⟩:Addr).add j) = some u:=hown.cells (g:=g) rfl
   have hr2:=run_append_grow (P:=P) w t ty e i (.int .u8 0) ht hi hz ⟨g,0,none⟩ n cap xs (by rw [hsize]; simpa using hxl) holds a m c news (by rw [hsize]; exact hl) hnews (by omega) (by simp only [maxLen] at h63; omega) (by rw [hby]; exact growslice_fits (by omega) hbytes)
   have e1:v' = .slice (some ⟨w.heap.size,0,none⟩) (n + m) (grownCap w (n + m) cap e):=by have:=hr.symm.trans hr2; injection this
   subst e1
   exact .inr fun k hk => by simp [Value.ownBlock] at hk; omega
theorem zgT {ops:Array Oper} {rest:List Oper} {o:Oper} {a:Act} {Q:Exit → Act → World → Prop} (hgd:o.guard = none) (sl x:Operand) (t u:TypeId)
  (ho:o.op = .call { callee:=.builtin .append,args:=#[sl,x],argTypes:=#[t,u] })
  (e:TypeId) (i:TypeInfo) (ht:P.underlying t = some (.slice e)) (hu:P.underlying u = some .string) (hi:P.info? e = some i) (hz:i.zero = some (.int .u8 0)) (hsize:i.size = 1) (hby:i.bytes = 1)
  (v:Value) (n:Nat) (xs:List Value) (hs:a.eval sl = v) (hown:w.ownsRow 0 e 1 v n xs) (s:ByteArray) (hx:a.eval x = .string s) (h63:n + s.size ≤ maxLen) (hbytes:n + s.size ≤ 140737488355328)
  (h:∀ v' w',w'.ownsRow 0 e 1 v' (n + s.size) (xs ++ Lib.strCells s) → w.grownBy w' v.ownBlock → ziF w v v' → wpList P ops Q rest (a.put o.dst v') w'):wpList P ops Q (o :: rest) a w:=by
 refine wpList_plain hgd fun K hK => ?_
 obtain ⟨v',w',hr,h2,h3,h4⟩:=zg4 (P:=P) w t u o.type e i ht hu hi hz hsize hby v n xs hown s h63 hbytes
 unfold Oper.wp execOp
 simp only [ho,resolve,invoke,builtin,Sem.run_bind,Sem.run_pure,Result.andThen_ok,List.map_toArray,List.map_cons,List.map_nil,hs,hx,hr]
 exact hK _ _ (h v' w' h2 h3 h4)
theorem zb2 {ops:Array Oper} {rest:List Oper} {o:Oper} {a:Act} {Q:Exit → Act → World → Prop} (hgd:o.guard = none) (sl x:Operand) (t:TypeId)
  (ho:o.op = .call { callee:=.builtin .append,args:=#[sl,x],argTypes:=#[t,t] })
  (e:TypeId) (i:TypeInfo) (ht:P.underlying t = some (.slice e)) (hi:P.info? e = some i) (hz:i.zero = some (.int .u8 0)) (hsize:i.size = 1) (hby:i.bytes = 1)
  (v:Value) (n:Nat) (xs:List Value) (hs:a.eval sl = v) (hown:w.ownsRow 0 e 1 v n xs)
  (ad:Addr) (m c:Nat) (news:List Value) (hx:a.eval x = .slice (some ad) m c) (hl:news.length = m * 1) (hnews:∀ j u,news[j]? = some u → w.cell? (ad.add j) = some u) (h1:∀ u ∈ news,u.oneCell' = true)
  (h63:n + m ≤ maxLen) (hbytes:(n + m) * 1 ≤ 140737488355328)
  (h:∀ v' w',w'.ownsRow 0 e 1 v' (n + m) (xs ++ news) → w.grownBy w' v.ownBlock → ziF w v v' → wpList P ops Q rest (a.put o.dst v') w'):wpList P ops Q (o :: rest) a w:=by
 refine wpList_plain hgd fun K hK => ?_
 obtain ⟨v',w',hr,h2,h3,h4⟩:=zg5 (P:=P) w t o.type e i ht hi hz hsize hby v n xs hown ad m c news hl hnews h1 h63 hbytes
 unfold Oper.wp execOp
 simp only [ho,resolve,invoke,builtin,Sem.run_bind,Sem.run_pure,Result.andThen_ok,List.map_toArray,List.map_cons,List.map_nil,hs,hx,hr]
 exact hK _ _ (h v' w' h2 h3 h4)
end
def zkN (T e:TypeId) (b:Nat) (p v0:Value) (bs news:List Value) (w w':World):Prop:=
 ∃ w1 w2 w3 v',((w1 = w ∧ p = .pointer (some ⟨b,0,none⟩)) ∨ (w1 = w.setCell ⟨b,0,none⟩ (.pointer (some ⟨b,0,none⟩)) ∧ p = .pointer none)) ∧ (w2 = w1 ∨ ∃ o,w2 = w1.alloc o) ∧
  w3.ownsRow 0 e 1 v' (bs.length + news.length) (bs ++ news) ∧ w2.grownBy w3 v0.ownBlock ∧ ziF w2 v0 v' ∧ w' = w3.setCell ⟨b,1,none⟩ v'
set_option maxRecDepth 100000 in
theorem zn1 (L:Lays.n169 P ρ) (X:Builder.Extra P ρ) (b:Nat) (p v:Value) (l:List UInt8) (w:World) (hbk:w.heap[b]? = some (.cells #[p,v] (ρ.t 72) (0,0))) (hown:w.ownsRow 0 (ρ.t 5) 1 v l.length (Lib.byteCells l)) (h0:l ≠ []) :
  Calls P (ρ.f 169) #[.pointer (some ⟨b,0,none⟩)] w fun e w' => e = .returned (.string ⟨l.toArray⟩) ∧ ∃ g,v.ownBlock = some g ∧ w' = w.drew.freeze ⟨g,0,none⟩ l.length:=by
 have hl0:l.length ≠ 0:=by simpa using h0
 obtain ⟨g,cap,cur,rfl,hbg,hg,hnc,hcm,hcs,htake⟩:∃ g cap cur,v = .slice (some ⟨g,0,none⟩) l.length cap ∧ 0 ≤ g ∧ w.heap[g]? = some (.cells cur (ρ.t 5) (0,0)) ∧ l.length ≤ cap ∧ cap ≤ maxLen ∧ cur.size = cap * 1 ∧ cur.toList.take (l.length * 1) = Lib.byteCells l:=by
  rcases hown.2 with ⟨_,hz⟩ | ⟨g,cap,cur,hv,r⟩
  ·exact absurd hz hl0
  ·exact ⟨g,cap,cur,hv,r⟩
 have c1:w.drew.cell? ⟨b,1,none⟩ = some (.slice (some ⟨g,0,none⟩) l.length cap):=by
  have:w.drew.heap[b]? = some (.cells #[p,.slice (some ⟨g,0,none⟩) l.length cap] (ρ.t 72) (0,0)):=hbk
  rw [Lib.cell_of_heap this]; rfl
 have hSD:(Builtin.unsafeSliceData_ #[(ρ.t 37)] (ρ.t 127) #[.slice (some ⟨g,0,none⟩) l.length cap]).run P w.drew = .ok (.pointer (some ⟨g,0,none⟩)) w.drew:=
  Lib.run_unsafeSliceData_row _ _ _ _ _ _ (by omega)
 have hUS:(Builtin.unsafeString_ #[(ρ.t 127),(ρ.t 3)] (ρ.t 9) #[.pointer (some ⟨g,0,none⟩),.int .i64 l.length]).run P w.drew = .ok (.string ⟨l.toArray⟩) (w.drew.freeze ⟨g,0,none⟩ l.length):=by
  refine Lib.run_unsafeString_row w.drew (ρ.t 127) (ρ.t 3) (ρ.t 9) (ρ.t 5) L.t127 X.cellsByte g cur.size (by have hg':w.drew.heap[g]? = some (.cells cur (ρ.t 5) (0,0)):=hg; simp [World.shape?,hg']) l h0 (by omega) (by unfold maxLen at hcm; omega) ?_
  intro j x hx
  have:=hown.cells (g:=g) rfl j (.int .u8 x.toNat) (by simp [Lib.byteCells,hx])
  exact this
 have mixed:=L.mixed
 have t72:=L.t72; have a72:=L.a72; have z72:=L.z72; have v72:=L.v72; have u72:=run_underlying L.t72
 have t70:=L.t70; have a70:=L.a70; have z70:=L.z70; have v70:=L.v70; have u70:=run_underlying L.t70
 have t37:=L.t37; have a37:=L.a37; have z37:=L.z37; have v37:=L.v37; have u37:=run_underlying L.t37
 have t127:=L.t127; have a127:=L.a127; have z127:=L.z127; have v127:=L.v127; have u127:=run_underlying L.t127
 have t3:=L.t3; have a3:=L.a3; have z3:=L.z3; have v3:=L.v3; have u3:=run_underlying L.t3
 have t9:=L.t9; have a9:=L.a9; have z9:=L.z9; have v9:=L.v9; have u9:=run_underlying L.t9
 have t5:=X.t5; have a5:=X.a5; have z5:=X.z5; have v5:=X.v5; have u5:=run_underlying X.t5
 go_enter L.f169,Body.n169_ntmps ρ
 go_wp2
 go_region_o
 all_goals (go_wp2; go_ret; exact ⟨rfl,g,rfl,rfl⟩)
end Go.Proofs


namespace Go.AI
def ASpecT (g:Nat) (tab:Obj) (P:Program) (f:FuncId) (args:List D) (O:List Heap) (res:D) (Hr:Heap) (O':List Heap):Prop:=
 ∀ E K ρ w vs,HInv E K ρ O w → TabQ g tab O ρ w → RepDL K ρ (shape O) vs args →
  Exec P f vs.toArray w fun v w' => ∃ K' ρ',HInv (.of K ρ w) K' ρ' (Hr :: O') w' ∧ RepD K' ρ' (shape (Hr :: O')) v res
section
variable {P:Program} {T:TT} {f:FuncId} {fn:Func} {code:Code}
theorem zcr {E:Env} {K:Kn} {ρ:Nat → Nat → Loc} {O:List Heap} {w:World} (hw:HInv E K ρ O w):∃ ρ1:Nat → Nat → Loc,(∀ d,ρ1 (d + 1) = ρ d) ∧ HInv (.of K ρ w) K ρ1 ([] :: O) w:=by
 let ρ1:Nat → Nat → Loc:=fun d n => match d with
  | 0 => ⟨0,0,none⟩
  | d + 1 => ρ d n
 refine ⟨ρ1,fun d => rfl,hw.holds,?_,?_,Nat.le_refl _,fun _ _ _ => rfl,?_,fun d => rfl,K.le_refl,fun _ _ _ h => .inl h,⟨rfl,rfl,rfl⟩⟩
 ·intro d nm ob e
  cases d with
  | zero => simp [zaa,look] at e
  | succ d =>
   have e':zaa O d nm = some ob:=by simpa [zaa] using e
   have:=hw.own _ _ _ e'
   have e1:(fun d' n => ρ1 (d + 1 + d') n) = fun d' n => ρ (d + d') n:=by
    funext d' n
    rw [show d + 1 + d' = (d + d') + 1 by omega]
   rw [e1]
   simpa using this
 ·intro d nm ob d' nm' ob' e e' b b' hbe
  cases d with
  | zero => simp [zaa,look] at e
  | succ d =>
   cases d' with
   | zero => simp [zaa,look] at e'
   | succ d' =>
    have:=hw.inj d nm ob d' nm' ob' (by simpa [zaa] using e) (by simpa [zaa] using e') b b' hbe
    exact ⟨by omega,this.2⟩
 ·intro nm ob e _
  simp [zaa,look] at e
theorem za3 {g:Nat} {tab:Obj} (stop:List Nat) (hT:TOk P T) (hf:P.funcs[f]? = some fn) (hb:fn.body = some code) (hcall:∀ args w,(callFunc f args).run P w = .ok (.enter f args) w) {args:List D} {O O':List Heap} {res:D} {Hr:Heap} {n:Nat}
  (hn:fn.ntmps = n) (hlen:args.length ≤ n)
  (h:∀ E,TabE g tab E O → Rch { P:=P,T:=T,E:=E,f:=f,fn:=fn,post:=zcj E res Hr O',stop:=stop } [.code code] { σ:=argσ 0 (D.shifts 1 args),S:=[] :: O,n:=n }):ASpecT g tab P f args O res Hr O':=by
 intro E K ρ w vs hw htab hrep
 refine .inl ⟨hcall _ _,fun cs => ?_⟩
 obtain ⟨ρ1,hρ1,hI⟩:=zcr hw
 have hvl:=hrep.length
 let b:Frame:={ (default:Frame) with fn:=f,kind:=.normal }
 have henter:Frame.enter P f vs.toArray .normal = b.at { tmps:=vs.toArray ++ Array.replicate (fn.ntmps - vs.toArray.size) undef,defers:=[] } [.code code]:=by
  simp [Frame.enter,Frame.at,hf,hb,b]
 have hinv:Inv (.of K ρ w) K ρ1 { σ:=argσ 0 (D.shifts 1 args),S:=[] :: O,n:=n } { tmps:=vs.toArray ++ Array.replicate (fn.ntmps - vs.toArray.size) undef,defers:=[] } w:=by
  refine ⟨hI,rfl,by simp; omega,fun t d e => ?_⟩
  rw [zdz] at e
  simp only [Nat.zero_le,if_true,Nat.sub_zero] at e
  have hsh:RepDL K ρ1 (shape ([] :: O)) vs (D.shifts 1 args):=by
   refine RepDL.shift (ρ:=ρ1) (sh:=shape ([] :: O)) 1 ?_
   have e1:(fun d n => ρ1 (1 + d) n) = ρ:=by funext d n; rw [Nat.add_comm,hρ1]
   have e2:(fun d n => shape ([] :: O) (1 + d) n) = shape O:=by
    funext d n
    rw [Nat.add_comm]
    simp [shape,zaa]
   rw [e1,e2]
   exact hrep
  obtain ⟨y,hy,hr⟩:=hsh.get e
  have:(vs.toArray ++ Array.replicate (fn.ntmps - vs.toArray.size) undef).getD t undef = y:=by
   have hlt:t < vs.length:=(List.getElem?_eq_some_iff.1 hy).1
   simp only [Array.getD_eq_getD_getElem?]
   rw [Array.getElem?_append_left (by simpa using hlt)]
   simp [hy]
  rw [this]
  exact hr
 have hlt:g < w.heap.size:=(Array.getElem?_eq_some_iff.1 htab.1).1
 obtain ⟨v,w',fr,hp,hst,hfr,hlv⟩:=h (.of K ρ w) ⟨htab,hlt⟩ K ρ1 _ w b cs hinv rfl rfl
 rw [← henter] at hst
 exact ⟨.returned v,w',fr,⟨v,rfl,hp⟩,hst,hfr,hlv⟩
end
theorem znY {g:Nat} {tab:Obj} {c:Cx} {s:St} {o:Oper} {Q:St → Prop} {f:FuncId} {args:List D} {res:D} {Hr H':Heap} {O0 O':List Heap} {t:Nat} (htab:TabE g tab c.E O0)
  (hspec:ASpecT g tab c.P f (D.imms (zel s.S) args) s.S res Hr (H' :: O')) (ht:o.dst = some t) (hn:t < s.n) {H:Heap} {O:List Heap} (hS:s.S = H :: O) (hO:shape O = shape O0) (hsh:shape (H' :: O') = shape s.S) (hf:∀ nm,look Hr nm ≠ none → look H' nm = none)
  (hq:Q { σ:=(t,res.down) :: s.σ,S:=(zcd Hr ++ H') :: O',n:=s.n }):Does c o s Q (.call f args):=by
 intro K ρ a w hi ⟨vs,hrun,hrep⟩ next Qe hnext
 have hh:=hi.h
 have hrep':=RepDL.imm hh hrep
 rw [hS] at hspec hsh hh hrep'
 have fin:∀ v w',(∃ K' ρ',HInv (.of K ρ w) K' ρ' (Hr :: H' :: O') w' ∧ RepD K' ρ' (shape (Hr :: H' :: O')) v res) → next (a.put o.dst v) w':=by
  intro v w' ⟨K',ρ',h1,h2⟩
  obtain ⟨ρ'',hI,hst,hdn⟩:=hh.back h1 hsh hf
  refine hnext _ _ _ _ _ hst.le (fun d n x _ e => ⟨hst.shp _ _ _ (by rw [hS] at e; exact e),hst.loc _ _ _ (by rw [hS] at e; exact e)⟩) ?_ hq
  rw [ht]
  refine zcf hi hn hI ?_ (h2.down hdn)
  rw [hS]; exact hst
 rcases hspec c.E K ρ w vs hh (zeY htab hO hh) hrep' with ⟨h1,h2⟩ | ⟨v,w',h1,h2⟩
 ·rw [h1] at hrun
  simp only [Oper.wp,hrun,Oper.upon]
  refine h2.mono ?_
  rintro e w' ⟨v,rfl,hR⟩
  exact fin v w' hR
 ·rw [h1] at hrun
  simp only [Oper.wp,hrun,Oper.upon]
  exact fin v w' h2
section
variable {c:Cx} {s:St} {k:List Item} {ops:Array Oper} {rest:List Nat} {o:Oper} {g:Nat} {tab:Obj}
theorem zba (hT:TOk c.P c.T) (hfn:c.P.funcs[c.f]? = some c.fn) {O0:List Heap} (htab:TabE g tab c.E O0) {f:FuncId} {args:List D} {res:D} {Hr H':Heap} {O':List Heap} {t:Nat} (hspec:ASpecT g tab c.P f (D.imms (zel s.S) args) s.S res Hr (H' :: O')) (ht:o.dst = some t) (hn:Nat.ble (t + 1) s.n = true)
  {H:Heap} {O:List Heap} (hS:s.S = H :: O) (hO:shape O = shape O0) (hsh:shape (H' :: O') = shape s.S) (hf:zbU Hr H' = true) (h:GM c (run c.T c.stop 1000 (.inRegion ops rest :: k) (zni s t res.down ((zcd Hr ++ H') :: O')))):GM c (.at ops rest s o (.call f args) k):=
 ⟨znY htab hspec ht (Nat.le_of_ble_eq_true hn) hS hO hsh (zca hf) (by have h':=h.h; rw [zfC] at h'; exact zaG hT hfn 1000 (.inRegion ops rest :: k) _ h')⟩
end
section
variable {c:Cx} {ops:Array Oper} {O:List Heap} {n:Nat} {F:SH → List Pl → Prop} {o:Oper} {rest:List Oper} {x:SH} {acc:List Pl} {i:Nat} {g:Nat} {tab:Obj}
end
theorem zjl {E:Env} {K:Kn} {ρ:Nat → Nat → Loc} {S:List Heap} {w:World} (hw:HInv E K ρ S w) (n:Nat) (os:Array Obj):Grow K ρ S w [] K ρ (Sort.grow (w.drewN n) os):=by
 have hold:∀ b,b < w.heap.size → (Sort.grow (w.drewN n) os).heap[b]? = w.heap[b]?:=by
  intro b hb
  show (w.heap ++ os)[b]? = w.heap[b]?
  rw [Array.getElem?_append_left hb]
 refine ⟨K.le_refl,fun _ _ _ h => .inl h,by show _ ≤ (w.heap ++ os).size; simp,hold,⟨rfl,rfl,rfl⟩,fun _ _ _ => rfl,fun b o x hx => ?_,fun _ _ h => by simp [look] at h,fun _ _ _ _ h => by simp [look] at h⟩
 have h1:=hw.holds _ _ _ hx
 have hb:b < w.heap.size:=by
  rcases Nat.lt_or_ge b w.heap.size with h | h
  ·exact h
  ·rw [hw.K_fresh h] at hx; cases hx
 rw [World.cell?,hold b hb]
 exact h1
end Go.AI


namespace Go.AI
open Go.Proofs
set_option maxRecDepth 20000
section
variable {E:Env} {K:Kn} {ρ:Nat → Nat → Loc} {w w':World}
theorem zn3 {sh:Nat → Nat → Option Sh} {w3:World} {l:Loc} {ty n m:Nat} {xs ys:List (List I)} {olds news:List Value} {v':Value} (h:OwnAt K ρ sh w l (.arr ty 1 n xs true)) (ho:RepL K olds xs.flatten) (hn:RepL K news ys.flatten)
  (hy:∀ d ∈ ys,d.length = 1) (hm:ys.length = m) (hrow:w3.ownsRow 0 ty 1 v' (n + m) (olds ++ news)) (hg:w.grownBy w3 (Value.slice l.base n l.cap).ownBlock) (hat:ziF w (.slice l.base n l.cap) v')
  (hfresh:∀ b o,w.heap.size ≤ b → K b o = none) :
  ∃ l':Loc,v' = .slice l'.base (n + m) l'.cap ∧ (∀ (ρ':Nat → Nat → Loc) (sh':Nat → Nat → Option Sh),OwnAt K ρ' sh' w3 l' (.arr ty 1 (n + m) (xs ++ ys) true)) ∧ Apnd K w w3 l l':=by
 have hel:∀ d ∈ xs ++ ys,d.length = 1:=fun d hd => by
  rcases List.mem_append.1 hd with h1 | h1
  ·exact h.1 d h1
  ·exact hy d h1
 have hlen:(xs ++ ys).length = n + m:=by simp [h.2.1,hm]
 have hbase:l.base = none ∨ l.base = some ⟨l.block,0,none⟩:=by
  rcases h.2.2.2.2 with ⟨_,h1⟩ | ⟨h1,_⟩
  ·exact .inl h1
  ·exact .inr h1
 have hold:∀ b,b < w.heap.size → (l.base ≠ none → b ≠ l.block) → w3.heap[b]? = w.heap[b]?:=fun b hb hne => hg.block b hb fun e => by
  rcases hbase with h1 | h1
  ·rw [h1] at e; simp [Value.ownBlock] at e
  ·rw [h1] at e
   simp only [Value.ownBlock,Option.some.injEq] at e
   exact hne (by rw [h1]; simp) e
 rcases hrow.2 with ⟨rfl,h0⟩ | ⟨g,cap,cur,rfl,_,hg3,hnc,hcm,hcs,htake⟩
 ·refine ⟨⟨0,0,none⟩,by rw [h0],fun ρ' sh' => ⟨hel,hlen,by simp only; omega,Nat.zero_le _,.inl ⟨rfl,rfl⟩⟩,⟨hg.size,hold,⟨hg.tape,hg.os,hg.output⟩,fun e => absurd rfl e⟩⟩
 ·have hKg:∀ o,K g o = none:=by
   rcases hat with h1 | h1
   ·rcases hbase with h2 | h2
    ·rw [h2] at h1; simp [Value.ownBlock] at h1
    ·rw [h2] at h1
     simp only [Value.ownBlock,Option.some.injEq] at h1
     subst h1
     rcases h.2.2.2.2 with ⟨_,h3⟩ | ⟨_,c,_,_,_,h4,_⟩
     ·rw [h2] at h3; cases h3
     ·exact h4 rfl
   ·exact fun o => hfresh g o (h1 g rfl)
  have htk:cur.toList.take ((n + m) * 1) = olds ++ news:=htake
  refine ⟨⟨g,cap,some ⟨g,0,none⟩⟩,rfl,fun ρ' sh' => ⟨hel,hlen,hnc,hcm,.inr ⟨rfl,cur,hg3,hcs,?_,fun _ o => hKg o,fun o _ => hKg o,fun e => by cases e⟩⟩,⟨hg.size,hold,⟨hg.tape,hg.os,hg.output⟩,fun _ => ?_⟩⟩
  ·rw [htk,List.flatten_append]
   exact ho.append hn
  ·rcases hat with h1 | h1
   ·rcases hbase with h2 | h2
    ·rw [h2] at h1; simp [Value.ownBlock] at h1
    ·rw [h2] at h1
     simp only [Value.ownBlock,Option.some.injEq] at h1
     exact .inr ⟨by rw [h2]; simp,h1⟩
   ·exact .inl (h1 g rfl)
def zsL (P:Program) (f:FuncId) (T ty:TypeId) (res x:Value) (news:List Value):Prop:=∀ (b:Nat) (p v0:Value) (bs:List Value) (w:World),(p = .pointer none ∨ p = .pointer (some ⟨b,0,none⟩)) →
 w.heap[b]? = some (.cells #[p,v0] T (0,0)) → w.ownsRow 0 ty 1 v0 bs.length bs → v0.ownBlock ≠ some b → bs.length + news.length ≤ 140737488355328 →
 Calls P f #[.pointer (some ⟨b,0,none⟩),x] w fun e w' => e = .returned res ∧ zkN T ty b p v0 bs news w w'
def Wp (c:Cx) (o:Oper) (s:St) (f:FuncId) (args:List D) (s':St):Prop:=∀ K ρ a w,Inv c.E K ρ s a w → (∃ vs,(execOp a.eval o).run c.P w = (callFunc f vs.toArray).run c.P w ∧ RepDL K ρ (shape s.S) vs args) →
 ∀ (next:Act → World → Prop) (Qe:Exit → Act → World → Prop),(∀ v w' K' ρ',Inv c.E K' ρ' s' (a.put o.dst v) w' → next (a.put o.dst v) w') → o.wp c.P a w next Qe
theorem zfg {c:Cx} {s:St} {o:Oper} {f:FuncId} {t nm nm2 n m T ty:Nat} {dp dx rd:D} {x res:Value} {news:List Value} {xs ys:List (List I)} {H:Heap} {O:List Heap}
  (hspec:zsL c.P f T ty res x news) (hent:∀ args w,(callFunc f args).run c.P w = .ok (.enter f args) w) (hx:∀ K ρ sh v,RepD K ρ sh v dx → v = x) (hr:∀ K ρ sh,RepD K ρ sh res rd)
  (hdp:dp = .i (.v (.pointer none)) ∨ dp = .own 0 nm 0 0) (ht:o.dst = some t) (hn:t < s.n) (hS:s.S = H :: O) (hb:look H nm = some (.tb T [dp,.osl 0 nm2])) (ha:look H nm2 = some (.arr ty 1 n xs true))
  (hne:nm ≠ nm2) (hnews:∀ K,RepL K news ys.flatten) (hy:∀ d ∈ ys,d.length = 1) (hm:ys.length = m) (hlim:n + m ≤ 140737488355328) :
  Wp c o s f [.own 0 nm 0 0,dx] { σ:=(t,rd) :: zd2 nm2 s.σ,S:=((nm,.tb T [.own 0 nm 0 0,.osl 0 nm2]) :: (nm2,.arr ty 1 (n + m) (xs ++ ys) true) :: zaU nm2 ((nm,.tb T [.own 0 nm 0 0,.osl 0 nm2]) :: H)) :: O,n:=s.n }:=by
 intro K ρ a w hi ⟨vs,hrun,hrep⟩ next Qe hnext
 have hh:=hi.h
 rw [hS] at hh hrep
 have hob:zaa (H :: O) 0 nm = some (.tb T [dp,.osl 0 nm2]):=by simpa [zaa] using hb
 have hoa:zaa (H :: O) 0 nm2 = some (.arr ty 1 n xs true):=by simpa [zaa] using ha
 have e0:(fun d n => ρ (0 + d) n) = ρ:=by funext d n; rw [Nat.zero_add]
 have s0:∀ S:List Heap,shape (S.drop 0) = shape S:=fun S => by rw [List.drop_zero]
 have hwb:=hh.own _ _ _ hob
 rw [e0,s0] at hwb
 obtain ⟨cur,hc,hrc,hKb⟩:=hwb
 have hwa:=hh.own _ _ _ hoa
 rw [e0,s0] at hwa
 obtain ⟨olds,hro,hrow⟩:=zh2 hwa
 have hol:olds.length = n:=by simpa using hrow.1
 have hshb:shape (H :: O) 0 nm = some .box:=by simp [shape,hob,Ob.sh]
 have hsha:shape (H :: O) 0 nm2 = some (.arr 1 n):=by simp [shape,hoa,Ob.sh]
 obtain ⟨p,v0,hcur,hp,hv0⟩:∃ p v0,cur = #[p,v0] ∧ RepD K ρ (shape (H :: O)) p dp ∧ RepD K ρ (shape (H :: O)) v0 (.osl 0 nm2):=by
  generalize hL:cur.toList = L at hrc
  cases hrc with
  | cons h1 h2 => cases h2 with
   | cons h3 h4 => cases h4; exact ⟨_,_,Array.ext' (by rw [hL]),h1,h3⟩
 subst hcur
 have hv0:=zcg hv0 hsha
 subst hv0
 have hpp:p = .pointer none ∨ p = .pointer (some ⟨(ρ 0 nm).block,0,none⟩):=by
  rcases hdp with rfl | rfl
  ·exact .inl (zaN hp)
  ·exact .inr (zek hp hshb)
 have hnb:(Value.slice (ρ 0 nm2).base n (ρ 0 nm2).cap).ownBlock ≠ some (ρ 0 nm).block:=by
  intro e
  rcases hwa.2.2.2.2 with ⟨_,h1⟩ | ⟨h1,_⟩
  ·rw [h1] at e; simp [Value.ownBlock] at e
  ·rw [h1] at e
   simp only [Value.ownBlock,Option.some.injEq] at e
   exact hne (hh.inj 0 nm _ 0 nm2 _ hob hoa trivial (by show _ ≠ none; rw [h1]; simp) e.symm).2
 obtain ⟨rfl⟩:vs = [.pointer (some ⟨(ρ 0 nm).block,0,none⟩),x]:=by
  cases hrep with
  | cons h1 h2 => cases h2 with
   | cons h3 h4 => cases h4; rw [zek h1 hshb,hx _ _ _ _ h3]
 rw [hent] at hrun
 simp only [Oper.wp,hrun,Oper.upon]
 have hml:news.length = m:=by
  have:=(hnews K).length
  rw [this,zbg ys hy,hm]; omega
 refine (hspec _ p _ olds w hpp hc (by rw [hol]; exact hrow) hnb (by rw [hol,hml]; exact hlim)).mono ?_
 rintro e w' ⟨rfl,w1,w2,w3,v',h1,h2,hrow3,hgb,hat,rfl⟩
 rw [hol,hml] at hrow3
 have e1:(fun d n => shape (H :: O) (0 + d) n) = shape (H :: O):=by funext d n; rw [Nat.zero_add]
 have hcells:RepDL K (fun d n => ρ (0 + d) n) (fun d n => shape (H :: O) (0 + d) n) [.pointer (some ⟨(ρ 0 nm).block,0,none⟩),.slice (ρ 0 nm2).base n (ρ 0 nm2).cap] [.own 0 nm 0 0,.osl 0 nm2]:=by
  rw [e0,e1]
  exact .cons (.box hshb) (.cons (.osl hsha) .nil)
 have hI1:HInv c.E K ρ (setAt (H :: O) 0 nm (.tb T [.own 0 nm 0 0,.osl 0 nm2])) w1 ∧ w1.heap[(ρ 0 nm).block]? = some (.cells #[.pointer (some ⟨(ρ 0 nm).block,0,none⟩),.slice (ρ 0 nm2).base n (ρ 0 nm2).cap] T (0,0)):=by
  rcases h1 with ⟨rfl,rfl⟩ | ⟨rfl,rfl⟩
  ·exact ⟨hh.put hob rfl trivial trivial rfl (fun _ _ => rfl) ⟨rfl,rfl,rfl⟩ (fun o' x' hx' => by rw [hKb] at hx'; cases hx') ⟨_,hc,hcells,hKb⟩,hc⟩
  ·exact ⟨hh.put hob rfl trivial trivial (by simp [World.setCell]) (fun b hb => Go.Deep.blk_setCell_other w _ _ b hb) ⟨rfl,rfl,rfl⟩ (fun o' x' hx' => by rw [hKb] at hx'; cases hx') ⟨_,zgv hc,hcells,hKb⟩,zgv hc⟩
 obtain ⟨hI1,hc1⟩:=hI1
 have hI1:HInv c.E K ρ (((nm,.tb T [.own 0 nm 0 0,.osl 0 nm2]) :: H) :: O) w1:=hI1
 have hlt1:(ρ 0 nm).block < w1.heap.size:=by
  rcases Nat.lt_or_ge (ρ 0 nm).block w1.heap.size with h' | h'
  ·exact h'
  ·simp [Array.getElem?_eq_none h'] at hc1
 have hI2:HInv c.E K ρ (((nm,.tb T [.own 0 nm 0 0,.osl 0 nm2]) :: H) :: O) w2 ∧ w2.heap[(ρ 0 nm).block]? = some (.cells #[.pointer (some ⟨(ρ 0 nm).block,0,none⟩),.slice (ρ 0 nm2).base n (ρ 0 nm2).cap] T (0,0)) ∧ w1.heap.size ≤ w2.heap.size:=by
  rcases h2 with rfl | ⟨o',rfl⟩
  ·exact ⟨hI1,hc1,Nat.le_refl _⟩
  ·exact ⟨(HInv.grow (S:=((nm,.tb T [.own 0 nm 0 0,.osl 0 nm2]) :: H) :: O) rfl hI1 (fun _ _ _ e => e) (fun _ h => by simp [look] at h) (zpU hI1 (.inl rfl) o')).1,by rw [heap_alloc_old w1 o' hlt1]; exact hc1,by simp [World.size_alloc]⟩
 obtain ⟨hI2,hc2,hsz2⟩:=hI2
 have hc3:w3.heap[(ρ 0 nm).block]? = some (.cells #[.pointer (some ⟨(ρ 0 nm).block,0,none⟩),.slice (ρ 0 nm2).base n (ρ 0 nm2).cap] T (0,0)):=by
  rw [hgb.block _ (by omega) (fun e => hnb e.symm)]
  exact hc2
 have hlk:look ((nm,Ob.tb T [.own 0 nm 0 0,.osl 0 nm2]) :: H) nm2 = some (.arr ty 1 n xs true):=by
  rw [zab,if_neg hne]; exact ha
 have hoa2:zaa (((nm,Ob.tb T [.own 0 nm 0 0,.osl 0 nm2]) :: H) :: O) 0 nm2 = some (.arr ty 1 n xs true):=by simpa [zaa] using hlk
 have hob2:zaa (((nm,Ob.tb T [.own 0 nm 0 0,.osl 0 nm2]) :: H) :: O) 0 nm = some (.tb T [.own 0 nm 0 0,.osl 0 nm2]):=by simp [zaa,zab]
 have hwa2:=hI2.own _ _ _ hoa2
 rw [e0,s0] at hwa2
 obtain ⟨l',rfl,hown',hap⟩:=zn3 hwa2 hro (hnews K) hy hm hrow3 hgb hat (fun b o hb => hI2.K_fresh hb)
 have hKo:zar (ρ 0 nm2) (.arr ty 1 n xs true) → ∀ o,K (ρ 0 nm2).block o = none:=by
  intro hbk
  obtain ⟨_,_,_,_,h5⟩:=hwa
  rcases h5 with ⟨_,h6⟩ | ⟨_,c,_,_,_,h9,_⟩
  ·exact absurd h6 hbk
  ·exact h9 rfl
 obtain ⟨hI3,hbut⟩:=hI2.renew (nm:=nm2) (dst:=nm2) hlk (by rw [za1]; simp) hap Iff.rfl (ob':=.arr ty 1 (n + m) (xs ++ ys) true) Iff.rfl hKo hown'
 generalize hS3:(((nm2,Ob.arr ty 1 (n + m) (xs ++ ys) true) :: zaU nm2 ((nm,Ob.tb T [.own 0 nm 0 0,.osl 0 nm2]) :: H)) :: O) = S3 at hI3 hbut
 have hob3:zaa S3 0 nm = some (Ob.kill nm2 (.tb T [.own 0 nm 0 0,.osl 0 nm2])):=by
  rw [← hS3]
  simp only [zaa,List.getElem?_cons_zero,zab,if_neg (Ne.symm hne),za1,if_neg hne,if_true,Option.map_some]
 obtain ⟨hb1,hb2⟩:=hbut 0 nm .box (.inr hne) (by simp [shape,hob2,Ob.sh])
 have hsh3:shape S3 0 nm2 = some (.arr 1 (n + m)):=by
  rw [← hS3]
  simp [shape,zaa,zab,Ob.sh]
 have f0:(fun d n => upd ρ nm2 l' (0 + d) n) = upd ρ nm2 l':=by funext d n; rw [Nat.zero_add]
 have f1:(fun d n => shape S3 (0 + d) n) = shape S3:=by funext d n; rw [Nat.zero_add]
 have hcells3:RepDL K (fun d n => upd ρ nm2 l' (0 + d) n) (fun d n => shape S3 (0 + d) n) [.pointer (some ⟨(ρ 0 nm).block,0,none⟩),.slice l'.base (n + m) l'.cap] [.own 0 nm 0 0,.osl 0 nm2]:=by
  rw [f0,f1]
  have g1:=RepD.box (K:=K) (ρ:=upd ρ nm2 l') (off:=0) hb1
  rw [hb2] at g1
  have g2:=RepD.osl (K:=K) (ρ:=upd ρ nm2 l') hsh3
  rw [zaJ] at g2
  exact .cons g1 (.cons g2 .nil)
 have hI4:HInv c.E K (upd ρ nm2 l') (setAt S3 0 nm (.tb T [.own 0 nm 0 0,.osl 0 nm2])) (w3.setCell ⟨(ρ 0 nm).block,1,none⟩ (.slice l'.base (n + m) l'.cap)):=by
  refine hI3.put hob3 rfl trivial trivial (by simp [World.setCell]) (fun b hb => Go.Deep.blk_setCell_other w3 _ _ b (by rw [hb2] at hb; exact hb)) ⟨rfl,rfl,rfl⟩ (fun o' x' hx' => by rw [hb2,hKb] at hx'; cases hx') ⟨_,by rw [hb2]; exact zpS hc3,hcells3,fun o => by rw [hb2]; exact hKb o⟩
 have hS4:setAt S3 0 nm (.tb T [.own 0 nm 0 0,.osl 0 nm2]) = ((nm,.tb T [.own 0 nm 0 0,.osl 0 nm2]) :: (nm2,.arr ty 1 (n + m) (xs ++ ys) true) :: zaU nm2 ((nm,.tb T [.own 0 nm 0 0,.osl 0 nm2]) :: H)) :: O:=by rw [← hS3]; rfl
 have hsh4:shape (setAt S3 0 nm (.tb T [.own 0 nm 0 0,.osl 0 nm2])) = shape S3:=zbc hob3 rfl
 have hsh2:shape (((nm,Ob.tb T [.own 0 nm 0 0,.osl 0 nm2]) :: H) :: O) = shape (H :: O):=zbc (S:=H :: O) hob rfl
 rw [hS4] at hI4 hsh4
 rw [hsh2] at hbut
 refine hnext _ _ K (upd ρ nm2 l') ?_
 ·rw [ht]
  refine ⟨hI4,hi.defers,by simp [Act.put]; exact hi.size,fun t' d' e' => ?_⟩
  rw [zbr (by rw [hi.size]; exact hn)]
  simp only [zab] at e'
  split at e'
  ·rename_i e2
   simp only [Option.some.injEq] at e'
   subst e'
   rw [if_pos e2]
   exact hr _ _ _
  ·rename_i e2
   rw [if_neg e2]
   rw [zbZ] at e'
   cases hls:look s.σ t' with
   | none => simp [hls] at e'
   | some d0 =>
    simp only [hls,Option.map_some,Option.some.injEq] at e'
    subst e'
    have hr:=hi.slots _ _ hls
    rw [hS] at hr
    show RepD _ _ (shape _) _ _
    rw [hsh4]
    exact hr.kill hbut
end
section
variable {c:Cx} {s:St} {k:List Item} {ops:Array Oper} {rest:List Nat} {o:Oper}
theorem zdC (hT:TOk c.P c.T) (hfn:c.P.funcs[c.f]? = some c.fn) {i t:Nat} {f:FuncId} {args:List D} {s':St} (ho:ops[i]? = some o) (hg:o.guard = none) (hd:o.dst = some t) (hex:exec c.T s o = .call f args) (hw:Wp c o s f args s')
  (h:GM c (run c.T c.stop 1000 (.inRegion ops rest :: k) s')):GM c (.pause ops i rest o s k):=by
 have hk:RG c ops rest s' k:=zaG hT hfn 1000 (.inRegion ops rest :: k) _ h.h
 refine ⟨?_⟩
 intro K ρ a w hi
 simp only [wpOps,ho,za9 hi (show zaw ops s o = some true by unfold zaw; rw [hg]),if_true]
 refine .inl (hw K ρ a w hi ?_ _ _ fun v w' K' ρ' hi' => hk K' ρ' _ w' hi')
 have:=zfG hT hi.h (.inl hd) fun x _ => hi.ev x
 rw [hex] at this
 exact this
end
section
def u8l (l:List UInt8):List (List I):=l.map fun b => [.v (.int .u8 b.toNat)]
theorem zhI:∀ l:List UInt8,(u8l l).flatten = l.map fun b => I.v (.int .u8 b.toNat)
 | [] => rfl
 | b :: r => by
  have:=zhI r
  unfold u8l at this ⊢
  rw [List.map_cons,List.flatten_cons,this]
  rfl
theorem zoB (l:List UInt8):∀ d ∈ u8l l,d.length = 1:=fun d hd => by
 unfold u8l at hd
 obtain ⟨b,_,rfl⟩:=List.mem_map.1 hd
 rfl
theorem zhH (K:Kn):∀ l:List UInt8,RepL K (l.map fun b => Value.int .u8 b.toNat) (u8l l).flatten
 | [] => .nil
 | b :: r => by
  have:=zhH K r
  rw [zhI] at this ⊢
  exact .cons (.v rfl) this
theorem ziY {K:Kn}:∀ {vs:List Value} {l:List Value},RepL K vs (l.map I.v) → vs = l
 | _,[],h => by cases h; rfl
 | _,x :: r,h => by
  cases h with
  | cons h1 h2 =>
   rw [ziY h2]
   cases h1
   rfl
theorem ztA (a b:List UInt8):u8l a ++ u8l b = u8l (a ++ b):=by simp [u8l]
def zvJ (P:Program) (f:FuncId) (T ty:TypeId):Prop:=∀ (b:Nat) (p v:Value) (l:List UInt8) (w:World),w.heap[b]? = some (.cells #[p,v] T (0,0)) → w.ownsRow 0 ty 1 v l.length (Lib.byteCells l) → l ≠ [] →
 Calls P f #[.pointer (some ⟨b,0,none⟩)] w fun e w' => e = .returned (.string ⟨l.toArray⟩) ∧ ∃ g,v.ownBlock = some g ∧ w' = w.drew.freeze ⟨g,0,none⟩ l.length
theorem zjn (w:World) (g n k:Nat) (h:k ≠ g):(w.freeze ⟨g,0,none⟩ n).heap[k]? = w.heap[k]?:=by
 unfold World.freeze
 split <;> simp [Array.getElem?_modify,Array.getElem?_setIfInBounds,Ne.symm h]
theorem zkr (w:World) (g n:Nat):(w.freeze ⟨g,0,none⟩ n).tape = w.tape ∧ (w.freeze ⟨g,0,none⟩ n).os = w.os ∧ (w.freeze ⟨g,0,none⟩ n).output = w.output ∧ (w.freeze ⟨g,0,none⟩ n).heap.size = w.heap.size:=by
 unfold World.freeze
 split <;> simp
theorem zqt {c:Cx} {s:St} {o:Oper} {f:FuncId} {t nm nm2 T ty:Nat} {dp:D} {l:List UInt8} {H:Heap} {O:List Heap}
  (hspec:zvJ c.P f T ty) (hent:∀ args w,(callFunc f args).run c.P w = .ok (.enter f args) w) (h0:l ≠ [])
  (ht:o.dst = some t) (hn:t < s.n) (hS:s.S = H :: O) (hb:look H nm = some (.tb T [dp,.osl 0 nm2])) (ha:look H nm2 = some (.arr ty 1 l.length (u8l l) true)) :
  Wp c o s f [.own 0 nm 0 0] { σ:=(t,.i (.v (.string ⟨l.toArray⟩))) :: zd2 nm2 s.σ,S:=((nm2,.arr ty 1 0 [] true) :: zaU nm2 H) :: O,n:=s.n }:=by
 intro K ρ a w hi ⟨vs,hrun,hrep⟩ next Qe hnext
 have hh:=hi.h
 rw [hS] at hh hrep
 have hob:zaa (H :: O) 0 nm = some (.tb T [dp,.osl 0 nm2]):=by simpa [zaa] using hb
 have hoa:zaa (H :: O) 0 nm2 = some (.arr ty 1 l.length (u8l l) true):=by simpa [zaa] using ha
 have e0:(fun d n => ρ (0 + d) n) = ρ:=by funext d n; rw [Nat.zero_add]
 have s0:∀ S:List Heap,shape (S.drop 0) = shape S:=fun S => by rw [List.drop_zero]
 have hwb:=hh.own _ _ _ hob
 rw [e0,s0] at hwb
 obtain ⟨cur,hc,hrc,hKb⟩:=hwb
 have hwa:=hh.own _ _ _ hoa
 rw [e0,s0] at hwa
 obtain ⟨olds,hro,hrow⟩:=zh2 hwa
 have hold:olds = Lib.byteCells l:=by
  rw [zhI] at hro
  have:(l.map fun b => I.v (.int .u8 b.toNat)) = (l.map fun b => Value.int .u8 b.toNat).map I.v:=by rw [List.map_map]; rfl
  rw [this] at hro
  exact ziY hro
 subst hold
 have hshb:shape (H :: O) 0 nm = some .box:=by simp [shape,hob,Ob.sh]
 have hsha:shape (H :: O) 0 nm2 = some (.arr 1 l.length):=by simp [shape,hoa,Ob.sh]
 obtain ⟨p,v0,hcur,hv0⟩:∃ p v0,cur = #[p,v0] ∧ RepD K ρ (shape (H :: O)) v0 (.osl 0 nm2):=by
  generalize hL:cur.toList = L at hrc
  cases hrc with
  | cons h1 h2 => cases h2 with
   | cons h3 h4 => cases h4; exact ⟨_,_,Array.ext' (by rw [hL]),h3⟩
 subst hcur
 have hv0:=zcg hv0 hsha
 subst hv0
 obtain ⟨rfl⟩:vs = [.pointer (some ⟨(ρ 0 nm).block,0,none⟩)]:=by
  cases hrep with
  | cons h1 h2 => cases h2; rw [zek h1 hshb]
 rw [hent] at hrun
 simp only [Oper.wp,hrun,Oper.upon]
 refine (hspec _ p _ l w hc hrow h0).mono ?_
 rintro e w' ⟨rfl,g,hgb,rfl⟩
 obtain ⟨r1,r2,r3,r4⟩:=zkr w.drew g l.length
 have hbase:(ρ 0 nm2).base = some ⟨(ρ 0 nm2).block,0,none⟩:=by
  rcases hwa.2.2.2.2 with ⟨_,h1⟩ | ⟨h1,_⟩
  ·rw [h1] at hgb; simp [Value.ownBlock] at hgb
  ·exact h1
 have hgb:(ρ 0 nm2).block = g:=by rw [hbase] at hgb; simpa [Value.ownBlock] using hgb
 subst hgb
 have hKo:zar (ρ 0 nm2) (.arr ty 1 l.length (u8l l) true) → ∀ o,K (ρ 0 nm2).block o = none:=by
  intro hbk
  obtain ⟨_,_,_,_,h5⟩:=hwa
  rcases h5 with ⟨_,h6⟩ | ⟨_,c,_,_,_,h9,_⟩
  ·exact absurd h6 hbk
  ·exact h9 rfl
 let l0:Loc:=⟨0,0,none⟩
 have hap:Apnd K w (w.drew.freeze ⟨(ρ 0 nm2).block,0,none⟩ l.length) (ρ 0 nm2) l0:=by
  refine ⟨Nat.le_of_eq r4.symm,fun b _ hne => ?_,⟨r1,r2,r3⟩,fun e => absurd rfl e⟩
  exact zjn w.drew _ _ _ (hne (by rw [hbase]; simp))
 obtain ⟨hI3,hbut⟩:=hh.renew (nm:=nm2) (dst:=nm2) ha (by rw [za1]; simp) hap Iff.rfl (ob':=.arr ty 1 0 [] true) Iff.rfl hKo (fun ρ' sh' => ⟨by simp,rfl,Nat.le_refl _,by simp [l0],.inl ⟨rfl,rfl⟩⟩)
 refine hnext _ _ K (upd ρ nm2 l0) ?_
 ·rw [ht]
  refine ⟨hI3,hi.defers,by simp [Act.put]; exact hi.size,fun t' d' e' => ?_⟩
  rw [zbr (by rw [hi.size]; exact hn)]
  simp only [zab] at e'
  split at e'
  ·rename_i e2
   simp only [Option.some.injEq] at e'
   subst e'
   rw [if_pos e2]
   exact .i (.v rfl)
  ·rename_i e2
   rw [if_neg e2]
   rw [zbZ] at e'
   cases hls:look s.σ t' with
   | none => simp [hls] at e'
   | some d0 =>
    simp only [hls,Option.map_some,Option.some.injEq] at e'
    subst e'
    have hr:=hi.slots _ _ hls
    rw [hS] at hr
    exact hr.kill hbut
end
end Go.AI


namespace Go.AI
open Go.Proofs
section
variable {P:Program} {T:TT} {E:Env} {K:Kn} {ρ:Nat → Nat → Loc} {S:List Heap} {w:World} {dst:Nat}
theorem zu7 (hw:HInv E K ρ S w) (hf:zaa S 0 dst = none) {cs:List Value} {ds:List D} (hr:RepDL K ρ (shape S) cs ds) (ty:TypeId) :
  ∃ l,Grow K ρ S w [(dst,.tb ty ds)] K (upd ρ dst l) (w.alloc (.cells cs.toArray ty)) ∧ RepD K (upd ρ dst l) (shape (addS S [(dst,.tb ty ds)])) (.pointer (some ⟨w.heap.size,0,none⟩)) (.own 0 dst 0 0):=by
 have hst:=ziQ (K:=K) (ρ:=ρ) hf (.tb ty ds) ⟨w.heap.size,0,none⟩
 refine ⟨⟨w.heap.size,0,none⟩,zfc hw hf (.inl rfl) (fun _ => rfl) ⟨cs.toArray,heap_alloc_new w _,by simpa using hr.stays hst,fun o => hw.K_fresh (Nat.le_refl _)⟩,?_⟩
 have hsh:shape (addS S [(dst,.tb ty ds)]) 0 dst = some .box:=by
  cases S with
  | nil => simp [shape,addS,zaa,zab,Ob.sh]
  | cons H O => simp [shape,zbp,zab,Ob.sh]
 have:=RepD.box (K:=K) (ρ:=upd ρ dst ⟨w.heap.size,0,none⟩) (off:=0) hsh
 rwa [zaJ] at this
end
section
variable {c:Cx} {s:St} {k:List Item} {ops:Array Oper} {rest:List Nat} {o:Oper}
theorem g_tb (hT:TOk c.P c.T) (hfn:c.P.funcs[c.f]? = some c.fn) {i t nm:Nat} {ti:TI} {H:Heap} {O:List Heap} (ho:ops[i]? = some o) (hop:o.op = .alloc t) (hd:o.dst = some nm) (hg:o.guard = none) (hn:Nat.ble (nm + 1) s.n = true) (hi:look c.T t = some ti)
  (hS:s.S = H :: O) (hf:look H nm = none) (h:GM c (run c.T c.stop 1000 (.inRegion ops rest :: k) { σ:=(nm,.own 0 nm 0 0) :: s.σ,S:=((nm,.tb t (ti.zero.map fun v => .i (.v v))) :: H) :: O,n:=s.n })) :
  GM c (.pause ops i rest o s k):=by
 refine ⟨?_⟩
 have hk:RG c ops rest { σ:=(nm,.own 0 nm 0 0) :: s.σ,S:=((nm,.tb t (ti.zero.map fun v => .i (.v v))) :: H) :: O,n:=s.n } k:=zaG hT hfn 1000 (.inRegion ops rest :: k) _ h.h
 refine zo4 ho (by unfold zaw; rw [hg]) ?_
 intro K ρ a w hinv next Qe hnext
 have hok:=hT _ _ hi
 have hh:=hinv.h
 rw [hS] at hh
 obtain ⟨inf,h1,h2,h3,z,h4,h5,-⟩:=hok.info
 have hf':zaa (H :: O) 0 nm = none:=by simpa [zaa] using hf
 obtain ⟨l,g,r⟩:=zu7 (dst:=nm) hh hf' (zh4 hok.one) t
 have hz:z.cells = ti.zero.toArray:=by rw [← h5]
 have hrun:(execOp a.eval o).run c.P w = .ok (.value (.pointer (some ⟨w.heap.size,0,none⟩))) (w.alloc (.cells ti.zero.toArray t)):=by
  simp [execOp,hop,Instr.alloc,zeroValue,typeInfo,h1,h4,newVar,newRow,hz]
 simp only [Oper.wp,hrun,Oper.upon]
 obtain ⟨hI,hst⟩:=HInv.grow (S:=H :: O) rfl hh (fun _ _ _ e => e) (fun n' h => by
  cases hl:look [(nm,Ob.tb t (ti.zero.map fun v => .i (.v v)))] n' with
  | none => exact absurd hl h
  | some ob => obtain ⟨rfl,rfl⟩:=zaP hl; exact hf) g
 refine hnext _ _ _ _ _ hst.le (fun d n x _ e => ⟨hst.shp _ _ _ (by rw [hS] at e; exact e),hst.loc _ _ _ (by rw [hS] at e; exact e)⟩) ?_ hk
 rw [hd]
 refine zcf hinv (Nat.le_of_ble_eq_true hn) hI ?_ r
 rw [hS]; exact hst
theorem zlx (b nm e z:Nat) {T:Nat} {x:D} {H:Heap} {O:List Heap} (hS:s.S = H :: O) (hb:look H b = some (.tb T [x,.i (.v (.slice none 0 0))])) (hf:look H nm = none):Wk c s { σ:=s.σ,S:=((b,.tb T [x,.osl 0 nm]) :: (nm,.arr e z 0 [] true) :: H) :: O,n:=s.n }:=by
 intro K ρ a w hi
 have hh:=hi.h
 rw [hS] at hh
 let l0:Loc:=⟨0,0,none⟩
 have hown:∀ ρ' sh',OwnAt K ρ' sh' w l0 (.arr e z 0 [] true):=fun ρ' sh' => ⟨by simp,rfl,Nat.le_refl _,by simp [l0],.inl ⟨rfl,rfl⟩⟩
 have hg:Grow K ρ (H :: O) w [(nm,.arr e z 0 [] true)] K (upd ρ nm l0) w:=by
  refine ⟨K.le_refl,fun _ _ _ h => .inl h,Nat.le_refl _,fun _ _ => rfl,⟨rfl,rfl,rfl⟩,fun d n' h => ?_,hh.holds,fun n' ob e' => ?_,fun n1 o1 n2 o2 e1 e2 b1 b2 _ => ?_⟩
  ·refine zaH _ _ _ (h.imp id fun h e' => ?_)
   subst e'
   simp [zab] at h
  ·obtain ⟨rfl,rfl⟩:=zaP e'
   rw [zaJ]
   exact ⟨hown _ _,fun hb => absurd rfl hb⟩
  ·obtain ⟨rfl,rfl⟩:=zaP e1
   obtain ⟨rfl,rfl⟩:=zaP e2
   rfl
 obtain ⟨hI,hst⟩:=HInv.grow (S:=H :: O) rfl hh (fun _ _ _ e => e) (fun n' h => by
  cases hl:look [(nm,Ob.arr e z 0 [] true)] n' with
  | none => exact absurd hl h
  | some ob => obtain ⟨rfl,rfl⟩:=zaP hl; exact hf) hg
 have hbn:nm ≠ b:=fun e' => by subst e'; rw [hf] at hb; cases hb
 have hI:HInv c.E K (upd ρ nm l0) (((nm,.arr e z 0 [] true) :: H) :: O) w:=hI
 have hob:zaa (((nm,.arr e z 0 [] true) :: H) :: O) 0 b = some (.tb T [x,.i (.v (.slice none 0 0))]):=by
  simp only [zaa,List.getElem?_cons_zero,zab,if_neg hbn]; exact hb
 have hwb:=hI.own _ _ _ hob
 have e0:(fun d n => upd ρ nm l0 (0 + d) n) = upd ρ nm l0:=by funext d n; rw [Nat.zero_add]
 have e1:(fun d n => shape (((nm,Ob.arr e z 0 [] true) :: H) :: O) (0 + d) n) = shape (((nm,Ob.arr e z 0 [] true) :: H) :: O):=by funext d n; rw [Nat.zero_add]
 obtain ⟨cur,hc,hrc,hKb⟩:=hwb
 rw [e0,List.drop_zero] at hrc
 have hnew:RepDL K (fun d n => upd ρ nm l0 (0 + d) n) (fun d n => shape (((nm,Ob.arr e z 0 [] true) :: H) :: O) (0 + d) n) cur.toList [x,.osl 0 nm]:=by
  rw [e0,e1]
  generalize cur.toList = L at hrc
  cases hrc with
  | cons h1 h2 => cases h2 with
   | cons h3 h4 =>
    cases h4
    rw [zaN h3]
    have:=RepD.osl (K:=K) (ρ:=upd ρ nm l0) (sh:=shape (((nm,Ob.arr e z 0 [] true) :: H) :: O)) (dep:=0) (nm:=nm) (es:=z) (len:=0) (by simp [shape,zaa,zab,Ob.sh])
    rw [zaJ] at this
    exact .cons h1 (.cons this .nil)
 have hI2:=hI.put (ob':=.tb T [x,.osl 0 nm]) hob rfl trivial trivial (w':=w) rfl (fun _ _ => rfl) ⟨rfl,rfl,rfl⟩ (fun o' x' hx' => by rw [hKb] at hx'; cases hx') ⟨cur,hc,hnew,hKb⟩
 have hsh:shape (setAt (((nm,Ob.arr e z 0 [] true) :: H) :: O) 0 b (.tb T [x,.osl 0 nm])) = shape (((nm,Ob.arr e z 0 [] true) :: H) :: O):=zbc hob rfl
 refine ⟨K,upd ρ nm l0,hI2,hi.defers,hi.size,fun t' d e' => ?_⟩
 have:=hi.slots _ _ e'
 rw [hS] at this
 show RepD K _ (shape (((b,.tb T [x,.osl 0 nm]) :: (nm,.arr e z 0 [] true) :: H) :: O)) _ _
 have hsh:shape (((b,.tb T [x,.osl 0 nm]) :: (nm,.arr e z 0 [] true) :: H) :: O) = shape (((nm,Ob.arr e z 0 [] true) :: H) :: O):=hsh
 rw [hsh]
 exact this.stays hst
end
end Go.AI


namespace Go.Proofs
open Go.Shelf Go.RowKit
theorem zuW:(Tryz.prog.info? 217).map (·.size) = some 2:=by kernel_rfl
theorem zvX:liesAt Tryz.prog Tryz.prog.depth 217 (2 / Tryz.prog.cellsOf 217) 0 217 1 = true:=by kernel_rfl
set_option maxRecDepth 100000 in
theorem zsD (b:Nat) (w:World) (h0:w.cell? ⟨b,0,none⟩ = some (.pointer (some ⟨b,0,none⟩))) :
  Calls Tryz.prog 176 #[.pointer (some ⟨b,0,none⟩)] w fun e w' => e = .returned (.tuple #[]) ∧ w' = w:=by
 obtain ⟨j,hj,_⟩:=Option.map_eq_some_iff.1 zuW
 have u72:=run_underlying Tryz.underlying217
 have u70:=run_underlying Tryz.underlying215
 have u4:=run_underlying Tryz.underlying4
 have u164:=run_underlying Tryz.underlying290
 go_enter Tryz.func176,Tryz.ntmps176
 go_wp2
 rw [Lib.run_neq_ptr_same w _ Tryz.underlying215 hj]
 go_wp2
 go_end0
 exact ⟨rfl,rfl⟩
set_option maxRecDepth 100000 in
theorem zqA (b:Nat) (w:World) (h0:w.cell? ⟨b,0,none⟩ = some (.pointer none)) (hsh:w.shape? b = some (217,2)) (hfz:w.frozen? ⟨b,0,none⟩ = false) :
  Calls Tryz.prog 176 #[.pointer (some ⟨b,0,none⟩)] w fun e w' => e = .returned (.tuple #[]) ∧ w' = w.setCell ⟨b,0,none⟩ (.pointer (some ⟨b,0,none⟩)):=by
 obtain ⟨j,hj,hjs⟩:=Option.map_eq_some_iff.1 zuW
 have u72:=run_underlying Tryz.underlying217
 have u70:=run_underlying Tryz.underlying215
 have u4:=run_underlying Tryz.underlying4
 have u164:=run_underlying Tryz.underlying290
 go_enter Tryz.func176,Tryz.ntmps176
 go_wp2
 rw [Lib.run_to_unsafe w ⟨b,0,none⟩ Tryz.underlying215 Tryz.underlying290 hj (by rw [hjs]; decide) hsh (Nat.zero_lt_succ 1)]
 simp only [Result.andThen]
 rw [Oper.upon_value]
 go_wp2
 rw [run_callFunc_extern Tryz.func208 (by kernel_rfl) (by kernel_rfl) (by kernel_rfl) (e:=Extern.AbiNoEscape.same) (by kernel_rfl)]
 rw [Lib.run_noEscape]
 simp only [Result.andThen]
 rw [Oper.upon_value]
 go_wp2
 rw [Lib.run_from_unsafe w ⟨b,0,none⟩ Tryz.underlying290 Tryz.underlying215 hj hsh zvX]
 simp only [Result.andThen]
 rw [Oper.upon_value]
 go_wp2
 go_end0
 exact ⟨rfl,rfl⟩
theorem zdH (b:Nat) (p v:Value) (bs:List Value) (w:World) (hp:p = .pointer none ∨ p = .pointer (some ⟨b,0,none⟩)) (hbk:w.heap[b]? = some (.cells #[p,v] 217 (0,0)))
  (hrow:w.ownsRow 0 5 1 v bs.length bs) (hne:v.ownBlock ≠ some b) :
  Calls Tryz.prog 176 #[.pointer (some ⟨b,0,none⟩)] w fun e w' => e = .returned (.tuple #[]) ∧ (w'.heap[b]? = some (.cells #[.pointer (some ⟨b,0,none⟩),v] 217 (0,0)) ∧ w'.ownsRow 0 5 1 v bs.length bs) ∧
   ((w' = w ∧ p = .pointer (some ⟨b,0,none⟩)) ∨ (w' = w.setCell ⟨b,0,none⟩ (.pointer (some ⟨b,0,none⟩)) ∧ p = .pointer none)):=by
 have hc:w.cell? ⟨b,0,none⟩ = some p:=by rw [Lib.cell_of_heap hbk]; rfl
 rcases hp with rfl | rfl
 ·have hsh:w.shape? b = some (217,2):=by simp [World.shape?,hbk]
  refine (zqA b w hc hsh (Lib.frozen_of_heap hbk 0)).mono ?_
  rintro e w' ⟨rfl,rfl⟩
  exact ⟨rfl,⟨zgv hbk,znA hrow fun k hk => Go.Deep.blk_setCell_other w _ _ k fun e => hne (by rw [hk,e])⟩,.inr ⟨rfl,rfl⟩⟩
 ·refine (zsD b w hc).mono ?_
  rintro e w' ⟨rfl,rfl⟩
  exact ⟨rfl,⟨hbk,hrow⟩,.inl ⟨rfl,rfl⟩⟩
set_option maxRecDepth 100000 in
theorem zqG (b:Nat) (p v0:Value) (bs:List Value) (s:ByteArray) (w:World) (hp:p = .pointer none ∨ p = .pointer (some ⟨b,0,none⟩)) (hbk0:w.heap[b]? = some (.cells #[p,v0] 217 (0,0)))
  (hrow:w.ownsRow 0 5 1 v0 bs.length bs) (hne:v0.ownBlock ≠ some b) (hlen:bs.length + s.size ≤ 140737488355328) :
  Calls Tryz.prog 133 #[.pointer (some ⟨b,0,none⟩),.string s] w fun e w' => e = .returned (.tuple #[.int .i64 s.size,.nilIface]) ∧ zkN 217 5 b p v0 bs (Lib.strCells s) w w':=by
 obtain ⟨i0,hi,hz0,hz1,hz2⟩:=info_parts Tryz.Builder_Extra_169.infoByte
 have u72:=run_underlying Tryz.underlying217
 have u70:=run_underlying Tryz.underlying215
 have u37:=run_underlying Tryz.underlying44
 have u9:=run_underlying Tryz.underlying9
 have u4:=run_underlying Tryz.underlying4
 have u5:=run_underlying Tryz.underlying5
 have u3:=run_underlying Tryz.underlying3
 have e240:∀ args w,(callFunc 176 args).run Tryz.prog w = .ok (.enter 176 args) w:=Tryz.call176
 go_enter Tryz.func133,Tryz.ntmps133
 go_wp2_with (go_at_fn 176; refine (zdH b p v0 bs _ hp hbk0 hrow hne).mono ?_)
 rintro e w1 ⟨rfl,⟨hbk,hown⟩,hb1⟩
 have c0:w1.cell? ⟨b,0,none⟩ = some (.pointer (some ⟨b,0,none⟩)):=by rw [Lib.cell_of_heap hbk]; rfl
 have c1:w1.cell? ⟨b,1,none⟩ = some v0:=by rw [Lib.cell_of_heap hbk]; rfl
 have hlt:b < w1.heap.size:=by
  rcases Nat.lt_or_ge b w1.heap.size with h' | h'
  ·exact h'
  ·simp [Array.getElem?_eq_none h'] at hbk
 go_wp2_with (at_builtin; refine zgT _ rfl _ _ 44 9 rfl 5 i0 Tryz.underlying44 Tryz.underlying9 hi hz0 hz1 hz2 _ _ _ rfl hown s rfl ?c3 ?c4 ?_)
 case c3 => unfold maxLen; omega
 case c4 => omega
 intro v' w2 hown' hgrow hat
 have hb2:w2.heap[b]? = some (.cells #[.pointer (some ⟨b,0,none⟩),v0] 217 (0,0)):=by
  rw [hgrow.block b hlt (fun e => hne e.symm)]
  exact hbk
 have d0:w2.cell? ⟨b,0,none⟩ = some (.pointer (some ⟨b,0,none⟩)):=by rw [Lib.cell_of_heap hb2]; rfl
 have d1:w2.cell? ⟨b,1,none⟩ = some v0:=by rw [Lib.cell_of_heap hb2]; rfl
 have f1:w2.frozen? ⟨b,1,none⟩ = false:=Lib.frozen_of_heap hb2 1
 have hfin:zkN 217 5 b p v0 bs (Lib.strCells s) w (w2.setCell ⟨b,1,none⟩ v'):=⟨w1,w1,w2,v',hb1,.inl rfl,by simpa [Lib.strCells_length] using hown',hgrow,hat,rfl⟩
 obtain ⟨ao,n',cap,rfl⟩:∃ ao n' cap,v' = .slice ao n' cap:=by
  rcases hown'.2 with ⟨hv,_⟩ | ⟨g,cap,cur,hv,_⟩
  ·exact ⟨_,_,_,hv⟩
  ·exact ⟨_,_,_,hv⟩
 go_wp2
 go_ret2
 exact ⟨rfl,hfin⟩
set_option maxRecDepth 100000 in
theorem zkI (b:Nat) (p v0:Value) (bs:List Value) (c:Int) (w:World) (hp:p = .pointer none ∨ p = .pointer (some ⟨b,0,none⟩)) (hbk0:w.heap[b]? = some (.cells #[p,v0] 217 (0,0)))
  (hrow:w.ownsRow 0 5 1 v0 bs.length bs) (hne:v0.ownBlock ≠ some b) (hlen:bs.length + 1 ≤ 140737488355328) :
  Calls Tryz.prog 135 #[.pointer (some ⟨b,0,none⟩),.int .u8 c] w fun e w' => e = .returned .nilIface ∧ zkN 217 5 b p v0 bs [.int .u8 c] w w':=by
 obtain ⟨i0,hi,hz0,hz1,hz2⟩:=info_parts Tryz.Builder_Extra_169.infoByte
 have u72:=run_underlying Tryz.underlying217
 have u70:=run_underlying Tryz.underlying215
 have u37:=run_underlying Tryz.underlying44
 have u4:=run_underlying Tryz.underlying4
 have u5:=run_underlying Tryz.underlying5
 have e240:∀ args w,(callFunc 176 args).run Tryz.prog w = .ok (.enter 176 args) w:=Tryz.call176
 go_enter Tryz.func135,Tryz.ntmps135
 go_wp2_with (go_at_fn 176; refine (zdH b p v0 bs _ hp hbk0 hrow hne).mono ?_)
 rintro e w1 ⟨rfl,⟨hbk,hown⟩,hb1⟩
 have c0:w1.cell? ⟨b,0,none⟩ = some (.pointer (some ⟨b,0,none⟩)):=by rw [Lib.cell_of_heap hbk]; rfl
 have c1:w1.cell? ⟨b,1,none⟩ = some v0:=by rw [Lib.cell_of_heap hbk]; rfl
 have hlt:b < w1.heap.size:=by
  rcases Nat.lt_or_ge b w1.heap.size with h' | h'
  ·exact h'
  ·simp [Array.getElem?_eq_none h'] at hbk
 go_wp2_with (at_builtin; refine zb2 _ rfl _ _ 44 rfl 5 i0 Tryz.underlying44 hi hz0 hz1 hz2 _ _ _ rfl (hown.alloc _) ⟨w1.heap.size,0,none⟩ 1 1 [.int .u8 c] rfl rfl ?c1 ?c2 ?c3 ?c4 ?_)
 case c1 =>
  intro j u hj
  match j,hj with
  | 0,hj => simp at hj; subst hj; simp [Addr.add]
 case c2 => intro u hu; simp at hu; subst hu; rfl
 case c3 => unfold maxLen; omega
 case c4 => omega
 intro v' w2 hown' hgrow hat
 have hb2:w2.heap[b]? = some (.cells #[.pointer (some ⟨b,0,none⟩),v0] 217 (0,0)):=by
  rw [hgrow.block b (by simp; omega) (fun e => hne e.symm),Lib.alloc_old w1 _ b hlt]
  exact hbk
 have d0:w2.cell? ⟨b,0,none⟩ = some (.pointer (some ⟨b,0,none⟩)):=by rw [Lib.cell_of_heap hb2]; rfl
 have d1:w2.cell? ⟨b,1,none⟩ = some v0:=by rw [Lib.cell_of_heap hb2]; rfl
 have f1:w2.frozen? ⟨b,1,none⟩ = false:=Lib.frozen_of_heap hb2 1
 have hfin:zkN 217 5 b p v0 bs [.int .u8 c] w (w2.setCell ⟨b,1,none⟩ v'):=⟨w1,_,w2,v',hb1,.inr ⟨_,rfl⟩,by simpa using hown',hgrow,hat,rfl⟩
 obtain ⟨g,cap,rfl⟩:∃ g cap,v' = .slice (some ⟨g,0,none⟩) (bs.length + 1) cap:=by
  rcases hown'.2 with ⟨_,h0⟩ | ⟨g,cap,cur,hv,_⟩
  ·omega
  ·exact ⟨g,cap,hv⟩
 go_wp2
 go_ret
 exact ⟨rfl,hfin⟩
end Go.Proofs
namespace Go.AI
open Go.Proofs
theorem ztw (s:ByteArray):zsL Tryz.prog 133 217 5 (.tuple #[.int .i64 s.size,.nilIface]) (.string s) (Lib.strCells s):=
 fun b p v0 bs w hp hbk hrow hne hlen => zqG b p v0 bs s w hp hbk hrow hne (by rw [Lib.strCells_length] at hlen; exact hlen)
theorem zre (c:Int):zsL Tryz.prog 135 217 5 .nilIface (.int .u8 c) [.int .u8 c]:=
 fun b p v0 bs w hp hbk hrow hne hlen => zkI b p v0 bs c w hp hbk hrow hne (by simpa using hlen)
theorem ztE:zvJ Tryz.prog 136 217 5:=fun b p v l w hbk hown h0 => zn1 Tryz.lays169 Tryz.Builder_Extra_169 b p v l w hbk hown h0
end Go.AI


namespace Go.Proofs
open Go.Shelf Go.RowKit
def zdj (r:Int):List Value:=if r ≤ 127 then [.int .u8 r] else if r ≤ 2047 then [.int .u8 (192 + r / 64),.int .u8 (128 + r % 64)] else [.int .u8 (224 + r / 4096),.int .u8 (128 + r / 64 % 64),.int .u8 (128 + r % 64)]
set_option maxRecDepth 100000 in
theorem zn4 (v:Value) (n:Nat) (xs:List Value) (r:Int) (h0:128 ≤ r) (h1:r ≤ 2047) (w:World) (hown:w.ownsRow 0 5 1 v n xs) (hlen:n + 2 ≤ 140737488355328) :
  Calls Tryz.prog 227 #[v,.int .i32 r] w fun e w' => ∃ v',e = .returned v' ∧ w'.ownsRow 0 5 1 v' (n + 2) (xs ++ [.int .u8 (192 + r / 64),.int .u8 (128 + r % 64)]) ∧ ∃ o,(w.alloc o).grownBy w' v.ownBlock ∧ ziF (w.alloc o) v v':=by
 obtain ⟨i0,hi,hz0,hz1,hz2⟩:=info_parts Tryz.Builder_Extra_169.infoByte
 have u4:=run_underlying Tryz.underlying4
 have u5:=run_underlying Tryz.underlying5
 have u21:=run_underlying Tryz.underlying21
 have u156:=run_underlying Tryz.underlying44
 have u134:=run_underlying Tryz.underlying234
 have u174:=run_underlying Tryz.underlying275
 go_enter Tryz.func227,Tryz.ntmps227
 go_wp2_with (at_builtin; refine zb2 _ rfl _ _ 44 rfl 5 i0 Tryz.underlying44 hi hz0 hz1 hz2 _ _ _ rfl (hown.alloc _) ⟨w.heap.size,0,none⟩ 2 2 [.int .u8 (192 + r / 64),.int .u8 (128 + r % 64)] rfl rfl ?c1 ?c2 ?c3 ?c4 ?_)
 case c1 =>
  intro j u hj
  match j,hj with
  | 0,hj => simp at hj; subst hj; simp [Addr.add]
  | 1,hj => simp at hj; subst hj; simp [Addr.add]
  | (j + 2),hj => simp at hj
 case c2 => intro u hu; simp at hu; rcases hu with rfl | rfl <;> rfl
 case c3 => unfold maxLen; omega
 case c4 => omega
 intro v' w2 hown' hgrow hat
 go_wp2
 go_ret
 exact ⟨_,rfl,hown',_,hgrow,hat⟩
set_option maxRecDepth 100000 in
theorem zjH (v:Value) (n:Nat) (xs:List Value) (r:Int) (h0:2048 ≤ r) (h1:r < 55296) (w:World) (hown:w.ownsRow 0 5 1 v n xs) (hlen:n + 3 ≤ 140737488355328) :
  Calls Tryz.prog 227 #[v,.int .i32 r] w fun e w' => ∃ v',e = .returned v' ∧ w'.ownsRow 0 5 1 v' (n + 3) (xs ++ [.int .u8 (224 + r / 4096),.int .u8 (128 + r / 64 % 64),.int .u8 (128 + r % 64)]) ∧ ∃ o,(w.alloc o).grownBy w' v.ownBlock ∧ ziF (w.alloc o) v v':=by
 obtain ⟨i0,hi,hz0,hz1,hz2⟩:=info_parts Tryz.Builder_Extra_169.infoByte
 have u4:=run_underlying Tryz.underlying4
 have u5:=run_underlying Tryz.underlying5
 have u21:=run_underlying Tryz.underlying21
 have u156:=run_underlying Tryz.underlying44
 have u134:=run_underlying Tryz.underlying234
 have u174:=run_underlying Tryz.underlying275
 go_enter Tryz.func227,Tryz.ntmps227
 go_wp2_with (at_builtin; refine zb2 _ rfl _ _ 44 rfl 5 i0 Tryz.underlying44 hi hz0 hz1 hz2 _ _ _ rfl (hown.alloc _) ⟨w.heap.size,0,none⟩ 3 3 [.int .u8 (224 + r / 4096),.int .u8 (128 + r / 64 % 64),.int .u8 (128 + r % 64)] rfl rfl ?c1 ?c2 ?c3 ?c4 ?_)
 case c1 =>
  intro j u hj
  match j,hj with
  | 0,hj => simp at hj; subst hj; simp [Addr.add]
  | 1,hj => simp at hj; subst hj; simp [Addr.add]
  | 2,hj => simp at hj; subst hj; simp [Addr.add]
  | (j + 3),hj => simp at hj
 case c2 => intro u hu; simp at hu; rcases hu with rfl | rfl | rfl <;> rfl
 case c3 => unfold maxLen; omega
 case c4 => omega
 intro v' w2 hown' hgrow hat
 go_wp2
 go_ret
 exact ⟨_,rfl,hown',_,hgrow,hat⟩
set_option maxRecDepth 100000 in
theorem zvI (v:Value) (n:Nat) (xs:List Value) (r:Int) (h0:0 ≤ r) (h1:r < 55296) (w:World) (hown:w.ownsRow 0 5 1 v n xs) (hlen:n + (zdj r).length ≤ 140737488355328) :
  Calls Tryz.prog 218 #[v,.int .i32 r] w fun e w' => ∃ v',e = .returned v' ∧ w'.ownsRow 0 5 1 v' (n + (zdj r).length) (xs ++ zdj r) ∧ ∃ o,(w.alloc o).grownBy w' v.ownBlock ∧ ziF (w.alloc o) v v':=by
 obtain ⟨i0,hi,hz0,hz1,hz2⟩:=info_parts Tryz.Builder_Extra_169.infoByte
 have u4:=run_underlying Tryz.underlying4
 have u5:=run_underlying Tryz.underlying5
 have u21:=run_underlying Tryz.underlying21
 have u156:=run_underlying Tryz.underlying44
 have u134:=run_underlying Tryz.underlying234
 have u174:=run_underlying Tryz.underlying275
 have e145:∀ args w,(callFunc 227 args).run Tryz.prog w = .ok (.enter 227 args) w:=Tryz.call227
 unfold zdj at hlen ⊢
 by_cases c1:r ≤ 127
 ·rw [if_pos c1] at hlen ⊢
  simp only [List.length_singleton] at hlen
  go_enter Tryz.func218,Tryz.ntmps218
  go_wp2_with (at_builtin; refine zb2 _ rfl _ _ 44 rfl 5 i0 Tryz.underlying44 hi hz0 hz1 hz2 _ _ _ rfl (hown.alloc _) ⟨w.heap.size,0,none⟩ 1 1 [.int .u8 r] rfl rfl ?c1 ?c2 ?c3 ?c4 ?_)
  case c1 =>
   intro j u hj
   match j,hj with
   | 0,hj => simp at hj; subst hj; simp [Addr.add]
   | (j + 1),hj => simp at hj
  case c2 => intro u hu; simp at hu; subst hu; rfl
  case c3 => unfold maxLen; omega
  case c4 => omega
  intro v' w2 hown' hgrow hat
  go_wp2
  go_ret
  exact ⟨_,rfl,hown',_,hgrow,hat⟩
 ·rw [if_neg c1] at hlen ⊢
  have c1':128 ≤ r:=by omega
  clear c1
  by_cases c2:r ≤ 2047
  ·rw [if_pos c2] at hlen ⊢
   simp only [List.length_cons,List.length_nil] at hlen
   go_enter Tryz.func218,Tryz.ntmps218
   go_wp2_with (go_at_fn 227; refine (zn4 v n xs r (by omega) c2 _ hown hlen).mono ?_)
   rintro e w1 ⟨v',rfl,h1,o,h2,h3⟩
   go_wp2
   go_ret
   exact ⟨_,rfl,h1,_,h2,h3⟩
  ·rw [if_neg c2] at hlen ⊢
   simp only [List.length_cons,List.length_nil] at hlen
   have c2':2048 ≤ r:=by omega
   clear c2
   go_enter Tryz.func218,Tryz.ntmps218
   go_wp2_with (go_at_fn 227; refine (zjH v n xs r (by omega) h1 _ hown hlen).mono ?_)
   rintro e w1 ⟨v',rfl,h1,o,h2,h3⟩
   go_wp2
   go_ret
   exact ⟨_,rfl,h1,_,h2,h3⟩
end Go.Proofs
namespace Go.Proofs
open Go.Shelf Go.RowKit
theorem zrx (r:Int):(zdj r).length ≤ 3:=by
 unfold zdj
 split
 ·simp
 ·split <;> simp
set_option maxRecDepth 100000 in
theorem zsH (b:Nat) (p v0:Value) (bs:List Value) (r:Int) (h0:0 ≤ r) (h1:r < 55296) (w:World) (hp:p = .pointer none ∨ p = .pointer (some ⟨b,0,none⟩)) (hbk0:w.heap[b]? = some (.cells #[p,v0] 217 (0,0)))
  (hrow:w.ownsRow 0 5 1 v0 bs.length bs) (hne:v0.ownBlock ≠ some b) (hlen:bs.length + (zdj r).length ≤ 140737488355328) :
  Calls Tryz.prog 192 #[.pointer (some ⟨b,0,none⟩),.int .i32 r] w fun e w' => e = .returned (.tuple #[.int .i64 (zdj r).length,.nilIface]) ∧ zkN 217 5 b p v0 bs (zdj r) w w':=by
 obtain ⟨i0,hi,hz0,hz1,hz2⟩:=info_parts Tryz.Builder_Extra_169.infoByte
 have u158:=run_underlying Tryz.underlying217
 have u155:=run_underlying Tryz.underlying215
 have u156:=run_underlying Tryz.underlying44
 have u4:=run_underlying Tryz.underlying4
 have u5:=run_underlying Tryz.underlying5
 have u3:=run_underlying Tryz.underlying3
 have u21:=run_underlying Tryz.underlying21
 have e132:∀ args w,(callFunc 176 args).run Tryz.prog w = .ok (.enter 176 args) w:=Tryz.call176
 have e141:∀ args w,(callFunc 218 args).run Tryz.prog w = .ok (.enter 218 args) w:=Tryz.call218
 have hrl:=zrx r
 obtain ⟨ao0,n0,cap0,hv0⟩:∃ ao n cap,v0 = .slice ao n cap:=by
  rcases hrow.2 with ⟨hv,_⟩ | ⟨g,cap,cur,hv,_⟩
  ·exact ⟨_,_,_,hv⟩
  ·exact ⟨_,_,_,hv⟩
 have hn0:n0 = bs.length:=by
  rcases hrow.2 with ⟨hv,hx⟩ | ⟨g,cap,cur,hv,_⟩
  ·rw [hv0] at hv; simp at hv; omega
  ·rw [hv0] at hv; simp at hv; exact hv.2.1
 subst hn0
 subst hv0
 go_enter Tryz.func192,Tryz.ntmps192
 go_wp2_with (go_at_fn 176; refine (zdH b p _ bs _ hp hbk0 hrow hne).mono ?_)
 rintro e w1 ⟨rfl,⟨hbk,hown⟩,hb1⟩
 have c0:w1.cell? ⟨b,0,none⟩ = some (.pointer (some ⟨b,0,none⟩)):=by rw [Lib.cell_of_heap hbk]; rfl
 have c1:w1.cell? ⟨b,1,none⟩ = some (.slice ao0 bs.length cap0):=by rw [Lib.cell_of_heap hbk]; rfl
 have hlt:b < w1.heap.size:=by
  rcases Nat.lt_or_ge b w1.heap.size with h' | h'
  ·exact h'
  ·simp [Array.getElem?_eq_none h'] at hbk
 go_wp2_with (go_at_fn 218; refine (zvI _ _ bs r h0 h1 _ hown hlen).mono ?_)
 rintro e w2 ⟨v',rfl,hown',o,hgrow,hat⟩
 have hb2:w2.heap[b]? = some (.cells #[.pointer (some ⟨b,0,none⟩),.slice ao0 bs.length cap0] 217 (0,0)):=by
  rw [hgrow.block b (by simp [World.size_alloc]; omega) (fun e => hne e.symm),Lib.alloc_old w1 _ b hlt]
  exact hbk
 have d0:w2.cell? ⟨b,0,none⟩ = some (.pointer (some ⟨b,0,none⟩)):=by rw [Lib.cell_of_heap hb2]; rfl
 have d1:w2.cell? ⟨b,1,none⟩ = some (.slice ao0 bs.length cap0):=by rw [Lib.cell_of_heap hb2]; rfl
 have f1:w2.frozen? ⟨b,1,none⟩ = false:=Lib.frozen_of_heap hb2 1
 have hfin:zkN 217 5 b p (.slice ao0 bs.length cap0) bs (zdj r) w (w2.setCell ⟨b,1,none⟩ v'):=⟨w1,_,w2,v',hb1,.inr ⟨_,rfl⟩,hown',hgrow,hat,rfl⟩
 obtain ⟨ao,n',cap,rfl,hn'⟩:∃ ao n' cap,v' = .slice ao n' cap ∧ n' = bs.length + (zdj r).length:=by
  rcases hown'.2 with ⟨hv,hx⟩ | ⟨g,cap,cur,hv,_⟩
  ·exact ⟨_,_,_,hv,by omega⟩
  ·exact ⟨_,_,_,hv,rfl⟩
 subst hn'
 go_wp2
 rw [show ((bs.length:Int) + ((zdj r).length:Int) - (bs.length:Int)) = ((zdj r).length:Int) by omega]
 go_ret2
 exact ⟨rfl,hfin⟩
end Go.Proofs
namespace Go.AI
open Go.Proofs
theorem zrf (r:Int) (h0:0 ≤ r) (h1:r < 55296):zsL Tryz.prog 192 217 5 (.tuple #[.int .i64 (zdj r).length,.nilIface]) (.int .i32 r) (zdj r):=
 fun b p v0 bs w hp hbk hrow hne hlen => zsH b p v0 bs r h0 h1 w hp hbk hrow hne hlen
def zey (r:Int):List UInt8:=if r ≤ 127 then [UInt8.ofNat r.toNat] else if r ≤ 2047 then [UInt8.ofNat (192 + r / 64).toNat,UInt8.ofNat (128 + r % 64).toNat] else [UInt8.ofNat (224 + r / 4096).toNat,UInt8.ofNat (128 + r / 64 % 64).toNat,UInt8.ofNat (128 + r % 64).toNat]
theorem ziL (k:Int) (h0:0 ≤ k) (h1:k < 256):((UInt8.ofNat k.toNat).toNat:Int) = k:=by
 have:(UInt8.ofNat k.toNat).toNat = k.toNat % 256:=by simp
 omega
theorem zry (r:Int) (h0:0 ≤ r) (h1:r < 55296):zdj r = (zey r).map fun b => Value.int .u8 b.toNat:=by
 unfold zdj zey
 by_cases c1:r ≤ 127
 ·rw [if_pos c1,if_pos c1]
  simp only [List.map_cons,List.map_nil]
  rw [ziL r h0 (by omega)]
 ·rw [if_neg c1,if_neg c1]
  by_cases c2:r ≤ 2047
  ·rw [if_pos c2,if_pos c2]
   simp only [List.map_cons,List.map_nil]
   rw [ziL _ (by omega) (by omega),ziL _ (by omega) (by omega)]
  ·rw [if_neg c2,if_neg c2]
   simp only [List.map_cons,List.map_nil]
   rw [ziL _ (by omega) (by omega),ziL _ (by omega) (by omega),ziL _ (by omega) (by omega)]
theorem zrw (r:Int):zey r ≠ []:=by
 unfold zey
 split
 ·simp
 ·split <;> simp
theorem zlJ (r:Int):(zey r).length ≤ 3:=by
 unfold zey
 split
 ·simp
 ·split <;> simp
abbrev oby (T:List UInt8):Ob:=.arr 5 1 T.length (u8l T) true
theorem zj5 (T s:List UInt8):Ob.arr 5 1 (T.length + s.length) (u8l T ++ u8l s) true = oby (T ++ s):=by rw [ztA]; simp [oby]
theorem zjM (K:Kn) (s:ByteArray):RepL K (Lib.strCells s) (u8l s.data.toList).flatten:=zhH K s.data.toList
theorem zfQ (s:ByteArray):s.data.toList.length = s.size:=by rw [Array.length_toList]; rfl
theorem zuu {c:Cx} (hP:c.P = Tryz.prog) {s:St} {o:Oper} {t nm nm2:Nat} {dp:D} {H:Heap} {O:List Heap} (sb:ByteArray) (T:List UInt8) (hdp:dp = .i (.v (.pointer none)) ∨ dp = .own 0 nm 0 0) (hlim:T.length + sb.size ≤ 140737488355328) (ht:o.dst = some t) (hn:t < s.n) (hS:s.S = H :: O)
  (hb:look H nm = some (.tb 217 [dp,.osl 0 nm2])) (ha:look H nm2 = some (oby T)) (hne:nm ≠ nm2) :
  Wp c o s 133 [.own 0 nm 0 0,.i (.v (.string sb))] { σ:=(t,.tup [ii sb.size,.i (.v .nilIface)]) :: zd2 nm2 s.σ,S:=((nm,.tb 217 [.own 0 nm 0 0,.osl 0 nm2]) :: (nm2,oby (T ++ sb.data.toList)) :: zaU nm2 ((nm,.tb 217 [.own 0 nm 0 0,.osl 0 nm2]) :: H)) :: O,n:=s.n }:=by
 have h:=zfg (c:=c) (s:=s) (o:=o) (ys:=u8l sb.data.toList) (m:=sb.data.toList.length) (T:=217) (ty:=5) (rd:=.tup [ii sb.size,.i (.v .nilIface)]) (dx:=.i (.v (.string sb))) (x:=.string sb) (res:=.tuple #[.int .i64 sb.size,.nilIface]) (xs:=u8l T) (n:=T.length) (by rw [hP]; exact ztw sb) (by rw [hP]; exact Tryz.call133)
  (fun K ρ sh v h => zaN h) (fun K ρ sh => .tup (.cons (.i (.v rfl)) (.cons (.i (.v rfl)) .nil))) hdp ht hn hS hb ha hne (fun K => zjM K sb) (zoB _) (by simp [u8l]) (by rw [zfQ]; exact hlim)
 rwa [zj5] at h
theorem zqu {c:Cx} (hP:c.P = Tryz.prog) {s:St} {o:Oper} {t nm nm2:Nat} {dp:D} {H:Heap} {O:List Heap} {T:List UInt8} (h0:T ≠ []) (ht:o.dst = some t) (hn:t < s.n) (hS:s.S = H :: O)
  (hb:look H nm = some (.tb 217 [dp,.osl 0 nm2])) (ha:look H nm2 = some (oby T)) :
  Wp c o s 136 [.own 0 nm 0 0] { σ:=(t,.i (.v (.string ⟨T.toArray⟩))) :: zd2 nm2 s.σ,S:=((nm2,.arr 5 1 0 [] true) :: zaU nm2 H) :: O,n:=s.n }:=
 zqt (c:=c) (s:=s) (o:=o) (T:=217) (ty:=5) (by rw [hP]; exact ztE) (by rw [hP]; exact Tryz.call136) h0 ht hn hS hb ha
theorem zuw {c:Cx} (hP:c.P = Tryz.prog) {s:St} {o:Oper} {t nm nm2:Nat} {dp:D} {H:Heap} {O:List Heap} (b:UInt8) (T:List UInt8) (hdp:dp = .i (.v (.pointer none)) ∨ dp = .own 0 nm 0 0) (hlim:T.length + 1 ≤ 140737488355328) (ht:o.dst = some t) (hn:t < s.n) (hS:s.S = H :: O)
  (hb:look H nm = some (.tb 217 [dp,.osl 0 nm2])) (ha:look H nm2 = some (oby T)) (hne:nm ≠ nm2) :
  Wp c o s 135 [.own 0 nm 0 0,.i (.v (.int .u8 b.toNat))] { σ:=(t,.i (.v .nilIface)) :: zd2 nm2 s.σ,S:=((nm,.tb 217 [.own 0 nm 0 0,.osl 0 nm2]) :: (nm2,oby (T ++ [b])) :: zaU nm2 ((nm,.tb 217 [.own 0 nm 0 0,.osl 0 nm2]) :: H)) :: O,n:=s.n }:=by
 have h:=zfg (c:=c) (s:=s) (o:=o) (ys:=u8l [b]) (m:=1) (T:=217) (ty:=5) (rd:=.i (.v .nilIface)) (dx:=.i (.v (.int .u8 b.toNat))) (x:=.int .u8 b.toNat) (res:=.nilIface) (xs:=u8l T) (n:=T.length) (by rw [hP]; exact zre b.toNat) (by rw [hP]; exact Tryz.call135)
  (fun K ρ sh v h => zaN h) (fun K ρ sh => .i (.v rfl)) hdp ht hn hS hb ha hne (fun K => zhH K [b]) (zoB _) (by simp [u8l]) hlim
 rwa [show T.length + 1 = T.length + [b].length from rfl,zj5] at h
theorem zuv {c:Cx} (hP:c.P = Tryz.prog) {s:St} {o:Oper} {t nm nm2:Nat} {dp:D} {H:Heap} {O:List Heap} (r:Int) (h0:0 ≤ r) (h1:r < 55296) (T:List UInt8) (hdp:dp = .i (.v (.pointer none)) ∨ dp = .own 0 nm 0 0) (hlim:T.length + 3 ≤ 140737488355328) (ht:o.dst = some t) (hn:t < s.n) (hS:s.S = H :: O)
  (hb:look H nm = some (.tb 217 [dp,.osl 0 nm2])) (ha:look H nm2 = some (oby T)) (hne:nm ≠ nm2) :
  Wp c o s 192 [.own 0 nm 0 0,.i (.v (.int .i32 r))] { σ:=(t,.dead) :: zd2 nm2 s.σ,S:=((nm,.tb 217 [.own 0 nm 0 0,.osl 0 nm2]) :: (nm2,oby (T ++ zey r)) :: zaU nm2 ((nm,.tb 217 [.own 0 nm 0 0,.osl 0 nm2]) :: H)) :: O,n:=s.n }:=by
 have hl:=zlJ r
 have h:=zfg (c:=c) (s:=s) (o:=o) (ys:=u8l (zey r)) (m:=(zey r).length) (T:=217) (ty:=5) (rd:=.dead) (dx:=.i (.v (.int .i32 r))) (x:=.int .i32 r) (res:=.tuple #[.int .i64 (zdj r).length,.nilIface]) (xs:=u8l T) (n:=T.length) (by rw [hP]; exact zrf r h0 h1) (by rw [hP]; exact Tryz.call192)
  (fun K ρ sh v h => zaN h) (fun K ρ sh => .dead _) hdp ht hn hS hb ha hne (fun K => by rw [zry r h0 h1]; exact zhH K (zey r)) (zoB _) (by simp [u8l]) (by omega)
 rwa [zj5] at h
end Go.AI


namespace Go.AI
open Go.Proofs
set_option maxRecDepth 20000
theorem zkF (O:List Heap) (l:List Int) (n:Int) (hl:l.length ≤ zas):zao Tryz.prog 190 [ints l,ii n] O (ii (zal n l none)) [] O:=by
 generalize hR:zal n l none = R
 refine zat [6,8] Tk Tryz.func190 rfl Tryz.call190 Tryz.ntmps190 (Nat.le_of_ble_eq_true rfl) fun E => ?_
 refine zae Tk Tryz.func190 ?_
 refine zac ?_
 refine zah (fun x:Nat × Option Int => [(0,ints l),(1,ii n),(7,ints l),(8,ii l.length),(9,ii x.1)]) (fun _ => []) (fun _ => O) 35
  (fun x => x.1 ≤ l.length ∧ zal n (l.drop x.1) x.2 = R ∧ ((x.1 = 0 ∧ x.2 = none) ∨ ∃ h:0 < x.1 ∧ x.1 - 1 < l.length,x.2 = some (l[x.1 - 1]'h.2))) (fun x => l.length - x.1) (0,none) ⟨Nat.zero_le _,hR,.inl ⟨rfl,rfl⟩⟩ ⟨rfl,rfl,rfl,rfl,rfl,trivial⟩ rfl trivial rfl rfl ?_
 rintro ⟨i,prev⟩ ⟨hi,hno,hp⟩ ih
 simp only at hi hno hp
 clear hR
 refine zae Tk Tryz.func190 ?_
 refine zai Tk Tryz.func190 rfl (fun g1 => ?_) (fun g1 => ?_)
 ·have h1:i < l.length:=by simpa using g1
  have gl:(l.map fun x => [vi x])[(i:Int).toNat]? = some [vi l[i]]:=zaj (f:=fun x => [vi x]) h1
  have dl:l.drop i = l[i] :: l.drop (i + 1):=List.drop_eq_getElem_cons h1
  rw [dl] at hno
  simp only [zal] at hno
  clear dl
  have hi1:ii (IntKind.i64.wrap ((i:Int) + 1)) = ii ((i + 1:Nat):Int):=congrArg ii (zaD h1 hl)
  have hnext:(i + 1 = 0 ∧ some l[i] = none) ∨ ∃ h:0 < i + 1 ∧ i + 1 - 1 < l.length,some l[i] = some (l[i + 1 - 1]'h.2):=.inr ⟨⟨by omega,by omega⟩,rfl⟩
  generalize hx:l[i] = x at *
  refine zag Tk Tryz.func190 (by exact ⟨by omega,by show (i:Int) < (l.length:Int); omega⟩) ?_
  refine zap Tk Tryz.func190 (gl) ?_
  apply zbS (P:=¬ (x < 0 ∨ x ≥ n)) (s6:={ σ:=[(0,ints l),(1,ii n),(5,ii i),(6,ii x),(7,ints l),(8,ii l.length),(9,ii i)],S:=[] :: O,n:=35 })
  ·intro J
   refine zaR Tk Tryz.func190 rfl (fun c1 => ?_) (fun c1 => ?_)
   ·have c1:x < 0:=of_decide_eq_true c1
    rw [if_pos (.inl c1)] at hno
    subst hno
    refine gcT Tk Tryz.func190 rfl ?_
    refine zak Tk (r:=ii 2) rfl rfl rfl trivial rfl rfl ?_
    rfl
   have c1:¬ x < 0:=of_decide_eq_false c1
   refine zai Tk Tryz.func190 rfl (fun c2 => ?_) (fun c2 => ?_)
   ·have c2:x ≥ n:=of_decide_eq_true c2
    rw [if_pos (.inr c2)] at hno
    subst hno
    refine zak Tk (r:=ii 2) rfl rfl rfl trivial rfl rfl ?_
    rfl
   have c2:¬ x ≥ n:=of_decide_eq_false c2
   refine zav ?_
   refine zaz (J (by rintro (h | h); exact c1 h; exact c2 h)) ⟨rfl,rfl,rfl,rfl,rfl,rfl,rfl,trivial⟩ rfl trivial rfl rfl
  ·intro hc
   rw [if_neg hc] at hno
   refine zae Tk Tryz.func190 ?_
   refine g_go Tk Tryz.func190 ?_
   rcases hp with ⟨h0,hpr⟩ | ⟨hp1,hpr⟩
   ·rw [hpr] at hno
    rw [if_neg (by simp)] at hno
    refine zaR Tk Tryz.func190 rfl (fun c3 => ?_) (fun c3 => ?_)
    ·have c3:(i:Int) > 0:=of_decide_eq_true c3
     omega
    refine gcF Tk Tryz.func190 rfl ?_
    refine zav ?_
    refine zae Tk Tryz.func190 ?_
    refine g_go Tk Tryz.func190 ?_
    refine zac ?_
    exact ih (i + 1,some x) _ _ ⟨h1,hno,hnext⟩ (by simp only; omega) ⟨rfl,rfl,rfl,rfl,hi1,trivial⟩ rfl trivial rfl rfl
   ·have gp:(l.map fun x => [vi x])[(IntKind.i64.wrap ((i:Int) - 1)).toNat]? = some [vi (l[i - 1]'hp1.2)]:=by
     rw [w64 (by omega) (by simp only [zas] at hl; omega),show ((i:Int) - 1).toNat = i - 1 by omega]
     rw [List.getElem?_map,List.getElem?_eq_getElem hp1.2]
     rfl
    have hwp:IntKind.i64.wrap ((i:Int) - 1) = (i:Int) - 1:=w64 (by omega) (by simp only [zas] at hl; omega)
    generalize l[i - 1]'hp1.2 = y at *
    refine zaR Tk Tryz.func190 rfl (fun c3 => ?_) (fun c3 => ?_)
    rotate_left
    ·have c3:¬ (i:Int) > 0:=of_decide_eq_false c3
     omega
    refine zag Tk Tryz.func190 (by rw [hwp]; exact ⟨by omega,by show (i:Int) - 1 < (l.length:Int); omega⟩) ?_
    refine zap Tk Tryz.func190 (gp) ?_
    rw [hpr] at hno
    refine zai Tk Tryz.func190 rfl (fun c4 => ?_) (fun c4 => ?_)
    ·have c4:x ≤ y:=of_decide_eq_true c4
     rw [if_pos (by simpa using c4)] at hno
     subst hno
     refine zak Tk (r:=ii 5) rfl rfl rfl trivial rfl rfl ?_
     rfl
    have c4:¬ x ≤ y:=of_decide_eq_false c4
    rw [if_neg (by simpa using c4)] at hno
    refine zav ?_
    refine zae Tk Tryz.func190 ?_
    refine g_go Tk Tryz.func190 ?_
    refine zac ?_
    exact ih (i + 1,some x) _ _ ⟨h1,hno,hnext⟩ (by simp only; omega) ⟨rfl,rfl,rfl,rfl,hi1,trivial⟩ rfl trivial rfl rfl
 ·have h1:l.length ≤ i:=by simpa using g1
  rw [List.drop_eq_nil_of_le h1] at hno
  simp only [zal] at hno
  subst hno
  refine zak Tk (r:=ii 0) rfl rfl rfl trivial rfl rfl ?_
  rfl
theorem zi5 (O:List Heap) (a:Aut) (on:List Int) (hl:a.edges.length ≤ zas) (hal:a.alpha.length ≤ zas) (hmk:a.marked.length ≤ zas) (hon:on.length ≤ zas):zao Tryz.prog 150 [autD a,ints on] O (ii (if chkA a ≠ 0 then chkA a else zal 32 on none)) [] O:=by
 have h:=fun O => zeU O a hl hal hmk
 generalize chkA a = e at *
 obtain ⟨al,n,mk,es⟩:=a
 refine zad Tk Tryz.func150 rfl Tryz.call150 Tryz.ntmps150 (Nat.le_of_ble_eq_true rfl) fun E => ?_
 refine zae Tk Tryz.func150 ?_
 refine zaf Tk Tryz.func150 (h _) rfl rfl rfl rfl rfl ?_
 refine zai Tk Tryz.func150 rfl (fun c1 => ?_) (fun c1 => ?_)
 ·have c1:e ≠ 0:=bneT c1
  refine zak Tk (r:=ii e) rfl rfl rfl trivial rfl rfl ?_
  rw [if_pos c1]
 ·have c1:e = 0:=bneF c1
  refine zaf Tk Tryz.func150 (zkF _ on 32 hon) rfl rfl rfl rfl rfl ?_
  refine zak Tk (r:=ii (zal 32 on none)) rfl rfl rfl trivial rfl rfl ?_
  rw [if_neg (by simp [c1])]
end Go.AI


namespace Go.AI
open Go.Proofs
set_option maxRecDepth 20000
end Go.AI


namespace Go.AI
open Go.Proofs
set_option maxRecDepth 20000
end Go.AI


namespace Go.AI
open Go.Proofs
set_option maxRecDepth 20000
def zaQ (l:List Int) (n:Nat):List Int:=((List.range n).map fun (i:Nat) => (i:Int)).filter fun x => decide (x ∈ l)
theorem zfy (l:List Int) (n:Nat):zaQ l (n + 1) = zaQ l n ++ if (n:Int) ∈ l then [(n:Int)] else []:=by
 simp only [zaQ,List.range_succ,List.map_append,List.filter_append,List.map_cons,List.map_nil,List.filter_cons,List.filter_nil,decide_eq_true_eq]
theorem zfN (l:List Int) (n:Nat):(zaQ l n).length ≤ n:=by
 unfold zaQ
 refine Nat.le_trans (List.length_filter_le _ _) ?_
 simp
end Go.AI


namespace Go.AI
open Go.Proofs
set_option maxRecDepth 20000
end Go.AI


namespace Go.AI
open Go.Proofs
set_option maxRecDepth 20000
theorem zvo (O:List Heap) (l:List Int) (x:Int) (hl:l.length ≤ zas):zao Tryz.prog 129 [ints l,ii x] O (bb (decide (x ∈ l))) [] O:=by
 have hR:decide (x ∈ l) = decide (x ∈ l.drop 0):=rfl
 generalize decide (x ∈ l) = R at *
 refine zad Tk Tryz.func129 rfl Tryz.call129 Tryz.ntmps129 (Nat.le_of_ble_eq_true rfl) fun E => ?_
 refine zae Tk Tryz.func129 ?_
 refine zac ?_
 refine zah (fun i:Nat => [(0,ints l),(1,ii x),(5,ii i)]) (fun _ => []) (fun _ => O) 18
  (fun i => i ≤ l.length ∧ R = decide (x ∈ l.drop i)) (fun i => l.length - i) 0 ⟨Nat.zero_le _,hR⟩ ⟨rfl,rfl,rfl,trivial⟩ rfl trivial rfl rfl ?_
 rintro i ⟨hi,hno⟩ ih
 clear hR
 refine zae Tk Tryz.func129 ?_
 refine zai Tk Tryz.func129 rfl (fun g1 => ?_) (fun g1 => ?_)
 ·have h1:i < l.length:=by simpa using g1
  have gl:(l.map fun x => [vi x])[(i:Int).toNat]? = some [vi l[i]]:=zaj (f:=fun x => [vi x]) h1
  have dl:l.drop i = l[i] :: l.drop (i + 1):=List.drop_eq_getElem_cons h1
  simp only [dl,List.mem_cons] at hno
  clear dl
  generalize l[i] = y at *
  refine zag Tk Tryz.func129 (by exact ⟨by omega,by show (i:Int) < (l.length:Int); omega⟩) ?_
  refine zap Tk Tryz.func129 (gl) ?_
  refine zai Tk Tryz.func129 rfl (fun g2 => ?_) (fun g2 => ?_)
  ·have g2:y = x:=beqT g2
   subst g2
   refine zak Tk (r:=bb true) rfl rfl rfl trivial rfl rfl ?_
   rw [hno]
   simp
  ·have g2:y ≠ x:=beqF g2
   have hno:R = decide (x ∈ l.drop (i + 1)):=by
    rw [hno]
    exact decide_eq_decide.2 ⟨fun h => h.resolve_left (Ne.symm g2),.inr⟩
   refine zac ?_
   exact ih (i + 1) _ _ ⟨h1,hno⟩ (by omega) ⟨rfl,rfl,congrArg ii (zaD h1 hl),trivial⟩ rfl trivial rfl rfl
 ·have h1:l.length ≤ i:=by simpa using g1
  simp only [List.drop_eq_nil_of_le h1] at hno
  refine zak Tk (r:=bb false) rfl rfl rfl trivial rfl rfl ?_
  rw [hno]
  simp
theorem zsd (O:List Heap) (l:List Int) (x:Int) (hl:l.length ≤ zas):zao Tryz.prog 131 [ints l,ii x] O (ii (idxI x l 0)) [] O:=by
 generalize hR:idxI x l 0 = R
 refine zad Tk Tryz.func131 rfl Tryz.call131 Tryz.ntmps131 (Nat.le_of_ble_eq_true rfl) fun E => ?_
 refine zae Tk Tryz.func131 ?_
 refine zac ?_
 refine zah (fun i:Nat => [(0,ints l),(1,ii x),(5,ii i)]) (fun _ => []) (fun _ => O) 19
  (fun i => i ≤ l.length ∧ idxI x (l.drop i) i = R) (fun i => l.length - i) 0 ⟨Nat.zero_le _,hR⟩ ⟨rfl,rfl,rfl,trivial⟩ rfl trivial rfl rfl ?_
 rintro i ⟨hi,hno⟩ ih
 clear hR
 refine zae Tk Tryz.func131 ?_
 refine zai Tk Tryz.func131 rfl (fun g1 => ?_) (fun g1 => ?_)
 ·have h1:i < l.length:=by simpa using g1
  have gl:(l.map fun x => [vi x])[(i:Int).toNat]? = some [vi l[i]]:=zaj (f:=fun x => [vi x]) h1
  have dl:l.drop i = l[i] :: l.drop (i + 1):=List.drop_eq_getElem_cons h1
  rw [dl] at hno
  simp only [idxI] at hno
  clear dl
  generalize l[i] = y at *
  refine zag Tk Tryz.func131 (by exact ⟨by omega,by show (i:Int) < (l.length:Int); omega⟩) ?_
  refine zap Tk Tryz.func131 (gl) ?_
  refine zai Tk Tryz.func131 rfl (fun g2 => ?_) (fun g2 => ?_)
  ·have g2:y = x:=beqT g2
   rw [if_pos g2.symm] at hno
   subst hno
   refine zak Tk (r:=ii (i:Int)) rfl rfl rfl trivial rfl rfl ?_
   rfl
  ·have g2:y ≠ x:=beqF g2
   rw [if_neg (Ne.symm g2)] at hno
   refine zac ?_
   exact ih (i + 1) _ _ ⟨h1,hno⟩ (by omega) ⟨rfl,rfl,congrArg ii (zaD h1 hl),trivial⟩ rfl trivial rfl rfl
 ·have h1:l.length ≤ i:=by simpa using g1
  rw [List.drop_eq_nil_of_le h1] at hno
  simp only [idxI] at hno
  subst hno
  refine zak Tk (r:=ii (-1)) rfl rfl rfl trivial rfl rfl ?_
  rfl
def stp3 (es:List Edg) (s ev:Int):Int:=match es with
 | [] => -1
 | x :: r => if x.1 = s ∧ x.2.1 = ev then x.2.2 else stp3 r s ev
theorem zoL (O:List Heap) (a:Aut) (s ev:Int) (hl:a.edges.length ≤ zas):zao Tryz.prog 130 [autD a,ii s,ii ev] O (ii (stp3 a.edges s ev)) [] O:=by
 obtain ⟨al,st,mk,es⟩:=a
 simp only at hl ⊢
 generalize hR:stp3 es s ev = R
 refine zad Tk Tryz.func130 rfl Tryz.call130 Tryz.ntmps130 (Nat.le_of_ble_eq_true rfl) fun E => ?_
 refine zae Tk Tryz.func130 ?_
 refine zac ?_
 refine zah (fun i:Nat => [(1,ii s),(2,ii ev),(3,.own 0 3 0 0),(7,ii i)]) (fun _ => [(3,.box [ints al,ii st,ints mk,edgs es])]) (fun _ => O) 39
  (fun i => i ≤ es.length ∧ stp3 (es.drop i) s ev = R) (fun i => es.length - i) 0 ⟨Nat.zero_le _,hR⟩ ⟨rfl,rfl,rfl,rfl,trivial⟩ rfl ⟨rfl,trivial⟩ rfl rfl ?_
 rintro i ⟨hi,hno⟩ ih
 clear hR
 refine zae Tk Tryz.func130 ?_
 refine zai Tk Tryz.func130 rfl (fun g1 => ?_) (fun g1 => ?_)
 ·have h1:i < es.length:=by simpa using g1
  have ge:(es.map edgI)[(i:Int).toNat]? = some (edgI es[i]):=zaj h1
  have dl:es.drop i = es[i] :: es.drop (i + 1):=List.drop_eq_getElem_cons h1
  rw [dl] at hno
  simp only [stp3] at hno
  clear dl
  generalize es[i] = y at *
  obtain ⟨yf,ye,yt⟩:=y
  simp only at hno
  have n1:0 ≤ (i:Int) ∧ (i:Int) < (es.length:Int):=by omega
  refine zag Tk Tryz.func130 (by exact n1) ?_
  refine zap Tk Tryz.func130 (ge) ?_
  refine zaR Tk Tryz.func130 rfl (fun g2 => ?_) (fun g2 => ?_)
  ·have g2:yf = s:=beqT g2
   refine zag Tk Tryz.func130 (by exact n1) ?_
   refine zap Tk Tryz.func130 (ge) ?_
   refine zai Tk Tryz.func130 rfl (fun g3 => ?_) (fun g3 => ?_)
   ·have g3:ye = ev:=beqT g3
    rw [if_pos ⟨g2,g3⟩] at hno
    subst hno
    refine zag Tk Tryz.func130 (by exact n1) ?_
    refine zap Tk Tryz.func130 (ge) ?_
    refine zak Tk (r:=ii yt) rfl rfl rfl trivial rfl rfl ?_
    rfl
   ·have g3:ye ≠ ev:=beqF g3
    rw [if_neg (fun h => g3 h.2)] at hno
    refine zac ?_
    exact ih (i + 1) _ _ ⟨h1,hno⟩ (by omega) ⟨rfl,rfl,rfl,congrArg ii (zaD h1 hl),trivial⟩ rfl ⟨rfl,trivial⟩ rfl rfl
  ·have g2:yf ≠ s:=beqF g2
   rw [if_neg (fun h => g2 h.1)] at hno
   refine gcF Tk Tryz.func130 rfl ?_
   refine zac ?_
   exact ih (i + 1) _ _ ⟨h1,hno⟩ (by omega) ⟨rfl,rfl,rfl,congrArg ii (zaD h1 hl),trivial⟩ rfl ⟨rfl,trivial⟩ rfl rfl
 ·have h1:es.length ≤ i:=by simpa using g1
  rw [List.drop_eq_nil_of_le h1] at hno
  simp only [stp3] at hno
  subst hno
  refine zak Tk (r:=ii (-1)) rfl rfl rfl trivial rfl rfl ?_
  rfl
theorem zmi (O:List Heap) (l:List Int) (hl:l.length ≤ 1000000):zao Tryz.prog 75 [ints l] O (.agg [ints l,ii 0,.i (.v (.slice none 0 0)),.i (.v (.slice none 0 0))]) [] O:=by
 refine zad Tk Tryz.func75 rfl Tryz.call75 Tryz.ntmps75 (Nat.le_of_ble_eq_true rfl) fun E => ?_
 refine zae Tk Tryz.func75 ?_
 refine zag Tk Tryz.func75 (by exact ⟨by show (0 + l.length) * 8 ≤ 140737488355328; omega,by show 0 + l.length ≤ 9223372036854775807; omega⟩) ?_
 refine zcF (zan 5 rfl rfl) ?_
 refine zcF (zd4 rfl) ?_
 refine zb5 Tk (r:=_) rfl rfl rfl trivial rfl rfl ?_
 show CoD (.agg [.i (.sl 1 (0 + l.length) ([] ++ l.map fun x => [vi x])),ii 0,.i (.v (.slice none 0 0)),.i (.v (.slice none 0 0))]) _
 rw [Nat.zero_add,List.nil_append]
 exact CoD.refl _
end Go.AI


namespace Go.AI
theorem zda:∀ {n:Nat} {l:List Nat},l.Nodup → (∀ x ∈ l,x < n) → l.length ≤ n
 | 0,l,_,h => by
  cases l with
  | nil => exact Nat.le_refl _
  | cons a r => exact absurd (h a (by simp)) (Nat.not_lt_zero _)
 | n + 1,l,hn,h => by
  by_cases hm:n ∈ l
  ·have h1:=zda (n:=n) (l:=l.erase n) (hn.erase n) fun x hx => by
    have hx2:=(hn.mem_erase_iff).1 hx
    have:=h x hx2.2
    have:=hx2.1
    omega
   rw [List.length_erase_of_mem hm] at h1
   omega
  ·have:=zda (n:=n) (l:=l) hn fun x hx => by
    have h1:=h x hx
    have:x ≠ n:=fun e => hm (e ▸ hx)
    omega
   omega
structure autOk (a:Aut):Prop where
 ed:a.edges.length ≤ 1000000
 al:a.alpha.length ≤ 1000000
 mkd:a.marked.length ≤ 1000000
 chk:chkA a = 0
theorem zaB {a:Aut} (h:chkA a = 0):zal 32 a.alpha none = 0 ∧ (0 ≤ a.states ∧ a.states ≤ 4096) ∧ zal a.states a.marked none = 0 ∧ zcA a.alpha a.states none a.edges = 0:=by
 unfold chkA at h
 by_cases h1:zal 32 a.alpha none ≠ 0
 ·rw [if_pos h1] at h; exact absurd h h1
 rw [if_neg h1] at h
 by_cases h2:a.states < 0
 ·rw [if_pos h2] at h; cases h
 rw [if_neg h2] at h
 by_cases h3:a.states > 4096
 ·rw [if_pos h3] at h; cases h
 rw [if_neg h3] at h
 by_cases h4:zal a.states a.marked none ≠ 0
 ·rw [if_pos h4] at h; exact absurd h h4
 rw [if_neg h4] at h
 exact ⟨by simpa using h1,by omega,by simpa using h4,h⟩
end Go.AI
