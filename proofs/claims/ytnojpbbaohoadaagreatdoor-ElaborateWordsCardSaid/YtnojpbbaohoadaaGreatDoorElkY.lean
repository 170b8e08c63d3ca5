/- The layer of abstract runs, part 25. -/
import Derived.Test.YtnojpbbaohoadaaGreatDoorElkX
import Derived.Shelf.Strings.Builder1
import Derived.Deep.Heap
import Derived.KernelRfl
import Derived.Lib.SlicesCompact
import Derived.Lib.SliceRun
set_option linter.unusedSimpArgs false
set_option linter.unusedVariables false
set_option linter.all false
set_option maxHeartbeats 4000000
namespace Go.AI
open Go.Proofs
set_option maxRecDepth 20000
abbrev edgD (e:Edg):D:=.agg [ii e.1,ii e.2.1,ii e.2.2]
def fndE (l:List Edg) (s:Int):Bool:=match l[lowE l s]? with
 | some e => e.1 - s == 0
 | none => false
theorem zxf {l:List Edg} {s:Int} {i:Nat} (hi:i ≤ l.length) (h1:∀ k (h:k < l.length),k < i → l[k].1 < s) (h2:∀ k (h:k < l.length),i ≤ k → s ≤ l[k].1):lowE l s = i:=by
 rcases Nat.lt_trichotomy (lowE l s) i with h | h | h
 ·have hl:lowE l s < l.length:=by omega
  have a:=h1 _ hl h
  have h0:decide (s ≤ (l[lowE l s]).1) = true:=List.findIdx_getElem (p:=fun e:Edg => decide (s ≤ e.1)) (w:=hl)
  have h0:=of_decide_eq_true h0
  omega
 ·exact h
 ·have hl:i < l.length:=by have:=zfl l s; omega
  have a:=ziM h hl
  have b:=h2 _ hl (Nat.le_refl _)
  omega
theorem zhg (O:List Heap) (l:List Int) (n:Int) (hl:l.length ≤ zao):zan Tryz.prog 209 [ints l,ii n] O (ii (zaw n l none)) [] O:=by
 generalize hR:zaw n l none = R
 refine zaN [6,8] Tk Tryz.func209 rfl Tryz.call209 Tryz.ntmps209 (Nat.le_of_ble_eq_true rfl) fun E => ?_
 refine zah Tk Tryz.func209 ?_
 refine zaf ?_
 refine zal (fun x:Nat × Option Int => [(0,ints l),(1,ii n),(7,ints l),(8,ii l.length),(9,ii x.1)]) (fun _ => []) (fun _ => O) 35
  (fun x => x.1 ≤ l.length ∧ zaw n (l.drop x.1) x.2 = R ∧ ((x.1 = 0 ∧ x.2 = none) ∨ ∃ h:0 < x.1 ∧ x.1 - 1 < l.length,x.2 = some (l[x.1 - 1]'h.2))) (fun x => l.length - x.1) (0,none) ⟨Nat.zero_le _,hR,.inl ⟨rfl,rfl⟩⟩ ⟨rfl,rfl,rfl,rfl,rfl,trivial⟩ rfl trivial rfl rfl ?_
 rintro ⟨i,prev⟩ ⟨hi,hno,hp⟩ ih
 simp only at hi hno hp
 clear hR
 refine zah Tk Tryz.func209 ?_
 refine zai Tk Tryz.func209 rfl (fun g1 => ?_) (fun g1 => ?_)
 ·have h1:i < l.length:=by simpa using g1
  have gl:(l.map fun x => [vi x])[(i:Int).toNat]? = some [vi l[i]]:=zam (f:=fun x => [vi x]) h1
  have dl:l.drop i = l[i] :: l.drop (i + 1):=List.drop_eq_getElem_cons h1
  rw [dl] at hno
  simp only [zaw] at hno
  clear dl
  have hi1:ii (IntKind.i64.wrap ((i:Int) + 1)) = ii ((i + 1:Nat):Int):=congrArg ii (zaE h1 hl)
  have hnext:(i + 1 = 0 ∧ some l[i] = none) ∨ ∃ h:0 < i + 1 ∧ i + 1 - 1 < l.length,some l[i] = some (l[i + 1 - 1]'h.2):=.inr ⟨⟨by omega,by omega⟩,rfl⟩
  generalize hx:l[i] = x at *
  refine zaj Tk Tryz.func209 (by exact ⟨by omega,by show (i:Int) < (l.length:Int); omega⟩) ?_
  refine zaq Tk Tryz.func209 (gl) ?_
  apply zbR (P:=¬ (x < 0 ∨ x ≥ n)) (s6:={ σ:=[(0,ints l),(1,ii n),(5,ii i),(6,ii x),(7,ints l),(8,ii l.length),(9,ii i)],S:=[] :: O,n:=35 })
  ·intro J
   refine zaA Tk Tryz.func209 rfl (fun c1 => ?_) (fun c1 => ?_)
   ·have c1:x < 0:=of_decide_eq_true c1
    rw [if_pos (.inl c1)] at hno
    subst hno
    refine gcT Tk Tryz.func209 rfl ?_
    refine zae Tk (r:=ii 2) rfl rfl rfl trivial rfl rfl ?_
    rfl
   have c1:¬ x < 0:=of_decide_eq_false c1
   refine zai Tk Tryz.func209 rfl (fun c2 => ?_) (fun c2 => ?_)
   ·have c2:x ≥ n:=of_decide_eq_true c2
    rw [if_pos (.inr c2)] at hno
    subst hno
    refine zae Tk (r:=ii 2) rfl rfl rfl trivial rfl rfl ?_
    rfl
   have c2:¬ x ≥ n:=of_decide_eq_false c2
   refine zaz ?_
   refine zaF (J (by rintro (h | h); exact c1 h; exact c2 h)) ⟨rfl,rfl,rfl,rfl,rfl,rfl,rfl,trivial⟩ rfl trivial rfl rfl
  ·intro hc
   rw [if_neg hc] at hno
   refine zah Tk Tryz.func209 ?_
   refine g_go Tk Tryz.func209 ?_
   rcases hp with ⟨h0,hpr⟩ | ⟨hp1,hpr⟩
   ·rw [hpr] at hno
    rw [if_neg (by simp)] at hno
    refine zaA Tk Tryz.func209 rfl (fun c3 => ?_) (fun c3 => ?_)
    ·have c3:(i:Int) > 0:=of_decide_eq_true c3
     omega
    refine gcF Tk Tryz.func209 rfl ?_
    refine zaz ?_
    refine zah Tk Tryz.func209 ?_
    refine g_go Tk Tryz.func209 ?_
    refine zaf ?_
    exact ih (i + 1,some x) _ _ ⟨h1,hno,hnext⟩ (by simp only; omega) ⟨rfl,rfl,rfl,rfl,hi1,trivial⟩ rfl trivial rfl rfl
   ·have gp:(l.map fun x => [vi x])[(IntKind.i64.wrap ((i:Int) - 1)).toNat]? = some [vi (l[i - 1]'hp1.2)]:=by
     rw [w64 (by omega) (by simp only [zao] at hl; omega),show ((i:Int) - 1).toNat = i - 1 by omega]
     rw [List.getElem?_map,List.getElem?_eq_getElem hp1.2]
     rfl
    have hwp:IntKind.i64.wrap ((i:Int) - 1) = (i:Int) - 1:=w64 (by omega) (by simp only [zao] at hl; omega)
    generalize l[i - 1]'hp1.2 = y at *
    refine zaA Tk Tryz.func209 rfl (fun c3 => ?_) (fun c3 => ?_)
    rotate_left
    ·have c3:¬ (i:Int) > 0:=of_decide_eq_false c3
     omega
    refine zaj Tk Tryz.func209 (by rw [hwp]; exact ⟨by omega,by show (i:Int) - 1 < (l.length:Int); omega⟩) ?_
    refine zaq Tk Tryz.func209 (gp) ?_
    rw [hpr] at hno
    refine zai Tk Tryz.func209 rfl (fun c4 => ?_) (fun c4 => ?_)
    ·have c4:x ≤ y:=of_decide_eq_true c4
     rw [if_pos (by simpa using c4)] at hno
     subst hno
     refine zae Tk (r:=ii 5) rfl rfl rfl trivial rfl rfl ?_
     rfl
    have c4:¬ x ≤ y:=of_decide_eq_false c4
    rw [if_neg (by simpa using c4)] at hno
    refine zaz ?_
    refine zah Tk Tryz.func209 ?_
    refine g_go Tk Tryz.func209 ?_
    refine zaf ?_
    exact ih (i + 1,some x) _ _ ⟨h1,hno,hnext⟩ (by simp only; omega) ⟨rfl,rfl,rfl,rfl,hi1,trivial⟩ rfl trivial rfl rfl
 ·have h1:l.length ≤ i:=by simpa using g1
  rw [List.drop_eq_nil_of_le h1] at hno
  simp only [zaw] at hno
  subst hno
  refine zae Tk (r:=ii 0) rfl rfl rfl trivial rfl rfl ?_
  rfl
theorem zja (O:List Heap) (a:Aut) (hl:a.edges.length ≤ zao) (hal:a.alpha.length ≤ zao):zan Tryz.prog 210 [autD a] O (ii (zcL a.alpha a.states none a.edges)) [] O:=by
 obtain ⟨al,n,mk,es⟩:=a
 simp only at hl hal ⊢
 generalize hR:zcL al n none es = R
 refine zaa Tk Tryz.func210 rfl Tryz.call210 Tryz.ntmps210 (Nat.le_of_ble_eq_true rfl) fun E => ?_
 refine zah Tk Tryz.func210 ?_
 refine zaf ?_
 refine zal (fun x:Nat × Option Edg => [(1,.own 0 1 0 0),(7,edgs es),(8,ii es.length),(9,ii x.1)]) (fun _ => [(1,.box [ints al,ii n,ints mk,edgs es])]) (fun _ => O) 72
  (fun x => x.1 ≤ es.length ∧ zcL al n x.2 (es.drop x.1) = R ∧ ((x.1 = 0 ∧ x.2 = none) ∨ ∃ h:0 < x.1 ∧ x.1 - 1 < es.length,x.2 = some (es[x.1 - 1]'h.2))) (fun x => es.length - x.1) (0,none) ⟨Nat.zero_le _,hR,.inl ⟨rfl,rfl⟩⟩ ⟨rfl,rfl,rfl,rfl,trivial⟩ rfl ⟨rfl,trivial⟩ rfl rfl ?_
 rintro ⟨i,prev⟩ ⟨hi,hno,hp⟩ ih
 simp only at hi hno hp
 clear hR
 refine zah Tk Tryz.func210 ?_
 refine zai Tk Tryz.func210 rfl (fun g1 => ?_) (fun g1 => ?_)
 ·have h1:i < es.length:=by simpa using g1
  have ge:(es.map edgI)[(i:Int).toNat]? = some (edgI es[i]):=zam h1
  have dl:es.drop i = es[i] :: es.drop (i + 1):=List.drop_eq_getElem_cons h1
  rw [dl] at hno
  simp only [zcL] at hno
  clear dl
  have hi1:ii (IntKind.i64.wrap ((i:Int) + 1)) = ii ((i + 1:Nat):Int):=congrArg ii (zaE h1 hl)
  have hnext:(i + 1 = 0 ∧ some es[i] = none) ∨ ∃ h:0 < i + 1 ∧ i + 1 - 1 < es.length,some es[i] = some (es[i + 1 - 1]'h.2):=.inr ⟨⟨by omega,by omega⟩,rfl⟩
  have hcn:=zhb (l:=al) (x:=es[i].2.1) (hl:=hal)
  generalize hx:es[i] = x at *
  obtain ⟨xf,xe,xt⟩:=x
  simp only at hno hcn
  refine zaj Tk Tryz.func210 (by exact ⟨by omega,by show (i:Int) < (es.length:Int); omega⟩) ?_
  refine zaq Tk Tryz.func210 (ge) ?_
  refine zaA Tk Tryz.func210 rfl (fun c1 => ?_) (fun c1 => ?_)
  ·have c1:xf < 0:=of_decide_eq_true c1
   rw [if_pos (.inl c1)] at hno
   subst hno
   repeat (first | refine gcT Tk Tryz.func210 rfl ?_ | refine gkT Tk Tryz.func210 rfl ?_ | refine skT Tk ?_ | refine gcF Tk Tryz.func210 rfl ?_ | refine gkF Tk Tryz.func210 rfl ?_ | refine skF Tk ?_)
   refine zae Tk (r:=ii 2) rfl rfl rfl trivial rfl rfl ?_
   rfl
  have c1:¬ xf < 0:=of_decide_eq_false c1
  refine zaA Tk Tryz.func210 rfl (fun c2 => ?_) (fun c2 => ?_)
  ·have c2:xf ≥ n:=of_decide_eq_true c2
   rw [if_pos (.inr (.inl c2))] at hno
   subst hno
   repeat (first | refine gcT Tk Tryz.func210 rfl ?_ | refine gkT Tk Tryz.func210 rfl ?_ | refine skT Tk ?_ | refine gcF Tk Tryz.func210 rfl ?_ | refine gkF Tk Tryz.func210 rfl ?_ | refine skF Tk ?_)
   refine zae Tk (r:=ii 2) rfl rfl rfl trivial rfl rfl ?_
   rfl
  have c2:¬ xf ≥ n:=of_decide_eq_false c2
  refine zaA Tk Tryz.func210 rfl (fun c3 => ?_) (fun c3 => ?_)
  ·have c3:xt < 0:=of_decide_eq_true c3
   rw [if_pos (.inr (.inr (.inl c3)))] at hno
   subst hno
   refine gcT Tk Tryz.func210 rfl ?_
   refine zae Tk (r:=ii 2) rfl rfl rfl trivial rfl rfl ?_
   rfl
  have c3:¬ xt < 0:=of_decide_eq_false c3
  refine zai Tk Tryz.func210 rfl (fun c4 => ?_) (fun c4 => ?_)
  ·have c4:xt ≥ n:=of_decide_eq_true c4
   rw [if_pos (.inr (.inr (.inr c4)))] at hno
   subst hno
   refine zae Tk (r:=ii 2) rfl rfl rfl trivial rfl rfl ?_
   rfl
  have c4:¬ xt ≥ n:=of_decide_eq_false c4
  rw [if_neg (by omega)] at hno
  refine zag Tk Tryz.func210 (hcn _) rfl rfl rfl rfl rfl ?_
  refine zai Tk Tryz.func210 rfl (fun c5 => ?_) (fun c5 => ?_)
  ·have c5:decide (xe ∈ al) = false:=notT c5
   have c5:xe ∉ al:=of_decide_eq_false c5
   rw [if_pos c5] at hno
   subst hno
   refine zae Tk (r:=ii 9) rfl rfl rfl trivial rfl rfl ?_
   rfl
  have c5:decide (xe ∈ al) = true:=notF c5
  have c5:xe ∈ al:=of_decide_eq_true c5
  rw [if_neg (by simpa using c5)] at hno
  rcases hp with ⟨h0,hpr⟩ | ⟨hp1,hpr⟩
  ·rw [hpr,if_neg (by simp)] at hno
   refine zai Tk Tryz.func210 rfl (fun c6 => ?_) (fun c6 => ?_)
   rotate_left
   ·have c6:(i:Int) ≠ 0:=beqF c6
    omega
   refine zaf ?_
   exact ih (i + 1,some (xf,xe,xt)) _ _ ⟨h1,hno,hnext⟩ (by simp only; omega) ⟨rfl,rfl,rfl,hi1,trivial⟩ rfl ⟨rfl,trivial⟩ rfl rfl
  ·have gp:(es.map edgI)[(IntKind.i64.wrap ((i:Int) - 1)).toNat]? = some (edgI (es[i - 1]'hp1.2)):=by
    rw [w64 (by omega) (by simp only [zao] at hl; omega),show ((i:Int) - 1).toNat = i - 1 by omega]
    rw [List.getElem?_map,List.getElem?_eq_getElem hp1.2]
    rfl
   have hwp:IntKind.i64.wrap ((i:Int) - 1) = (i:Int) - 1:=w64 (by omega) (by simp only [zao] at hl; omega)
   rw [hpr] at hno
   generalize es[i - 1]'hp1.2 = y at *
   obtain ⟨yf,ye,yt⟩:=y
   simp only [Option.any_some,decide_eq_true_eq] at hno
   refine zai Tk Tryz.func210 rfl (fun c6 => ?_) (fun c6 => ?_)
   ·have c6:(i:Int) = 0:=beqT c6
    omega
   refine zaj Tk Tryz.func210 (by rw [hwp]; exact ⟨by omega,by show (i:Int) - 1 < (es.length:Int); omega⟩) ?_
   refine zaq Tk Tryz.func210 (gp) ?_
   refine zaA Tk Tryz.func210 rfl (fun c7 => ?_) (fun c7 => ?_)
   ·have c7:xf < yf:=of_decide_eq_true c7
    rw [if_pos (.inl c7)] at hno
    subst hno
    refine gcT Tk Tryz.func210 rfl ?_
    refine zae Tk (r:=ii 5) rfl rfl rfl trivial rfl rfl ?_
    rfl
   have c7:¬ xf < yf:=of_decide_eq_false c7
   refine zaA Tk Tryz.func210 rfl (fun c8 => ?_) (fun c8 => ?_)
   ·have c8:xf = yf:=beqT c8
    refine zai Tk Tryz.func210 rfl (fun c9 => ?_) (fun c9 => ?_)
    ·have c9:xe ≤ ye:=of_decide_eq_true c9
     rw [if_pos (.inr ⟨c8,c9⟩)] at hno
     subst hno
     refine zae Tk (r:=ii 5) rfl rfl rfl trivial rfl rfl ?_
     rfl
    ·have c9:¬ xe ≤ ye:=of_decide_eq_false c9
     rw [if_neg (by omega)] at hno
     refine zaf ?_
     exact ih (i + 1,some (xf,xe,xt)) _ _ ⟨h1,hno,hnext⟩ (by simp only; omega) ⟨rfl,rfl,rfl,hi1,trivial⟩ rfl ⟨rfl,trivial⟩ rfl rfl
   ·have c8:xf ≠ yf:=beqF c8
    rw [if_neg (by omega)] at hno
    refine gcF Tk Tryz.func210 rfl ?_
    refine zaf ?_
    exact ih (i + 1,some (xf,xe,xt)) _ _ ⟨h1,hno,hnext⟩ (by simp only; omega) ⟨rfl,rfl,rfl,hi1,trivial⟩ rfl ⟨rfl,trivial⟩ rfl rfl
 ·have h1:es.length ≤ i:=by simpa using g1
  rw [List.drop_eq_nil_of_le h1] at hno
  simp only [zcL] at hno
  subst hno
  refine zae Tk (r:=ii 0) rfl rfl rfl trivial rfl rfl ?_
  rfl
theorem zvE (O:List Heap) (a:Aut) (hl:a.edges.length ≤ zao) (hal:a.alpha.length ≤ zao) (hmk:a.marked.length ≤ zao):zan Tryz.prog 150 [autD a] O (ii (chkA a)) [] O:=by
 have h1:=fun O => zhg O a.alpha 32 hal
 have h2:=fun O => zhg O a.marked a.states hmk
 have h3:=fun O => zja O a hl hal
 generalize hR:chkA a = R
 unfold chkA at hR
 generalize zaw 32 a.alpha none = e1 at *
 generalize zaw a.states a.marked none = e2 at *
 generalize zcL a.alpha a.states none a.edges = e3 at *
 obtain ⟨al,n,mk,es⟩:=a
 simp only at hR h1 h2 h3
 refine zaa Tk Tryz.func150 rfl Tryz.call150 Tryz.ntmps150 (Nat.le_of_ble_eq_true rfl) fun E => ?_
 refine zah Tk Tryz.func150 ?_
 refine zag Tk Tryz.func150 (h1 _) rfl rfl rfl rfl rfl ?_
 refine zai Tk Tryz.func150 rfl (fun c1 => ?_) (fun c1 => ?_)
 ·have c1:e1 ≠ 0:=bneT c1
  rw [if_pos c1] at hR
  subst hR
  refine zae Tk (r:=ii e1) rfl rfl rfl trivial rfl rfl ?_
  rfl
 have c1:e1 = 0:=bneF c1
 rw [if_neg (by simpa using c1)] at hR
 refine zai Tk Tryz.func150 rfl (fun c2 => ?_) (fun c2 => ?_)
 ·have c2:n < 0:=of_decide_eq_true c2
  rw [if_pos c2] at hR
  subst hR
  refine zae Tk (r:=ii 2) rfl rfl rfl trivial rfl rfl ?_
  rfl
 have c2:¬ n < 0:=of_decide_eq_false c2
 rw [if_neg c2] at hR
 refine zai Tk Tryz.func150 rfl (fun c3 => ?_) (fun c3 => ?_)
 ·have c3:n > 4096:=of_decide_eq_true c3
  rw [if_pos c3] at hR
  subst hR
  refine zae Tk (r:=ii 3) rfl rfl rfl trivial rfl rfl ?_
  rfl
 have c3:¬ n > 4096:=of_decide_eq_false c3
 rw [if_neg c3] at hR
 refine zag Tk Tryz.func150 (h2 _) rfl rfl rfl rfl rfl ?_
 refine zai Tk Tryz.func150 rfl (fun c4 => ?_) (fun c4 => ?_)
 ·have c4:e2 ≠ 0:=bneT c4
  rw [if_pos c4] at hR
  subst hR
  refine zae Tk (r:=ii e2) rfl rfl rfl trivial rfl rfl ?_
  rfl
 have c4:e2 = 0:=bneF c4
 rw [if_neg (by simpa using c4)] at hR
 subst hR
 refine zag Tk Tryz.func150 (h3 _) rfl rfl rfl rfl rfl ?_
 refine zae Tk (r:=ii e3) rfl rfl rfl trivial rfl rfl ?_
 rfl
end Go.AI
namespace Go.Proofs
open Go.Shelf Go.RowKit
variable {P:Program} {ρ:Ren}
theorem zgW {w:World} {b:Nat} {p q v:Value} {T:TypeId} (h:w.heap[b]? = some (.cells #[p,v] T (0,0))):(w.setCell ⟨b,0,none⟩ q).heap[b]? = some (.cells #[q,v] T (0,0)):=by
 show (Array.modify _ _ _)[b]? = _
 rw [Array.getElem?_modify,if_pos rfl,h]
 rfl
theorem zsi {w:World} {b:Nat} {p q v:Value} {T:TypeId} (h:w.heap[b]? = some (.cells #[p,v] T (0,0))):(w.setCell ⟨b,1,none⟩ q).heap[b]? = some (.cells #[p,q] T (0,0)):=by
 show (Array.modify _ _ _)[b]? = _
 rw [Array.getElem?_modify,if_pos rfl,h]
 rfl
theorem zpD {w w':World} {e:TypeId} {v:Value} {n:Nat} {xs:List Value} (h:w.ownsRow 0 e 1 v n xs) (hb:∀ k,v.ownBlock = some k → w'.heap[k]? = w.heap[k]?):w'.ownsRow 0 e 1 v n xs:=by
 refine ⟨h.1,?_⟩
 rcases h.2 with h1 | ⟨g,cap,cur,rfl,h2,h3,h4⟩
 ·exact .inl h1
 ·exact .inr ⟨g,cap,cur,rfl,h2,by rw [hb g rfl]; exact h3,h4⟩
section
variable (w:World)
def zqR (w:World) (v v':Value):Prop:=v'.ownBlock = v.ownBlock ∨ ∀ k,v'.ownBlock = some k → w.heap.size ≤ k
theorem zhy (t u ty e:TypeId) (i:TypeInfo) (ht:P.underlying t = some (.slice e)) (hu:P.underlying u = some .string) (hi:P.info? e = some i) (hz:i.zero = some (.int .u8 0))
  (hsize:i.size = 1) (hby:i.bytes = 1) (v:Value) (n:Nat) (xs:List Value) (hown:w.ownsRow 0 e 1 v n xs) (s:ByteArray) (h63:n + s.size ≤ maxLen) (hbytes:n + s.size ≤ 140737488355328) :
  ∃ v' w',(Builtin.append_ #[t,u] ty #[v,.string s]).run P w = .ok v' w' ∧ w'.ownsRow 0 e 1 v' (n + s.size) (xs ++ Lib.strCells s) ∧ w.grownBy w' v.ownBlock ∧ zqR w v v':=by
 obtain ⟨v',w',hr,h2,h3,-⟩:=Lib.run_append_own_string (P:=P) w 0 t u ty e i ht hu hi hz hsize hby v n xs hown s h63 hbytes (Nat.zero_le _)
 refine ⟨v',w',hr,h2,h3,?_⟩
 have hxl:xs.length = n:=by simpa using hown.1
 rcases hown.2 with ⟨rfl,rfl⟩ | ⟨g,cap,cur,rfl,hbg,hg,hnc,hcm,hcs,htake⟩
 ·obtain rfl:xs = []:=List.eq_nil_of_length_eq_zero hxl
  obtain ⟨v2,w2,hr2,h5,-⟩:=Lib.run_append_own_string (P:=P) w w.heap.size t u ty e i ht hu hi hz hsize hby (.slice none 0 0) 0 [] (World.ownsRow_nil w _ e 1) s h63 hbytes (Nat.le_refl _)
  have e1:v' = v2:=by have:=hr.symm.trans hr2; injection this
  subst e1
  exact .inr fun k hk => (h5.lt k hk).1
 ·by_cases hroom:n + s.size ≤ cap
  ·have hr2:=Lib.run_append_room_string (P:=P) w t u ty e i ht hu hi hsize g n cap cur hg s hroom (by omega)
   have e1:v' = .slice (some ⟨g,0,none⟩) (n + s.size) cap:=by have:=hr.symm.trans hr2; injection this
   subst e1
   exact .inl rfl
  ·have holds:∀ j u,xs[j]? = some u → w.cell? ((⟨g,0,none⟩:Addr).add j) = some u:=hown.cells (g:=g) rfl
   have hr2:=Lib.run_append_grow_string (P:=P) w t u ty e i (.int .u8 0) ht hu hi hz ⟨g,0,none⟩ n cap xs (by rw [hsize]; simpa using hxl) holds s (by omega) (by simp only [maxLen] at h63; omega) (by rw [hby]; exact growslice_fits (by omega) (by omega))
   have e1:v' = .slice (some ⟨w.heap.size,0,none⟩) (n + s.size) (grownCap w (n + s.size) cap e):=by have:=hr.symm.trans hr2; injection this
   subst e1
   exact .inr fun k hk => by simp [Value.ownBlock] at hk; omega
theorem zhz (t ty e:TypeId) (i:TypeInfo) (ht:P.underlying t = some (.slice e)) (hi:P.info? e = some i) (hz:i.zero = some (.int .u8 0))
  (hsize:i.size = 1) (hby:i.bytes = 1) (v:Value) (n:Nat) (xs:List Value) (hown:w.ownsRow 0 e 1 v n xs)
  (a:Addr) (m c:Nat) (news:List Value) (hl:news.length = m * 1) (hnews:∀ j u,news[j]? = some u → w.cell? (a.add j) = some u) (h1:∀ u ∈ news,u.oneCell' = true)
  (h63:n + m ≤ maxLen) (hbytes:(n + m) * 1 ≤ 140737488355328) :
  ∃ v' w',(Builtin.append_ #[t,t] ty #[v,.slice (some a) m c]).run P w = .ok v' w' ∧ w'.ownsRow 0 e 1 v' (n + m) (xs ++ news) ∧ w.grownBy w' v.ownBlock ∧ zqR w v v':=by
 obtain ⟨v',w',hr,h2,h3,-⟩:=run_append_own (P:=P) w 0 t ty e i (.int .u8 0) 1 1 ht hi hz hsize hby rfl (by decide) v n xs hown a m c news hl hnews h1 h63 hbytes (Nat.zero_le _)
 refine ⟨v',w',hr,h2,h3,?_⟩
 have hxl:xs.length = n:=by simpa using hown.1
 rcases hown.2 with ⟨rfl,rfl⟩ | ⟨g,cap,cur,rfl,hbg,hg,hnc,hcm,hcs,htake⟩
 ·obtain rfl:xs = []:=List.eq_nil_of_length_eq_zero hxl
  obtain ⟨v2,w2,hr2,h5,-⟩:=run_append_own (P:=P) w w.heap.size t ty e i (.int .u8 0) 1 1 ht hi hz hsize hby rfl (by decide) (.slice none 0 0) 0 [] (World.ownsRow_nil w _ e 1) a m c news hl hnews h1 h63 hbytes (Nat.le_refl _)
  have e1:v' = v2:=by have:=hr.symm.trans hr2; injection this
  subst e1
  exact .inr fun k hk => (h5.lt k hk).1
 ·by_cases hroom:n + m ≤ cap
  ·have hr2:=run_append_room (P:=P) w t ty e i ht hi g n cap cur hg a m c news (by rw [hsize]; exact hl) hnews h1 hroom (by rw [hsize]; omega)
   have e1:v' = .slice (some ⟨g,0,none⟩) (n + m) cap:=by have:=hr.symm.trans hr2; injection this
   subst e1
   exact .inl rfl
  ·have holds:∀ j u,xs[j]? = some u → w.cell? ((⟨g,0,none⟩:Addr).add j) = some u:=hown.cells (g:=g) rfl
   have hr2:=run_append_grow (P:=P) w t ty e i (.int .u8 0) ht hi hz ⟨g,0,none⟩ n cap xs (by rw [hsize]; simpa using hxl) holds a m c news (by rw [hsize]; exact hl) hnews (by omega) (by simp only [maxLen] at h63; omega) (by rw [hby]; exact growslice_fits (by omega) hbytes)
   have e1:v' = .slice (some ⟨w.heap.size,0,none⟩) (n + m) (grownCap w (n + m) cap e):=by have:=hr.symm.trans hr2; injection this
   subst e1
   exact .inr fun k hk => by simp [Value.ownBlock] at hk; omega
theorem zhk {ops:Array Oper} {rest:List Oper} {o:Oper} {a:Act} {Q:Exit → Act → World → Prop} (hgd:o.guard = none) (sl x:Operand) (t u:TypeId)
  (ho:o.op = .call { callee:=.builtin .append,args:=#[sl,x],argTypes:=#[t,u] })
  (e:TypeId) (i:TypeInfo) (ht:P.underlying t = some (.slice e)) (hu:P.underlying u = some .string) (hi:P.info? e = some i) (hz:i.zero = some (.int .u8 0)) (hsize:i.size = 1) (hby:i.bytes = 1)
  (v:Value) (n:Nat) (xs:List Value) (hs:a.eval sl = v) (hown:w.ownsRow 0 e 1 v n xs) (s:ByteArray) (hx:a.eval x = .string s) (h63:n + s.size ≤ maxLen) (hbytes:n + s.size ≤ 140737488355328)
  (h:∀ v' w',w'.ownsRow 0 e 1 v' (n + s.size) (xs ++ Lib.strCells s) → w.grownBy w' v.ownBlock → zqR w v v' → wpList P ops Q rest (a.put o.dst v') w'):wpList P ops Q (o :: rest) a w:=by
 refine wpList_plain hgd fun K hK => ?_
 obtain ⟨v',w',hr,h2,h3,h4⟩:=zhy (P:=P) w t u o.type e i ht hu hi hz hsize hby v n xs hown s h63 hbytes
 unfold Oper.wp execOp
 simp only [ho,resolve,invoke,builtin,Sem.run_bind,Sem.run_pure,Result.andThen_ok,List.map_toArray,List.map_cons,List.map_nil,hs,hx,hr]
 exact hK _ _ (h v' w' h2 h3 h4)
theorem zhl {ops:Array Oper} {rest:List Oper} {o:Oper} {a:Act} {Q:Exit → Act → World → Prop} (hgd:o.guard = none) (sl x:Operand) (t:TypeId)
  (ho:o.op = .call { callee:=.builtin .append,args:=#[sl,x],argTypes:=#[t,t] })
  (e:TypeId) (i:TypeInfo) (ht:P.underlying t = some (.slice e)) (hi:P.info? e = some i) (hz:i.zero = some (.int .u8 0)) (hsize:i.size = 1) (hby:i.bytes = 1)
  (v:Value) (n:Nat) (xs:List Value) (hs:a.eval sl = v) (hown:w.ownsRow 0 e 1 v n xs)
  (ad:Addr) (m c:Nat) (news:List Value) (hx:a.eval x = .slice (some ad) m c) (hl:news.length = m * 1) (hnews:∀ j u,news[j]? = some u → w.cell? (ad.add j) = some u) (h1:∀ u ∈ news,u.oneCell' = true)
  (h63:n + m ≤ maxLen) (hbytes:(n + m) * 1 ≤ 140737488355328)
  (h:∀ v' w',w'.ownsRow 0 e 1 v' (n + m) (xs ++ news) → w.grownBy w' v.ownBlock → zqR w v v' → wpList P ops Q rest (a.put o.dst v') w'):wpList P ops Q (o :: rest) a w:=by
 refine wpList_plain hgd fun K hK => ?_
 obtain ⟨v',w',hr,h2,h3,h4⟩:=zhz (P:=P) w t o.type e i ht hi hz hsize hby v n xs hown ad m c news hl hnews h1 h63 hbytes
 unfold Oper.wp execOp
 simp only [ho,resolve,invoke,builtin,Sem.run_bind,Sem.run_pure,Result.andThen_ok,List.map_toArray,List.map_cons,List.map_nil,hs,hx,hr]
 exact hK _ _ (h v' w' h2 h3 h4)
end
def ztd (T e:TypeId) (b:Nat) (p v0:Value) (bs news:List Value) (w w':World):Prop:=
 ∃ w1 w2 w3 v',((w1 = w ∧ p = .pointer (some ⟨b,0,none⟩)) ∨ (w1 = w.setCell ⟨b,0,none⟩ (.pointer (some ⟨b,0,none⟩)) ∧ p = .pointer none)) ∧ (w2 = w1 ∨ ∃ o,w2 = w1.alloc o) ∧
  w3.ownsRow 0 e 1 v' (bs.length + news.length) (bs ++ news) ∧ w2.grownBy w3 v0.ownBlock ∧ zqR w2 v0 v' ∧ w' = w3.setCell ⟨b,1,none⟩ v'
set_option maxRecDepth 100000 in
theorem zqa (L:Lays.n169 P ρ) (X:Builder.Extra P ρ) (b:Nat) (p v:Value) (l:List UInt8) (w:World) (hbk:w.heap[b]? = some (.cells #[p,v] (ρ.t 72) (0,0))) (hown:w.ownsRow 0 (ρ.t 5) 1 v l.length (Lib.byteCells l)) (h0:l ≠ []) :
  Calls P (ρ.f 169) #[.pointer (some ⟨b,0,none⟩)] w fun e w' => e = .returned (.string ⟨l.toArray⟩) ∧ ∃ g,v.ownBlock = some g ∧ w' = w.drew.freeze ⟨g,0,none⟩ l.length:=by
 have hl0:l.length ≠ 0:=by simpa using h0
 obtain ⟨g,cap,cur,rfl,hbg,hg,hnc,hcm,hcs,htake⟩:∃ g cap cur,v = .slice (some ⟨g,0,none⟩) l.length cap ∧ 0 ≤ g ∧ w.heap[g]? = some (.cells cur (ρ.t 5) (0,0)) ∧ l.length ≤ cap ∧ cap ≤ maxLen ∧ cur.size = cap * 1 ∧ cur.toList.take (l.length * 1) = Lib.byteCells l:=by
  rcases hown.2 with ⟨_,hz⟩ | ⟨g,cap,cur,hv,r⟩
  ·exact absurd hz hl0
  ·exact ⟨g,cap,cur,hv,r⟩
 have c1:w.drew.cell? ⟨b,1,none⟩ = some (.slice (some ⟨g,0,none⟩) l.length cap):=by
  have:w.drew.heap[b]? = some (.cells #[p,.slice (some ⟨g,0,none⟩) l.length cap] (ρ.t 72) (0,0)):=hbk
  rw [Lib.cell_of_heap this]; rfl
 have hSD:(Builtin.unsafeSliceData_ #[(ρ.t 37)] (ρ.t 127) #[.slice (some ⟨g,0,none⟩) l.length cap]).run P w.drew = .ok (.pointer (some ⟨g,0,none⟩)) w.drew:=
  Lib.run_unsafeSliceData_row _ _ _ _ _ _ (by omega)
 have hUS:(Builtin.unsafeString_ #[(ρ.t 127),(ρ.t 3)] (ρ.t 9) #[.pointer (some ⟨g,0,none⟩),.int .i64 l.length]).run P w.drew = .ok (.string ⟨l.toArray⟩) (w.drew.freeze ⟨g,0,none⟩ l.length):=by
  refine Lib.run_unsafeString_row w.drew (ρ.t 127) (ρ.t 3) (ρ.t 9) (ρ.t 5) L.t127 X.cellsByte g cur.size (by have hg':w.drew.heap[g]? = some (.cells cur (ρ.t 5) (0,0)):=hg; simp [World.shape?,hg']) l h0 (by omega) (by unfold maxLen at hcm; omega) ?_
  intro j x hx
  have:=hown.cells (g:=g) rfl j (.int .u8 x.toNat) (by simp [Lib.byteCells,hx])
  exact this
 have mixed:=L.mixed
 have t72:=L.t72; have a72:=L.a72; have z72:=L.z72; have v72:=L.v72; have u72:=run_underlying L.t72
 have t70:=L.t70; have a70:=L.a70; have z70:=L.z70; have v70:=L.v70; have u70:=run_underlying L.t70
 have t37:=L.t37; have a37:=L.a37; have z37:=L.z37; have v37:=L.v37; have u37:=run_underlying L.t37
 have t127:=L.t127; have a127:=L.a127; have z127:=L.z127; have v127:=L.v127; have u127:=run_underlying L.t127
 have t3:=L.t3; have a3:=L.a3; have z3:=L.z3; have v3:=L.v3; have u3:=run_underlying L.t3
 have t9:=L.t9; have a9:=L.a9; have z9:=L.z9; have v9:=L.v9; have u9:=run_underlying L.t9
 have t5:=X.t5; have a5:=X.a5; have z5:=X.z5; have v5:=X.v5; have u5:=run_underlying X.t5
 go_enter L.f169,Body.n169_ntmps ρ
 go_wp2
 go_region_o
 all_goals (go_wp2; go_ret; exact ⟨rfl,g,rfl,rfl⟩)
end Go.Proofs
namespace Go.AI
open Go.Proofs
set_option maxRecDepth 20000
section
variable {E:Env} {K:Kn} {ρ:Nat → Nat → Loc} {w w':World}
theorem zqe {sh:Nat → Nat → Option Sh} {w3:World} {l:Loc} {ty n m:Nat} {xs ys:List (List I)} {olds news:List Value} {v':Value} (h:OwnAt K ρ sh w l (.arr ty 1 n xs true)) (ho:RepL K olds xs.flatten) (hn:RepL K news ys.flatten)
  (hy:∀ d ∈ ys,d.length = 1) (hm:ys.length = m) (hrow:w3.ownsRow 0 ty 1 v' (n + m) (olds ++ news)) (hg:w.grownBy w3 (Value.slice l.base n l.cap).ownBlock) (hat:zqR w (.slice l.base n l.cap) v')
  (hfresh:∀ b o,w.heap.size ≤ b → K b o = none) :
  ∃ l':Loc,v' = .slice l'.base (n + m) l'.cap ∧ (∀ (ρ':Nat → Nat → Loc) (sh':Nat → Nat → Option Sh),OwnAt K ρ' sh' w3 l' (.arr ty 1 (n + m) (xs ++ ys) true)) ∧ Apnd K w w3 l l':=by
 have hel:∀ d ∈ xs ++ ys,d.length = 1:=fun d hd => by
  rcases List.mem_append.1 hd with h1 | h1
  ·exact h.1 d h1
  ·exact hy d h1
 have hlen:(xs ++ ys).length = n + m:=by simp [h.2.1,hm]
 have hbase:l.base = none ∨ l.base = some ⟨l.block,0,none⟩:=by
  rcases h.2.2.2.2 with ⟨_,h1⟩ | ⟨h1,_⟩
  ·exact .inl h1
  ·exact .inr h1
 have hold:∀ b,b < w.heap.size → (l.base ≠ none → b ≠ l.block) → w3.heap[b]? = w.heap[b]?:=fun b hb hne => hg.block b hb fun e => by
  rcases hbase with h1 | h1
  ·rw [h1] at e; simp [Value.ownBlock] at e
  ·rw [h1] at e
   simp only [Value.ownBlock,Option.some.injEq] at e
   exact hne (by rw [h1]; simp) e
 rcases hrow.2 with ⟨rfl,h0⟩ | ⟨g,cap,cur,rfl,_,hg3,hnc,hcm,hcs,htake⟩
 ·refine ⟨⟨0,0,none⟩,by rw [h0],fun ρ' sh' => ⟨hel,hlen,by simp only; omega,Nat.zero_le _,.inl ⟨rfl,rfl⟩⟩,⟨hg.size,hold,⟨hg.tape,hg.os,hg.output⟩,fun e => absurd rfl e⟩⟩
 ·have hKg:∀ o,K g o = none:=by
   rcases hat with h1 | h1
   ·rcases hbase with h2 | h2
    ·rw [h2] at h1; simp [Value.ownBlock] at h1
    ·rw [h2] at h1
     simp only [Value.ownBlock,Option.some.injEq] at h1
     subst h1
     rcases h.2.2.2.2 with ⟨_,h3⟩ | ⟨_,c,_,_,_,h4,_⟩
     ·rw [h2] at h3; cases h3
     ·exact h4 rfl
   ·exact fun o => hfresh g o (h1 g rfl)
  have htk:cur.toList.take ((n + m) * 1) = olds ++ news:=htake
  refine ⟨⟨g,cap,some ⟨g,0,none⟩⟩,rfl,fun ρ' sh' => ⟨hel,hlen,hnc,hcm,.inr ⟨rfl,cur,hg3,hcs,?_,fun _ o => hKg o,fun o _ => hKg o,fun e => by cases e⟩⟩,⟨hg.size,hold,⟨hg.tape,hg.os,hg.output⟩,fun _ => ?_⟩⟩
  ·rw [htk,List.flatten_append]
   exact ho.append hn
  ·rcases hat with h1 | h1
   ·rcases hbase with h2 | h2
    ·rw [h2] at h1; simp [Value.ownBlock] at h1
    ·rw [h2] at h1
     simp only [Value.ownBlock,Option.some.injEq] at h1
     exact .inr ⟨by rw [h2]; simp,h1⟩
   ·exact .inl (h1 g rfl)
def zxS (P:Program) (f:FuncId) (T ty:TypeId) (res x:Value) (news:List Value):Prop:=∀ (b:Nat) (p v0:Value) (bs:List Value) (w:World),(p = .pointer none ∨ p = .pointer (some ⟨b,0,none⟩)) →
 w.heap[b]? = some (.cells #[p,v0] T (0,0)) → w.ownsRow 0 ty 1 v0 bs.length bs → v0.ownBlock ≠ some b → bs.length + news.length ≤ 140737488355328 →
 Calls P f #[.pointer (some ⟨b,0,none⟩),x] w fun e w' => e = .returned res ∧ ztd T ty b p v0 bs news w w'
def Wp (c:Cx) (o:Oper) (s:St) (f:FuncId) (args:List D) (s':St):Prop:=∀ K ρ a w,Inv c.E K ρ s a w → (∃ vs,(execOp a.eval o).run c.P w = (callFunc f vs.toArray).run c.P w ∧ RepDL K ρ (shape s.S) vs args) →
 ∀ (next:Act → World → Prop) (Qe:Exit → Act → World → Prop),(∀ v w' K' ρ',Inv c.E K' ρ' s' (a.put o.dst v) w' → next (a.put o.dst v) w') → o.wp c.P a w next Qe
theorem zh6 {c:Cx} {s:St} {o:Oper} {f:FuncId} {t nm nm2 n m T ty:Nat} {dp dx rd:D} {x res:Value} {news:List Value} {xs ys:List (List I)} {H:Heap} {O:List Heap}
  (hspec:zxS c.P f T ty res x news) (hent:∀ args w,(callFunc f args).run c.P w = .ok (.enter f args) w) (hx:∀ K ρ sh v,RepD K ρ sh v dx → v = x) (hr:∀ K ρ sh,RepD K ρ sh res rd)
  (hdp:dp = .i (.v (.pointer none)) ∨ dp = .own 0 nm 0 0) (ht:o.dst = some t) (hn:t < s.n) (hS:s.S = H :: O) (hb:look H nm = some (.tb T [dp,.osl 0 nm2])) (ha:look H nm2 = some (.arr ty 1 n xs true))
  (hne:nm ≠ nm2) (hnews:∀ K,RepL K news ys.flatten) (hy:∀ d ∈ ys,d.length = 1) (hm:ys.length = m) (hlim:n + m ≤ 140737488355328) :
  Wp c o s f [.own 0 nm 0 0,dx] { σ:=(t,rd) :: zht nm2 s.σ,S:=((nm,.tb T [.own 0 nm 0 0,.osl 0 nm2]) :: (nm2,.arr ty 1 (n + m) (xs ++ ys) true) :: zcQ nm2 ((nm,.tb T [.own 0 nm 0 0,.osl 0 nm2]) :: H)) :: O,n:=s.n }:=by
 intro K ρ a w hi ⟨vs,hrun,hrep⟩ next Qe hnext
 have hh:=hi.h
 rw [hS] at hh hrep
 have hob:zab (H :: O) 0 nm = some (.tb T [dp,.osl 0 nm2]):=by simpa [zab] using hb
 have hoa:zab (H :: O) 0 nm2 = some (.arr ty 1 n xs true):=by simpa [zab] using ha
 have e0:(fun d n => ρ (0 + d) n) = ρ:=by funext d n; rw [Nat.zero_add]
 have s0:∀ S:List Heap,shape (S.drop 0) = shape S:=fun S => by rw [List.drop_zero]
 have hwb:=hh.own _ _ _ hob
 rw [e0,s0] at hwb
 obtain ⟨cur,hc,hrc,hKb⟩:=hwb
 have hwa:=hh.own _ _ _ hoa
 rw [e0,s0] at hwa
 obtain ⟨olds,hro,hrow⟩:=zkY hwa
 have hol:olds.length = n:=by simpa using hrow.1
 have hshb:shape (H :: O) 0 nm = some .box:=by simp [shape,hob,Ob.sh]
 have hsha:shape (H :: O) 0 nm2 = some (.arr 1 n):=by simp [shape,hoa,Ob.sh]
 obtain ⟨p,v0,hcur,hp,hv0⟩:∃ p v0,cur = #[p,v0] ∧ RepD K ρ (shape (H :: O)) p dp ∧ RepD K ρ (shape (H :: O)) v0 (.osl 0 nm2):=by
  generalize hL:cur.toList = L at hrc
  cases hrc with
  | cons h1 h2 => cases h2 with
   | cons h3 h4 => cases h4; exact ⟨_,_,Array.ext' (by rw [hL]),h1,h3⟩
 subst hcur
 have hv0:=zet hv0 hsha
 subst hv0
 have hpp:p = .pointer none ∨ p = .pointer (some ⟨(ρ 0 nm).block,0,none⟩):=by
  rcases hdp with rfl | rfl
  ·exact .inl (zaQ hp)
  ·exact .inr (zgQ hp hshb)
 have hnb:(Value.slice (ρ 0 nm2).base n (ρ 0 nm2).cap).ownBlock ≠ some (ρ 0 nm).block:=by
  intro e
  rcases hwa.2.2.2.2 with ⟨_,h1⟩ | ⟨h1,_⟩
  ·rw [h1] at e; simp [Value.ownBlock] at e
  ·rw [h1] at e
   simp only [Value.ownBlock,Option.some.injEq] at e
   exact hne (hh.inj 0 nm _ 0 nm2 _ hob hoa trivial (by show _ ≠ none; rw [h1]; simp) e.symm).2
 obtain ⟨rfl⟩:vs = [.pointer (some ⟨(ρ 0 nm).block,0,none⟩),x]:=by
  cases hrep with
  | cons h1 h2 => cases h2 with
   | cons h3 h4 => cases h4; rw [zgQ h1 hshb,hx _ _ _ _ h3]
 rw [hent] at hrun
 simp only [Oper.wp,hrun,Oper.upon]
 have hml:news.length = m:=by
  have:=(hnews K).length
  rw [this,zbF ys hy,hm]; omega
 refine (hspec _ p _ olds w hpp hc (by rw [hol]; exact hrow) hnb (by rw [hol,hml]; exact hlim)).mono ?_
 rintro e w' ⟨rfl,w1,w2,w3,v',h1,h2,hrow3,hgb,hat,rfl⟩
 rw [hol,hml] at hrow3
 have e1:(fun d n => shape (H :: O) (0 + d) n) = shape (H :: O):=by funext d n; rw [Nat.zero_add]
 have hcells:RepDL K (fun d n => ρ (0 + d) n) (fun d n => shape (H :: O) (0 + d) n) [.pointer (some ⟨(ρ 0 nm).block,0,none⟩),.slice (ρ 0 nm2).base n (ρ 0 nm2).cap] [.own 0 nm 0 0,.osl 0 nm2]:=by
  rw [e0,e1]
  exact .cons (.box hshb) (.cons (.osl hsha) .nil)
 have hI1:HInv c.E K ρ (setAt (H :: O) 0 nm (.tb T [.own 0 nm 0 0,.osl 0 nm2])) w1 ∧ w1.heap[(ρ 0 nm).block]? = some (.cells #[.pointer (some ⟨(ρ 0 nm).block,0,none⟩),.slice (ρ 0 nm2).base n (ρ 0 nm2).cap] T (0,0)):=by
  rcases h1 with ⟨rfl,rfl⟩ | ⟨rfl,rfl⟩
  ·exact ⟨hh.put hob rfl trivial trivial rfl (fun _ _ => rfl) ⟨rfl,rfl,rfl⟩ (fun o' x' hx' => by rw [hKb] at hx'; cases hx') ⟨_,hc,hcells,hKb⟩,hc⟩
  ·exact ⟨hh.put hob rfl trivial trivial (by simp [World.setCell]) (fun b hb => Go.Deep.blk_setCell_other w _ _ b hb) ⟨rfl,rfl,rfl⟩ (fun o' x' hx' => by rw [hKb] at hx'; cases hx') ⟨_,zgW hc,hcells,hKb⟩,zgW hc⟩
 obtain ⟨hI1,hc1⟩:=hI1
 have hI1:HInv c.E K ρ (((nm,.tb T [.own 0 nm 0 0,.osl 0 nm2]) :: H) :: O) w1:=hI1
 have hlt1:(ρ 0 nm).block < w1.heap.size:=by
  rcases Nat.lt_or_ge (ρ 0 nm).block w1.heap.size with h' | h'
  ·exact h'
  ·simp [Array.getElem?_eq_none h'] at hc1
 have hI2:HInv c.E K ρ (((nm,.tb T [.own 0 nm 0 0,.osl 0 nm2]) :: H) :: O) w2 ∧ w2.heap[(ρ 0 nm).block]? = some (.cells #[.pointer (some ⟨(ρ 0 nm).block,0,none⟩),.slice (ρ 0 nm2).base n (ρ 0 nm2).cap] T (0,0)) ∧ w1.heap.size ≤ w2.heap.size:=by
  rcases h2 with rfl | ⟨o',rfl⟩
  ·exact ⟨hI1,hc1,Nat.le_refl _⟩
  ·exact ⟨(HInv.grow (S:=((nm,.tb T [.own 0 nm 0 0,.osl 0 nm2]) :: H) :: O) rfl hI1 (fun _ _ _ e => e) (fun _ h => by simp [look] at h) (zsl hI1 (.inl rfl) o')).1,by rw [heap_alloc_old w1 o' hlt1]; exact hc1,by simp [World.size_alloc]⟩
 obtain ⟨hI2,hc2,hsz2⟩:=hI2
 have hc3:w3.heap[(ρ 0 nm).block]? = some (.cells #[.pointer (some ⟨(ρ 0 nm).block,0,none⟩),.slice (ρ 0 nm2).base n (ρ 0 nm2).cap] T (0,0)):=by
  rw [hgb.block _ (by omega) (fun e => hnb e.symm)]
  exact hc2
 have hlk:look ((nm,Ob.tb T [.own 0 nm 0 0,.osl 0 nm2]) :: H) nm2 = some (.arr ty 1 n xs true):=by
  rw [zac,if_neg hne]; exact ha
 have hoa2:zab (((nm,Ob.tb T [.own 0 nm 0 0,.osl 0 nm2]) :: H) :: O) 0 nm2 = some (.arr ty 1 n xs true):=by simpa [zab] using hlk
 have hob2:zab (((nm,Ob.tb T [.own 0 nm 0 0,.osl 0 nm2]) :: H) :: O) 0 nm = some (.tb T [.own 0 nm 0 0,.osl 0 nm2]):=by simp [zab,zac]
 have hwa2:=hI2.own _ _ _ hoa2
 rw [e0,s0] at hwa2
 obtain ⟨l',rfl,hown',hap⟩:=zqe hwa2 hro (hnews K) hy hm hrow3 hgb hat (fun b o hb => hI2.K_fresh hb)
 have hKo:zaC (ρ 0 nm2) (.arr ty 1 n xs true) → ∀ o,K (ρ 0 nm2).block o = none:=by
  intro hbk
  obtain ⟨_,_,_,_,h5⟩:=hwa
  rcases h5 with ⟨_,h6⟩ | ⟨_,c,_,_,_,h9,_⟩
  ·exact absurd h6 hbk
  ·exact h9 rfl
 obtain ⟨hI3,hbut⟩:=hI2.renew (nm:=nm2) (dst:=nm2) hlk (by rw [zcu]; simp) hap Iff.rfl (ob':=.arr ty 1 (n + m) (xs ++ ys) true) Iff.rfl hKo hown'
 generalize hS3:(((nm2,Ob.arr ty 1 (n + m) (xs ++ ys) true) :: zcQ nm2 ((nm,Ob.tb T [.own 0 nm 0 0,.osl 0 nm2]) :: H)) :: O) = S3 at hI3 hbut
 have hob3:zab S3 0 nm = some (Ob.kill nm2 (.tb T [.own 0 nm 0 0,.osl 0 nm2])):=by
  rw [← hS3]
  simp only [zab,List.getElem?_cons_zero,zac,if_neg (Ne.symm hne),zcu,if_neg hne,if_true,Option.map_some]
 obtain ⟨hb1,hb2⟩:=hbut 0 nm .box (.inr hne) (by simp [shape,hob2,Ob.sh])
 have hsh3:shape S3 0 nm2 = some (.arr 1 (n + m)):=by
  rw [← hS3]
  simp [shape,zab,zac,Ob.sh]
 have f0:(fun d n => upd ρ nm2 l' (0 + d) n) = upd ρ nm2 l':=by funext d n; rw [Nat.zero_add]
 have f1:(fun d n => shape S3 (0 + d) n) = shape S3:=by funext d n; rw [Nat.zero_add]
 have hcells3:RepDL K (fun d n => upd ρ nm2 l' (0 + d) n) (fun d n => shape S3 (0 + d) n) [.pointer (some ⟨(ρ 0 nm).block,0,none⟩),.slice l'.base (n + m) l'.cap] [.own 0 nm 0 0,.osl 0 nm2]:=by
  rw [f0,f1]
  have g1:=RepD.box (K:=K) (ρ:=upd ρ nm2 l') (off:=0) hb1
  rw [hb2] at g1
  have g2:=RepD.osl (K:=K) (ρ:=upd ρ nm2 l') hsh3
  rw [zaO] at g2
  exact .cons g1 (.cons g2 .nil)
 have hI4:HInv c.E K (upd ρ nm2 l') (setAt S3 0 nm (.tb T [.own 0 nm 0 0,.osl 0 nm2])) (w3.setCell ⟨(ρ 0 nm).block,1,none⟩ (.slice l'.base (n + m) l'.cap)):=by
  refine hI3.put hob3 rfl trivial trivial (by simp [World.setCell]) (fun b hb => Go.Deep.blk_setCell_other w3 _ _ b (by rw [hb2] at hb; exact hb)) ⟨rfl,rfl,rfl⟩ (fun o' x' hx' => by rw [hb2,hKb] at hx'; cases hx') ⟨_,by rw [hb2]; exact zsi hc3,hcells3,fun o => by rw [hb2]; exact hKb o⟩
 have hS4:setAt S3 0 nm (.tb T [.own 0 nm 0 0,.osl 0 nm2]) = ((nm,.tb T [.own 0 nm 0 0,.osl 0 nm2]) :: (nm2,.arr ty 1 (n + m) (xs ++ ys) true) :: zcQ nm2 ((nm,.tb T [.own 0 nm 0 0,.osl 0 nm2]) :: H)) :: O:=by rw [← hS3]; rfl
 have hsh4:shape (setAt S3 0 nm (.tb T [.own 0 nm 0 0,.osl 0 nm2])) = shape S3:=zbA hob3 rfl
 have hsh2:shape (((nm,Ob.tb T [.own 0 nm 0 0,.osl 0 nm2]) :: H) :: O) = shape (H :: O):=zbA (S:=H :: O) hob rfl
 rw [hS4] at hI4 hsh4
 rw [hsh2] at hbut
 refine hnext _ _ K (upd ρ nm2 l') ?_
 ·rw [ht]
  refine ⟨hI4,hi.defers,by simp [Act.put]; exact hi.size,fun t' d' e' => ?_⟩
  rw [zdH (by rw [hi.size]; exact hn)]
  simp only [zac] at e'
  split at e'
  ·rename_i e2
   simp only [Option.some.injEq] at e'
   subst e'
   rw [if_pos e2]
   exact hr _ _ _
  ·rename_i e2
   rw [if_neg e2]
   rw [zdT] at e'
   cases hls:look s.σ t' with
   | none => simp [hls] at e'
   | some d0 =>
    simp only [hls,Option.map_some,Option.some.injEq] at e'
    subst e'
    have hr:=hi.slots _ _ hls
    rw [hS] at hr
    show RepD _ _ (shape _) _ _
    rw [hsh4]
    exact hr.kill hbut
end
section
variable {c:Cx} {s:St} {k:List Item} {ops:Array Oper} {rest:List Nat} {o:Oper}
theorem zcl (hT:TOk c.P c.T) (hfn:c.P.funcs[c.f]? = some c.fn) {i t:Nat} {f:FuncId} {args:List D} {s':St} (ho:ops[i]? = some o) (hg:o.guard = none) (hd:o.dst = some t) (hex:exec c.T s o = .call f args) (hw:Wp c o s f args s')
  (h:GM c (run c.T c.stop 1000 (.inRegion ops rest :: k) s')):GM c (.pause ops i rest o s k):=by
 have hk:RG c ops rest s' k:=za6 hT hfn 1000 (.inRegion ops rest :: k) _ h.h
 refine ⟨?_⟩
 intro K ρ a w hi
 simp only [wpOps,ho,zcS hi (show zaW ops s o = some true by unfold zaW; rw [hg]),if_true]
 refine .inl (hw K ρ a w hi ?_ _ _ fun v w' K' ρ' hi' => hk K' ρ' _ w' hi')
 have:=ziZ hT hi.h (.inl hd) fun x _ => hi.ev x
 rw [hex] at this
 exact this
end
section
def u8l (l:List UInt8):List (List I):=l.map fun b => [.v (.int .u8 b.toNat)]
theorem zik:∀ l:List UInt8,(u8l l).flatten = l.map fun b => I.v (.int .u8 b.toNat)
 | [] => rfl
 | b :: r => by
  have:=zik r
  unfold u8l at this ⊢
  rw [List.map_cons,List.flatten_cons,this]
  rfl
theorem zvK (l:List UInt8):∀ d ∈ u8l l,d.length = 1:=fun d hd => by
 unfold u8l at hd
 obtain ⟨b,_,rfl⟩:=List.mem_map.1 hd
 rfl
theorem zkK (K:Kn):∀ l:List UInt8,RepL K (l.map fun b => Value.int .u8 b.toNat) (u8l l).flatten
 | [] => .nil
 | b :: r => by
  have:=zkK K r
  rw [zik] at this ⊢
  exact .cons (.v rfl) this
theorem zjx {K:Kn}:∀ {vs:List Value} {l:List Value},RepL K vs (l.map I.v) → vs = l
 | _,[],h => by cases h; rfl
 | _,x :: r,h => by
  cases h with
  | cons h1 h2 =>
   rw [zjx h2]
   cases h1
   rfl
theorem zwp (a b:List UInt8):u8l a ++ u8l b = u8l (a ++ b):=by simp [u8l]
def zyO (P:Program) (f:FuncId) (T ty:TypeId):Prop:=∀ (b:Nat) (p v:Value) (l:List UInt8) (w:World),w.heap[b]? = some (.cells #[p,v] T (0,0)) → w.ownsRow 0 ty 1 v l.length (Lib.byteCells l) → l ≠ [] →
 Calls P f #[.pointer (some ⟨b,0,none⟩)] w fun e w' => e = .returned (.string ⟨l.toArray⟩) ∧ ∃ g,v.ownBlock = some g ∧ w' = w.drew.freeze ⟨g,0,none⟩ l.length
theorem zj8 (w:World) (g n k:Nat) (h:k ≠ g):(w.freeze ⟨g,0,none⟩ n).heap[k]? = w.heap[k]?:=by
 unfold World.freeze
 split <;> simp [Array.getElem?_modify,Array.getElem?_setIfInBounds,Ne.symm h]
theorem zlj (w:World) (g n:Nat):(w.freeze ⟨g,0,none⟩ n).tape = w.tape ∧ (w.freeze ⟨g,0,none⟩ n).os = w.os ∧ (w.freeze ⟨g,0,none⟩ n).output = w.output ∧ (w.freeze ⟨g,0,none⟩ n).heap.size = w.heap.size:=by
 unfold World.freeze
 split <;> simp
theorem zsO {c:Cx} {s:St} {o:Oper} {f:FuncId} {t nm nm2 T ty:Nat} {dp:D} {l:List UInt8} {H:Heap} {O:List Heap}
  (hspec:zyO c.P f T ty) (hent:∀ args w,(callFunc f args).run c.P w = .ok (.enter f args) w) (h0:l ≠ [])
  (ht:o.dst = some t) (hn:t < s.n) (hS:s.S = H :: O) (hb:look H nm = some (.tb T [dp,.osl 0 nm2])) (ha:look H nm2 = some (.arr ty 1 l.length (u8l l) true)) :
  Wp c o s f [.own 0 nm 0 0] { σ:=(t,.i (.v (.string ⟨l.toArray⟩))) :: zht nm2 s.σ,S:=((nm2,.arr ty 1 0 [] true) :: zcQ nm2 H) :: O,n:=s.n }:=by
 intro K ρ a w hi ⟨vs,hrun,hrep⟩ next Qe hnext
 have hh:=hi.h
 rw [hS] at hh hrep
 have hob:zab (H :: O) 0 nm = some (.tb T [dp,.osl 0 nm2]):=by simpa [zab] using hb
 have hoa:zab (H :: O) 0 nm2 = some (.arr ty 1 l.length (u8l l) true):=by simpa [zab] using ha
 have e0:(fun d n => ρ (0 + d) n) = ρ:=by funext d n; rw [Nat.zero_add]
 have s0:∀ S:List Heap,shape (S.drop 0) = shape S:=fun S => by rw [List.drop_zero]
 have hwb:=hh.own _ _ _ hob
 rw [e0,s0] at hwb
 obtain ⟨cur,hc,hrc,hKb⟩:=hwb
 have hwa:=hh.own _ _ _ hoa
 rw [e0,s0] at hwa
 obtain ⟨olds,hro,hrow⟩:=zkY hwa
 have hold:olds = Lib.byteCells l:=by
  rw [zik] at hro
  have:(l.map fun b => I.v (.int .u8 b.toNat)) = (l.map fun b => Value.int .u8 b.toNat).map I.v:=by rw [List.map_map]; rfl
  rw [this] at hro
  exact zjx hro
 subst hold
 have hshb:shape (H :: O) 0 nm = some .box:=by simp [shape,hob,Ob.sh]
 have hsha:shape (H :: O) 0 nm2 = some (.arr 1 l.length):=by simp [shape,hoa,Ob.sh]
 obtain ⟨p,v0,hcur,hv0⟩:∃ p v0,cur = #[p,v0] ∧ RepD K ρ (shape (H :: O)) v0 (.osl 0 nm2):=by
  generalize hL:cur.toList = L at hrc
  cases hrc with
  | cons h1 h2 => cases h2 with
   | cons h3 h4 => cases h4; exact ⟨_,_,Array.ext' (by rw [hL]),h3⟩
 subst hcur
 have hv0:=zet hv0 hsha
 subst hv0
 obtain ⟨rfl⟩:vs = [.pointer (some ⟨(ρ 0 nm).block,0,none⟩)]:=by
  cases hrep with
  | cons h1 h2 => cases h2; rw [zgQ h1 hshb]
 rw [hent] at hrun
 simp only [Oper.wp,hrun,Oper.upon]
 refine (hspec _ p _ l w hc hrow h0).mono ?_
 rintro e w' ⟨rfl,g,hgb,rfl⟩
 obtain ⟨r1,r2,r3,r4⟩:=zlj w.drew g l.length
 have hbase:(ρ 0 nm2).base = some ⟨(ρ 0 nm2).block,0,none⟩:=by
  rcases hwa.2.2.2.2 with ⟨_,h1⟩ | ⟨h1,_⟩
  ·rw [h1] at hgb; simp [Value.ownBlock] at hgb
  ·exact h1
 have hgb:(ρ 0 nm2).block = g:=by rw [hbase] at hgb; simpa [Value.ownBlock] using hgb
 subst hgb
 have hKo:zaC (ρ 0 nm2) (.arr ty 1 l.length (u8l l) true) → ∀ o,K (ρ 0 nm2).block o = none:=by
  intro hbk
  obtain ⟨_,_,_,_,h5⟩:=hwa
  rcases h5 with ⟨_,h6⟩ | ⟨_,c,_,_,_,h9,_⟩
  ·exact absurd h6 hbk
  ·exact h9 rfl
 let l0:Loc:=⟨0,0,none⟩
 have hap:Apnd K w (w.drew.freeze ⟨(ρ 0 nm2).block,0,none⟩ l.length) (ρ 0 nm2) l0:=by
  refine ⟨Nat.le_of_eq r4.symm,fun b _ hne => ?_,⟨r1,r2,r3⟩,fun e => absurd rfl e⟩
  exact zj8 w.drew _ _ _ (hne (by rw [hbase]; simp))
 obtain ⟨hI3,hbut⟩:=hh.renew (nm:=nm2) (dst:=nm2) ha (by rw [zcu]; simp) hap Iff.rfl (ob':=.arr ty 1 0 [] true) Iff.rfl hKo (fun ρ' sh' => ⟨by simp,rfl,Nat.le_refl _,by simp [l0],.inl ⟨rfl,rfl⟩⟩)
 refine hnext _ _ K (upd ρ nm2 l0) ?_
 ·rw [ht]
  refine ⟨hI3,hi.defers,by simp [Act.put]; exact hi.size,fun t' d' e' => ?_⟩
  rw [zdH (by rw [hi.size]; exact hn)]
  simp only [zac] at e'
  split at e'
  ·rename_i e2
   simp only [Option.some.injEq] at e'
   subst e'
   rw [if_pos e2]
   exact .i (.v rfl)
  ·rename_i e2
   rw [if_neg e2]
   rw [zdT] at e'
   cases hls:look s.σ t' with
   | none => simp [hls] at e'
   | some d0 =>
    simp only [hls,Option.map_some,Option.some.injEq] at e'
    subst e'
    have hr:=hi.slots _ _ hls
    rw [hS] at hr
    exact hr.kill hbut
end
end Go.AI
namespace Go.AI
open Go.Proofs
section
variable {P:Program} {T:TT} {E:Env} {K:Kn} {ρ:Nat → Nat → Loc} {S:List Heap} {w:World} {dst:Nat}
theorem zyk (hw:HInv E K ρ S w) (hf:zab S 0 dst = none) {cs:List Value} {ds:List D} (hr:RepDL K ρ (shape S) cs ds) (ty:TypeId) :
  ∃ l,Grow K ρ S w [(dst,.tb ty ds)] K (upd ρ dst l) (w.alloc (.cells cs.toArray ty)) ∧ RepD K (upd ρ dst l) (shape (addS S [(dst,.tb ty ds)])) (.pointer (some ⟨w.heap.size,0,none⟩)) (.own 0 dst 0 0):=by
 have hst:=zjo (K:=K) (ρ:=ρ) hf (.tb ty ds) ⟨w.heap.size,0,none⟩
 refine ⟨⟨w.heap.size,0,none⟩,zfs hw hf (.inl rfl) (fun _ => rfl) ⟨cs.toArray,heap_alloc_new w _,by simpa using hr.stays hst,fun o => hw.K_fresh (Nat.le_refl _)⟩,?_⟩
 have hsh:shape (addS S [(dst,.tb ty ds)]) 0 dst = some .box:=by
  cases S with
  | nil => simp [shape,addS,zab,zac,Ob.sh]
  | cons H O => simp [shape,zbv,zac,Ob.sh]
 have:=RepD.box (K:=K) (ρ:=upd ρ dst ⟨w.heap.size,0,none⟩) (off:=0) hsh
 rwa [zaO] at this
end
section
variable {c:Cx} {s:St} {k:List Item} {ops:Array Oper} {rest:List Nat} {o:Oper}
theorem g_tb (hT:TOk c.P c.T) (hfn:c.P.funcs[c.f]? = some c.fn) {i t nm:Nat} {ti:TI} {H:Heap} {O:List Heap} (ho:ops[i]? = some o) (hop:o.op = .alloc t) (hd:o.dst = some nm) (hg:o.guard = none) (hn:Nat.ble (nm + 1) s.n = true) (hi:look c.T t = some ti)
  (hS:s.S = H :: O) (hf:look H nm = none) (h:GM c (run c.T c.stop 1000 (.inRegion ops rest :: k) { σ:=(nm,.own 0 nm 0 0) :: s.σ,S:=((nm,.tb t (ti.zero.map fun v => .i (.v v))) :: H) :: O,n:=s.n })) :
  GM c (.pause ops i rest o s k):=by
 refine ⟨?_⟩
 have hk:RG c ops rest { σ:=(nm,.own 0 nm 0 0) :: s.σ,S:=((nm,.tb t (ti.zero.map fun v => .i (.v v))) :: H) :: O,n:=s.n } k:=za6 hT hfn 1000 (.inRegion ops rest :: k) _ h.h
 refine zwR ho (by unfold zaW; rw [hg]) ?_
 intro K ρ a w hinv next Qe hnext
 have hok:=hT _ _ hi
 have hh:=hinv.h
 rw [hS] at hh
 obtain ⟨inf,h1,h2,h3,z,h4,h5,-⟩:=hok.info
 have hf':zab (H :: O) 0 nm = none:=by simpa [zab] using hf
 obtain ⟨l,g,r⟩:=zyk (dst:=nm) hh hf' (ziC hok.one) t
 have hz:z.cells = ti.zero.toArray:=by rw [← h5]
 have hrun:(execOp a.eval o).run c.P w = .ok (.value (.pointer (some ⟨w.heap.size,0,none⟩))) (w.alloc (.cells ti.zero.toArray t)):=by
  simp [execOp,hop,Instr.alloc,zeroValue,typeInfo,h1,h4,newVar,newRow,hz]
 simp only [Oper.wp,hrun,Oper.upon]
 obtain ⟨hI,hst⟩:=HInv.grow (S:=H :: O) rfl hh (fun _ _ _ e => e) (fun n' h => by
  cases hl:look [(nm,Ob.tb t (ti.zero.map fun v => .i (.v v)))] n' with
  | none => exact absurd hl h
  | some ob => obtain ⟨rfl,rfl⟩:=zaP hl; exact hf) g
 refine hnext _ _ _ _ _ hst.le (fun d n x _ e => ⟨hst.shp _ _ _ (by rw [hS] at e; exact e),hst.loc _ _ _ (by rw [hS] at e; exact e)⟩) ?_ hk
 rw [hd]
 refine zes hinv (Nat.le_of_ble_eq_true hn) hI ?_ r
 rw [hS]; exact hst
theorem zt4 (b nm e z:Nat) {T:Nat} {x:D} {H:Heap} {O:List Heap} (hS:s.S = H :: O) (hb:look H b = some (.tb T [x,.i (.v (.slice none 0 0))])) (hf:look H nm = none):Wk c s { σ:=s.σ,S:=((b,.tb T [x,.osl 0 nm]) :: (nm,.arr e z 0 [] true) :: H) :: O,n:=s.n }:=by
 intro K ρ a w hi
 have hh:=hi.h
 rw [hS] at hh
 let l0:Loc:=⟨0,0,none⟩
 have hown:∀ ρ' sh',OwnAt K ρ' sh' w l0 (.arr e z 0 [] true):=fun ρ' sh' => ⟨by simp,rfl,Nat.le_refl _,by simp [l0],.inl ⟨rfl,rfl⟩⟩
 have hg:Grow K ρ (H :: O) w [(nm,.arr e z 0 [] true)] K (upd ρ nm l0) w:=by
  refine ⟨K.le_refl,fun _ _ _ h => .inl h,Nat.le_refl _,fun _ _ => rfl,⟨rfl,rfl,rfl⟩,fun d n' h => ?_,hh.holds,fun n' ob e' => ?_,fun n1 o1 n2 o2 e1 e2 b1 b2 _ => ?_⟩
  ·refine zaK _ _ _ (h.imp id fun h e' => ?_)
   subst e'
   simp [zac] at h
  ·obtain ⟨rfl,rfl⟩:=zaP e'
   rw [zaO]
   exact ⟨hown _ _,fun hb => absurd rfl hb⟩
  ·obtain ⟨rfl,rfl⟩:=zaP e1
   obtain ⟨rfl,rfl⟩:=zaP e2
   rfl
 obtain ⟨hI,hst⟩:=HInv.grow (S:=H :: O) rfl hh (fun _ _ _ e => e) (fun n' h => by
  cases hl:look [(nm,Ob.arr e z 0 [] true)] n' with
  | none => exact absurd hl h
  | some ob => obtain ⟨rfl,rfl⟩:=zaP hl; exact hf) hg
 have hbn:nm ≠ b:=fun e' => by subst e'; rw [hf] at hb; cases hb
 have hI:HInv c.E K (upd ρ nm l0) (((nm,.arr e z 0 [] true) :: H) :: O) w:=hI
 have hob:zab (((nm,.arr e z 0 [] true) :: H) :: O) 0 b = some (.tb T [x,.i (.v (.slice none 0 0))]):=by
  simp only [zab,List.getElem?_cons_zero,zac,if_neg hbn]; exact hb
 have hwb:=hI.own _ _ _ hob
 have e0:(fun d n => upd ρ nm l0 (0 + d) n) = upd ρ nm l0:=by funext d n; rw [Nat.zero_add]
 have e1:(fun d n => shape (((nm,Ob.arr e z 0 [] true) :: H) :: O) (0 + d) n) = shape (((nm,Ob.arr e z 0 [] true) :: H) :: O):=by funext d n; rw [Nat.zero_add]
 obtain ⟨cur,hc,hrc,hKb⟩:=hwb
 rw [e0,List.drop_zero] at hrc
 have hnew:RepDL K (fun d n => upd ρ nm l0 (0 + d) n) (fun d n => shape (((nm,Ob.arr e z 0 [] true) :: H) :: O) (0 + d) n) cur.toList [x,.osl 0 nm]:=by
  rw [e0,e1]
  generalize cur.toList = L at hrc
  cases hrc with
  | cons h1 h2 => cases h2 with
   | cons h3 h4 =>
    cases h4
    rw [zaQ h3]
    have:=RepD.osl (K:=K) (ρ:=upd ρ nm l0) (sh:=shape (((nm,Ob.arr e z 0 [] true) :: H) :: O)) (dep:=0) (nm:=nm) (es:=z) (len:=0) (by simp [shape,zab,zac,Ob.sh])
    rw [zaO] at this
    exact .cons h1 (.cons this .nil)
 have hI2:=hI.put (ob':=.tb T [x,.osl 0 nm]) hob rfl trivial trivial (w':=w) rfl (fun _ _ => rfl) ⟨rfl,rfl,rfl⟩ (fun o' x' hx' => by rw [hKb] at hx'; cases hx') ⟨cur,hc,hnew,hKb⟩
 have hsh:shape (setAt (((nm,Ob.arr e z 0 [] true) :: H) :: O) 0 b (.tb T [x,.osl 0 nm])) = shape (((nm,Ob.arr e z 0 [] true) :: H) :: O):=zbA hob rfl
 refine ⟨K,upd ρ nm l0,hI2,hi.defers,hi.size,fun t' d e' => ?_⟩
 have:=hi.slots _ _ e'
 rw [hS] at this
 show RepD K _ (shape (((b,.tb T [x,.osl 0 nm]) :: (nm,.arr e z 0 [] true) :: H) :: O)) _ _
 have hsh:shape (((b,.tb T [x,.osl 0 nm]) :: (nm,.arr e z 0 [] true) :: H) :: O) = shape (((nm,Ob.arr e z 0 [] true) :: H) :: O):=hsh
 rw [hsh]
 exact this.stays hst
end
end Go.AI
namespace Go.Proofs
open Go.Shelf Go.RowKit
theorem zx6:(Tryz.prog.info? 277).map (·.size) = some 2:=by kernel_rfl
theorem zyX:liesAt Tryz.prog Tryz.prog.depth 277 (2 / Tryz.prog.cellsOf 277) 0 277 1 = true:=by kernel_rfl
set_option maxRecDepth 100000 in
theorem zvC (b:Nat) (w:World) (h0:w.cell? ⟨b,0,none⟩ = some (.pointer (some ⟨b,0,none⟩))) :
  Calls Tryz.prog 218 #[.pointer (some ⟨b,0,none⟩)] w fun e w' => e = .returned (.tuple #[]) ∧ w' = w:=by
 obtain ⟨j,hj,_⟩:=Option.map_eq_some_iff.1 zx6
 have u72:=run_underlying Tryz.underlying277
 have u70:=run_underlying Tryz.underlying275
 have u4:=run_underlying Tryz.underlying4
 have u164:=run_underlying Tryz.underlying371
 go_enter Tryz.func218,Tryz.ntmps218
 go_wp2
 rw [Lib.run_neq_ptr_same w _ Tryz.underlying275 hj]
 go_wp2
 go_end0
 exact ⟨rfl,rfl⟩
set_option maxRecDepth 100000 in
theorem zsY (b:Nat) (w:World) (h0:w.cell? ⟨b,0,none⟩ = some (.pointer none)) (hsh:w.shape? b = some (277,2)) (hfz:w.frozen? ⟨b,0,none⟩ = false) :
  Calls Tryz.prog 218 #[.pointer (some ⟨b,0,none⟩)] w fun e w' => e = .returned (.tuple #[]) ∧ w' = w.setCell ⟨b,0,none⟩ (.pointer (some ⟨b,0,none⟩)):=by
 obtain ⟨j,hj,hjs⟩:=Option.map_eq_some_iff.1 zx6
 have u72:=run_underlying Tryz.underlying277
 have u70:=run_underlying Tryz.underlying275
 have u4:=run_underlying Tryz.underlying4
 have u164:=run_underlying Tryz.underlying371
 go_enter Tryz.func218,Tryz.ntmps218
 go_wp2
 rw [Lib.run_to_unsafe w ⟨b,0,none⟩ Tryz.underlying275 Tryz.underlying371 hj (by rw [hjs]; decide) hsh (Nat.zero_lt_succ 1)]
 simp only [Result.andThen]
 rw [Oper.upon_value]
 go_wp2
 rw [run_callFunc_extern Tryz.func251 (by kernel_rfl) (by kernel_rfl) (by kernel_rfl) (e:=Extern.AbiNoEscape.same) (by kernel_rfl)]
 rw [Lib.run_noEscape]
 simp only [Result.andThen]
 rw [Oper.upon_value]
 go_wp2
 rw [Lib.run_from_unsafe w ⟨b,0,none⟩ Tryz.underlying371 Tryz.underlying275 hj hsh zyX]
 simp only [Result.andThen]
 rw [Oper.upon_value]
 go_wp2
 go_end0
 exact ⟨rfl,rfl⟩
theorem zfV (b:Nat) (p v:Value) (bs:List Value) (w:World) (hp:p = .pointer none ∨ p = .pointer (some ⟨b,0,none⟩)) (hbk:w.heap[b]? = some (.cells #[p,v] 277 (0,0)))
  (hrow:w.ownsRow 0 5 1 v bs.length bs) (hne:v.ownBlock ≠ some b) :
  Calls Tryz.prog 218 #[.pointer (some ⟨b,0,none⟩)] w fun e w' => e = .returned (.tuple #[]) ∧ (w'.heap[b]? = some (.cells #[.pointer (some ⟨b,0,none⟩),v] 277 (0,0)) ∧ w'.ownsRow 0 5 1 v bs.length bs) ∧
   ((w' = w ∧ p = .pointer (some ⟨b,0,none⟩)) ∨ (w' = w.setCell ⟨b,0,none⟩ (.pointer (some ⟨b,0,none⟩)) ∧ p = .pointer none)):=by
 have hc:w.cell? ⟨b,0,none⟩ = some p:=by rw [Lib.cell_of_heap hbk]; rfl
 rcases hp with rfl | rfl
 ·have hsh:w.shape? b = some (277,2):=by simp [World.shape?,hbk]
  refine (zsY b w hc hsh (Lib.frozen_of_heap hbk 0)).mono ?_
  rintro e w' ⟨rfl,rfl⟩
  exact ⟨rfl,⟨zgW hbk,zpD hrow fun k hk => Go.Deep.blk_setCell_other w _ _ k fun e => hne (by rw [hk,e])⟩,.inr ⟨rfl,rfl⟩⟩
 ·refine (zvC b w hc).mono ?_
  rintro e w' ⟨rfl,rfl⟩
  exact ⟨rfl,⟨hbk,hrow⟩,.inl ⟨rfl,rfl⟩⟩
set_option maxRecDepth 100000 in
theorem zs4 (b:Nat) (p v0:Value) (bs:List Value) (s:ByteArray) (w:World) (hp:p = .pointer none ∨ p = .pointer (some ⟨b,0,none⟩)) (hbk0:w.heap[b]? = some (.cells #[p,v0] 277 (0,0)))
  (hrow:w.ownsRow 0 5 1 v0 bs.length bs) (hne:v0.ownBlock ≠ some b) (hlen:bs.length + s.size ≤ 140737488355328) :
  Calls Tryz.prog 155 #[.pointer (some ⟨b,0,none⟩),.string s] w fun e w' => e = .returned (.tuple #[.int .i64 s.size,.nilIface]) ∧ ztd 277 5 b p v0 bs (Lib.strCells s) w w':=by
 obtain ⟨i0,hi,hz0,hz1,hz2⟩:=info_parts Tryz.Builder_Extra_169.infoByte
 have u72:=run_underlying Tryz.underlying277
 have u70:=run_underlying Tryz.underlying275
 have u37:=run_underlying Tryz.underlying71
 have u9:=run_underlying Tryz.underlying9
 have u4:=run_underlying Tryz.underlying4
 have u5:=run_underlying Tryz.underlying5
 have u3:=run_underlying Tryz.underlying3
 have e240:∀ args w,(callFunc 218 args).run Tryz.prog w = .ok (.enter 218 args) w:=Tryz.call218
 go_enter Tryz.func155,Tryz.ntmps155
 go_wp2_with (go_at_fn 218; refine (zfV b p v0 bs _ hp hbk0 hrow hne).mono ?_)
 rintro e w1 ⟨rfl,⟨hbk,hown⟩,hb1⟩
 have c0:w1.cell? ⟨b,0,none⟩ = some (.pointer (some ⟨b,0,none⟩)):=by rw [Lib.cell_of_heap hbk]; rfl
 have c1:w1.cell? ⟨b,1,none⟩ = some v0:=by rw [Lib.cell_of_heap hbk]; rfl
 have hlt:b < w1.heap.size:=by
  rcases Nat.lt_or_ge b w1.heap.size with h' | h'
  ·exact h'
  ·simp [Array.getElem?_eq_none h'] at hbk
 go_wp2_with (at_builtin; refine zhk _ rfl _ _ 71 9 rfl 5 i0 Tryz.underlying71 Tryz.underlying9 hi hz0 hz1 hz2 _ _ _ rfl hown s rfl ?c3 ?c4 ?_)
 case c3 => unfold maxLen; omega
 case c4 => omega
 intro v' w2 hown' hgrow hat
 have hb2:w2.heap[b]? = some (.cells #[.pointer (some ⟨b,0,none⟩),v0] 277 (0,0)):=by
  rw [hgrow.block b hlt (fun e => hne e.symm)]
  exact hbk
 have d0:w2.cell? ⟨b,0,none⟩ = some (.pointer (some ⟨b,0,none⟩)):=by rw [Lib.cell_of_heap hb2]; rfl
 have d1:w2.cell? ⟨b,1,none⟩ = some v0:=by rw [Lib.cell_of_heap hb2]; rfl
 have f1:w2.frozen? ⟨b,1,none⟩ = false:=Lib.frozen_of_heap hb2 1
 have hfin:ztd 277 5 b p v0 bs (Lib.strCells s) w (w2.setCell ⟨b,1,none⟩ v'):=⟨w1,w1,w2,v',hb1,.inl rfl,by simpa [Lib.strCells_length] using hown',hgrow,hat,rfl⟩
 obtain ⟨ao,n',cap,rfl⟩:∃ ao n' cap,v' = .slice ao n' cap:=by
  rcases hown'.2 with ⟨hv,_⟩ | ⟨g,cap,cur,hv,_⟩
  ·exact ⟨_,_,_,hv⟩
  ·exact ⟨_,_,_,hv⟩
 go_wp2
 go_ret2
 exact ⟨rfl,hfin⟩
set_option maxRecDepth 100000 in
theorem zlI (b:Nat) (p v0:Value) (bs:List Value) (c:Int) (w:World) (hp:p = .pointer none ∨ p = .pointer (some ⟨b,0,none⟩)) (hbk0:w.heap[b]? = some (.cells #[p,v0] 277 (0,0)))
  (hrow:w.ownsRow 0 5 1 v0 bs.length bs) (hne:v0.ownBlock ≠ some b) (hlen:bs.length + 1 ≤ 140737488355328) :
  Calls Tryz.prog 156 #[.pointer (some ⟨b,0,none⟩),.int .u8 c] w fun e w' => e = .returned .nilIface ∧ ztd 277 5 b p v0 bs [.int .u8 c] w w':=by
 obtain ⟨i0,hi,hz0,hz1,hz2⟩:=info_parts Tryz.Builder_Extra_169.infoByte
 have u72:=run_underlying Tryz.underlying277
 have u70:=run_underlying Tryz.underlying275
 have u37:=run_underlying Tryz.underlying71
 have u4:=run_underlying Tryz.underlying4
 have u5:=run_underlying Tryz.underlying5
 have e240:∀ args w,(callFunc 218 args).run Tryz.prog w = .ok (.enter 218 args) w:=Tryz.call218
 go_enter Tryz.func156,Tryz.ntmps156
 go_wp2_with (go_at_fn 218; refine (zfV b p v0 bs _ hp hbk0 hrow hne).mono ?_)
 rintro e w1 ⟨rfl,⟨hbk,hown⟩,hb1⟩
 have c0:w1.cell? ⟨b,0,none⟩ = some (.pointer (some ⟨b,0,none⟩)):=by rw [Lib.cell_of_heap hbk]; rfl
 have c1:w1.cell? ⟨b,1,none⟩ = some v0:=by rw [Lib.cell_of_heap hbk]; rfl
 have hlt:b < w1.heap.size:=by
  rcases Nat.lt_or_ge b w1.heap.size with h' | h'
  ·exact h'
  ·simp [Array.getElem?_eq_none h'] at hbk
 go_wp2_with (at_builtin; refine zhl _ rfl _ _ 71 rfl 5 i0 Tryz.underlying71 hi hz0 hz1 hz2 _ _ _ rfl (hown.alloc _) ⟨w1.heap.size,0,none⟩ 1 1 [.int .u8 c] rfl rfl ?c1 ?c2 ?c3 ?c4 ?_)
 case c1 =>
  intro j u hj
  match j,hj with
  | 0,hj => simp at hj; subst hj; simp [Addr.add]
 case c2 => intro u hu; simp at hu; subst hu; rfl
 case c3 => unfold maxLen; omega
 case c4 => omega
 intro v' w2 hown' hgrow hat
 have hb2:w2.heap[b]? = some (.cells #[.pointer (some ⟨b,0,none⟩),v0] 277 (0,0)):=by
  rw [hgrow.block b (by simp; omega) (fun e => hne e.symm),Lib.alloc_old w1 _ b hlt]
  exact hbk
 have d0:w2.cell? ⟨b,0,none⟩ = some (.pointer (some ⟨b,0,none⟩)):=by rw [Lib.cell_of_heap hb2]; rfl
 have d1:w2.cell? ⟨b,1,none⟩ = some v0:=by rw [Lib.cell_of_heap hb2]; rfl
 have f1:w2.frozen? ⟨b,1,none⟩ = false:=Lib.frozen_of_heap hb2 1
 have hfin:ztd 277 5 b p v0 bs [.int .u8 c] w (w2.setCell ⟨b,1,none⟩ v'):=⟨w1,_,w2,v',hb1,.inr ⟨_,rfl⟩,by simpa using hown',hgrow,hat,rfl⟩
 obtain ⟨g,cap,rfl⟩:∃ g cap,v' = .slice (some ⟨g,0,none⟩) (bs.length + 1) cap:=by
  rcases hown'.2 with ⟨_,h0⟩ | ⟨g,cap,cur,hv,_⟩
  ·omega
  ·exact ⟨g,cap,hv⟩
 go_wp2
 go_ret
 exact ⟨rfl,hfin⟩
end Go.Proofs
namespace Go.AI
open Go.Proofs
theorem zwi (s:ByteArray):zxS Tryz.prog 155 277 5 (.tuple #[.int .i64 s.size,.nilIface]) (.string s) (Lib.strCells s):=
 fun b p v0 bs w hp hbk hrow hne hlen => zs4 b p v0 bs s w hp hbk hrow hne (by rw [Lib.strCells_length] at hlen; exact hlen)
theorem ztZ (c:Int):zxS Tryz.prog 156 277 5 .nilIface (.int .u8 c) [.int .u8 c]:=
 fun b p v0 bs w hp hbk hrow hne hlen => zlI b p v0 bs c w hp hbk hrow hne (by simpa using hlen)
theorem zwu:zyO Tryz.prog 157 277 5:=fun b p v l w hbk hown h0 => zqa Tryz.lays169 Tryz.Builder_Extra_169 b p v l w hbk hown h0
end Go.AI
namespace Go.Proofs
open Go.Shelf Go.RowKit
end Go.Proofs
namespace Go.Proofs
open Go.Shelf Go.RowKit
end Go.Proofs
namespace Go.AI
open Go.Proofs
end Go.AI
namespace Go.AI
open Go.Proofs
set_option maxRecDepth 20000
def zkP (l:List Int) (n:Nat):List Int:=((List.range n).map fun (i:Nat) => (i:Int)).filter fun x => decide (x ∈ l)
def stp3 (es:List Edg) (s ev:Int):Int:=match es with
 | [] => -1
 | x :: r => if x.1 = s ∧ x.2.1 = ev then x.2.2 else stp3 r s ev
end Go.AI
namespace Go.AI
theorem zen:∀ {n:Nat} {l:List Nat},l.Nodup → (∀ x ∈ l,x < n) → l.length ≤ n
 | 0,l,_,h => by
  cases l with
  | nil => exact Nat.le_refl _
  | cons a r => exact absurd (h a (by simp)) (Nat.not_lt_zero _)
 | n + 1,l,hn,h => by
  by_cases hm:n ∈ l
  ·have h1:=zen (n:=n) (l:=l.erase n) (hn.erase n) fun x hx => by
    have hx2:=(hn.mem_erase_iff).1 hx
    have:=h x hx2.2
    have:=hx2.1
    omega
   rw [List.length_erase_of_mem hm] at h1
   omega
  ·have:=zen (n:=n) (l:=l) hn fun x hx => by
    have h1:=h x hx
    have:x ≠ n:=fun e => hm (e ▸ hx)
    omega
   omega
structure autOk (a:Aut):Prop where
 ed:a.edges.length ≤ 1000000
 al:a.alpha.length ≤ 1000000
 mkd:a.marked.length ≤ 1000000
 chk:chkA a = 0
theorem zkv {a:Aut} (h:chkA a = 0):zaw 32 a.alpha none = 0 ∧ (0 ≤ a.states ∧ a.states ≤ 4096) ∧ zaw a.states a.marked none = 0 ∧ zcL a.alpha a.states none a.edges = 0:=by
 unfold chkA at h
 by_cases h1:zaw 32 a.alpha none ≠ 0
 ·rw [if_pos h1] at h; exact absurd h h1
 rw [if_neg h1] at h
 by_cases h2:a.states < 0
 ·rw [if_pos h2] at h; cases h
 rw [if_neg h2] at h
 by_cases h3:a.states > 4096
 ·rw [if_pos h3] at h; cases h
 rw [if_neg h3] at h
 by_cases h4:zaw a.states a.marked none ≠ 0
 ·rw [if_pos h4] at h; exact absurd h h4
 rw [if_neg h4] at h
 exact ⟨by simpa using h1,by omega,by simpa using h4,h⟩
end Go.AI
namespace Go.AI
open Go.Proofs
set_option maxRecDepth 20000
structure fOk (n:Int) (out:List Int):Prop where
 nd:out.Nodup
 b:∀ x ∈ out,0 ≤ x ∧ x < n
end Go.AI
namespace Go.AI
def rvB (p:Int → Bool) (s:Int):List Edg → List Int → List Int
 | [],l => l
 | e :: r,l => rvB p s r (if e.1 = s ∧ p e.2.1 = true ∧ e.2.2 ∉ l then l ++ [e.2.2] else l)
def rlB (es:List Edg) (p:Int → Bool):Nat → Nat → List Int → List Int
 | 0,_,l => l
 | f + 1,i,l => match l[i]? with
  | none => l
  | some s => rlB es p f (i + 1) (rvB p s es l)
def zyb (es:List Edg) (p:Int → Bool) (n:Nat) (l:List Int):List Int:=rlB es p (l.length + n) 0 l
def clo (es:List Edg) (p:Int → Bool) (n:Nat) (l:List Int):List Int:=zkP (zyb es p n l) n
structure grOk (n:Nat) (fr l:List Int):Prop where
 ex:∃ ad,l = fr ++ ad ∧ fOk n ad
inductive Rc (es:List Edg) (p:Int → Bool) (l:List Int):Int → Prop
 | base {x:Int}:x ∈ l → Rc es p l x
 | step {e:Edg}:Rc es p l e.1 → e ∈ es → p e.2.1 = true → Rc es p l e.2.2
def zc7 (l:List Int):List Int:=l.mergeSort fun x y => decide (x ≤ y)
theorem zgo (l:List Int):(zc7 l).length = l.length:=by unfold zc7; exact List.length_mergeSort l
theorem zue (l:List Int):(zc7 l).Pairwise (· ≤ ·):=by
 unfold zc7
 have:=List.pairwise_mergeSort (le:=fun x y:Int => decide (x ≤ y)) (fun a b c h1 h2 => by simp only [decide_eq_true_eq] at *; omega) (fun a b => by simp only [Bool.or_eq_true,decide_eq_true_eq]; omega) l
 exact this.imp fun {a b} h => of_decide_eq_true h
end Go.AI
namespace Go.AI
open Go.Proofs
set_option maxRecDepth 20000
structure Moved (E0 E:Env) (nm:Nat):Prop where
 K0:E.K0 = E0.K0
 w0:E.w0 = E0.w0
 ρ:∀ d n,(d ≠ 0 ∨ n ≠ nm) → E.ρ0 d n = E0.ρ0 d n
 sub:∀ b,E.pr b → E0.pr b
 pr:∀ b,E0.pr b → ((E0.ρ0 0 nm).base ≠ none → b ≠ (E0.ρ0 0 nm).block) → E.pr b
 blk:(E.ρ0 0 nm).base ≠ none → E0.w0.heap.size ≤ (E.ρ0 0 nm).block ∨ ((E0.ρ0 0 nm).base ≠ none ∧ (E.ρ0 0 nm).block = (E0.ρ0 0 nm).block)
section
variable {P:Program} {T:TT} {f:FuncId} {fn:Func} {code:Code}
end
section
variable {c:Cx} {s:St} {k:List Item} {ops:Array Oper} {rest:List Nat} {o:Oper} {E0:Env} {H:Heap} {O:List Heap}
end
section
variable {P:Program} {T:TT} {E:Env} {K:Kn} {ρ ρ':Nat → Nat → Loc} {S:List Heap} {w:World} {sh sh':Nat → Nat → Option Sh} {m:Nat}
end
section
variable {c:Cx} {s:St} {k:List Item} {ops:Array Oper} {rest:List Nat} {o:Oper} {E0:Env} {H0 H1 H:Heap} {O:List Heap}
end
abbrev bools (sn:List Bool):Ob:=.arr 4 1 sn.length (sn.map fun b => [.v (.bool b)]) true
end Go.AI
namespace Go.AI
open Go.Proofs
theorem zkW {w:World} {b:Nat} {d:Array Int} {c:Array Value} {ty:TypeId} {fr:Nat × Nat} (h:w.heap[b]? = some (.cells c ty fr)) :
  (Sort.putRow (Value.int .i64) w b 0 d).heap[b]? = some (.cells (Sort.putCells (Value.int .i64) 0 d c) ty fr) ∧ ∀ b',b' ≠ b → (Sort.putRow (Value.int .i64) w b 0 d).heap[b']? = w.heap[b']?:=by
 unfold Sort.putRow Sort.mapBlock
 refine ⟨?_,fun b' hb => ?_⟩
 ·simp [Array.getElem?_modify,h,Sort.onCells]
 ·simp only [Array.getElem?_modify]
  rw [if_neg (fun e => hb e.symm)]
theorem zx2 (O:List Heap) (d nm:Nat) (l:List Int) (hpos:0 < l.length) (hl:l.length < 4611686018427387904) (ho:zab O d nm = some (zbT l)):zan Tryz.prog 172 [.osl d nm] O (.tup []) [] (setAt O d nm (zbT (zc7 l))):=by
 intro E K ρ w vs hw hrep
 obtain rfl:vs = [.slice (ρ d nm).base l.length (ρ d nm).cap]:=by
  cases hrep with
  | cons r rs =>
   cases rs
   rw [zet (es:=1) (len:=l.length) r (by simp [shape,ho,Ob.sh])]
 obtain ⟨ρ1,hρ1,hI⟩:=zc1 hw
 have ho1:zab (([]:Heap) :: O) (d + 1) nm = some (zbT l):=zau ho
 have hown1:=zd4 (s:={ σ:=[],S:=[] :: O,n:=0 }) hI ho1
 have hsl:=zgo l
 refine .inl ⟨Tryz.call172 _ _,?_⟩
 obtain ⟨h1,h2,h3,h4,h5⟩:=hown1
 have hloc:ρ1 (d + 1) nm = ρ d nm:=by rw [hρ1]
 rw [hloc] at h3 h4 h5
 rcases h5 with ⟨h5,h6⟩ | ⟨h5,c,h6,h7,h8,h9,h10,h11⟩
 ·exfalso; omega
 ·have hcl:c.toList.take l.length = l.map (Value.int .i64):=by
   rw [Nat.mul_one] at h8
   exact zgz h8
  have hsz:l.length ≤ c.size:=by rw [h7,Nat.mul_one]; exact h3
  have hblk:(ρ d nm).block < w.heap.size:=(Array.getElem?_eq_some_iff.1 h6).1
  rw [h5]
  refine (Tryz.slices_Sort_int (ρ d nm).block 0 (ρ d nm).cap l w (fun j hj => ⟨?_,?_⟩) hblk hl).mono ?_
  ·have hj:j < l.length:=by simpa using hj
   rw [Nat.zero_add,cell_of_heap h6]
   have:(c.toList.take l.length)[j]? = some (.int .i64 l[j]):=by
    rw [hcl,List.getElem?_map,List.getElem?_eq_getElem hj]
    rfl
   rw [List.getElem?_take,if_pos hj] at this
   have e:l.toArray[j]! = l[j]:=by simp [hj]
   rw [e]
   simpa using this
  ·simp [World.frozen?,h6]
  ·rintro e w' ⟨rfl,n,os,rfl⟩
   have hh:(Sort.ahead w n).heap[(ρ d nm).block]? = some (.cells c 3 (0,0)):=h6
   obtain ⟨a1,a2⟩:=zkW (d:=(zc7 l).toArray) hh
   have hbk:zaC (ρ1 (d + 1) nm) (zbT l):=by rw [hloc]; show _ ≠ none; rw [h5]; simp
   have hfin:HInv (.of K ρ w) K ρ1 (setAt ([] :: O) (d + 1) nm (zbT (zc7 l))) (Sort.putRow (Value.int .i64) (Sort.ahead w n) (ρ d nm).block 0 (zc7 l).toArray):=by
    refine hI.put ho1 (by simp [Ob.sh,hsl]) hbk (by rw [hloc]; show _ ≠ none; rw [h5]; simp) (by simp [Sort.ahead]) (fun b hb => a2 b (by rw [← hloc]; exact hb)) ⟨rfl,rfl,rfl⟩ (fun o x hx => ?_) ?_
    ·rw [hloc] at hx ⊢
     rw [h9 rfl] at hx; cases hx
    ·rw [hloc]
     refine ⟨by simp [hsl],by simp,by simpa [hsl] using h3,h4,.inr ⟨h5,_,a1,by simp [Sort.putCells,h7],?_,fun _ => h9 rfl,fun o ho => by rw [h9 rfl o],fun h => by cases h⟩⟩
     have e:(Sort.putCells (Value.int .i64) 0 (zc7 l).toArray c).toList.take ((zc7 l).length * 1) = (zc7 l).map (Value.int .i64):=by
      apply List.ext_getElem?
      intro j
      rw [List.getElem?_take,Nat.mul_one]
      by_cases hj:j < (zc7 l).length
      ·rw [if_pos hj]
       have hjc:j < c.size:=by omega
       simp [Sort.putCells,hj,hjc,Array.getElem?_mapIdx]
      ·rw [if_neg hj]
       simp at hj
       simp [hj]
     rw [e]
     exact zgR _
   obtain ⟨hI2,hst⟩:=HInv.grow (S:=setAt ([] :: O) (d + 1) nm (zbT (zc7 l))) rfl hfin (fun _ _ _ e => e) (fun _ h => by simp [look] at h) (zj5 hfin 0 os)
   exact ⟨_,rfl,K,ρ1,hI2,.tup .nil⟩
end Go.AI
namespace Go.AI
open Go.Proofs
set_option maxRecDepth 20000
theorem zxk (O:List Heap):zan Tryz.prog 191 [.i (.v (.int .u64 0))] O (ii 0) [] O:=by
 refine zaa Tk Tryz.func191 rfl Tryz.call191 Tryz.ntmps191 (Nat.le_of_ble_eq_true rfl) fun E => ?_
 refine zah Tk Tryz.func191 ?_
 refine gcF Tk Tryz.func191 rfl ?_
 refine gcF Tk Tryz.func191 rfl ?_
 refine gcF Tk Tryz.func191 rfl ?_
 refine zaj Tk Tryz.func191 (by exact ⟨by decide,by decide⟩) ?_
 refine zae Tk (r:=ii 0) rfl rfl rfl trivial rfl rfl ?_
 rfl
theorem zys (O:List Heap):zan Tryz.prog 141 [.i (.v (.int .u64 0))] O (ii 0) [] O:=by
 refine zaa Tk Tryz.func141 rfl Tryz.call141 Tryz.ntmps141 (Nat.le_of_ble_eq_true rfl) fun E => ?_
 refine zah Tk Tryz.func141 ?_
 refine gcF Tk Tryz.func141 rfl ?_
 refine zag Tk Tryz.func141 (zxk _) rfl rfl rfl rfl rfl ?_
 refine zae Tk (r:=ii 0) rfl rfl rfl trivial rfl rfl ?_
 rfl
theorem zxu (O:List Heap):zan Tryz.prog 253 [ints [],ii 0,ii 0] O (.tup []) [] O:=by
 refine zaa Tk Tryz.func253 rfl Tryz.call253 Tryz.ntmps253 (Nat.le_of_ble_eq_true rfl) fun E => ?_
 refine zah Tk Tryz.func253 ?_
 refine zaf ?_
 refine zah Tk Tryz.func253 ?_
 refine gcF Tk Tryz.func253 rfl ?_
 refine zae Tk (r:=.tup []) rfl rfl rfl trivial rfl rfl ?_
 rfl
theorem zyd (O:List Heap):zan Tryz.prog 227 [ints [],ii 0,ii 0,ii 0] O (.tup []) [] O:=by
 refine zaa Tk Tryz.func227 rfl Tryz.call227 Tryz.ntmps227 (Nat.le_of_ble_eq_true rfl) fun E => ?_
 refine zah Tk Tryz.func227 ?_
 refine zaf ?_
 refine zah Tk Tryz.func227 ?_
 refine gcT Tk Tryz.func227 rfl ?_
 refine zag Tk Tryz.func227 (zxu _) rfl rfl rfl rfl rfl ?_
 refine zae Tk (r:=.tup []) rfl rfl rfl trivial rfl rfl ?_
 rfl
theorem zwx (O:List Heap):zan Tryz.prog 172 [ints []] O (.tup []) [] O:=by
 refine zaa Tk Tryz.func172 rfl Tryz.call172 Tryz.ntmps172 (Nat.le_of_ble_eq_true rfl) fun E => ?_
 refine zah Tk Tryz.func172 ?_
 refine zag Tk Tryz.func172 (zys _) rfl rfl rfl rfl rfl ?_
 refine zag Tk Tryz.func172 (zyd _) rfl rfl rfl rfl rfl ?_
 refine zae Tk (r:=.tup []) rfl rfl rfl trivial rfl rfl ?_
 rfl
def tgtE (es:List Edg) (est:List Int) (ev:Int):List Int:=(es.filter fun e => e.2.1 == ev && decide (e.1 ∈ est)).map fun e => e.2.2
def nxt (es:List Edg) (p:Int → Bool) (n:Nat) (est:List Int) (ev:Int):List Int:=clo es p n (tgtE es est ev)
section
variable {P:Program} {T:TT} {f:FuncId} {fn:Func} {code:Code}
end
section
variable {c:Cx} {s:St} {k:List Item} {ops:Array Oper} {rest:List Nat} {o:Oper}
end
def subs:Nat → List (List Int)
 | 0 => [[]]
 | n + 1 => subs n ++ (subs n).map (· ++ [(n:Int)])
structure estsOk (n:Nat) (sts:List (List Int)):Prop where
 nd:sts.Nodup
 el:∀ s ∈ sts,s ∈ subs n ∧ s ≠ [] ∧ s.length ≤ n ∧ ∀ x ∈ s,0 ≤ x ∧ x < (n:Int)
theorem zs6 (a:ByteArray):(a == a) = true:=(zqc a a).2 rfl
abbrev zy1 (a:Aut) (on:List Int):List Int:=a.alpha.filter fun x => decide (x ∈ on)
structure smallA (a:Aut):Prop where
 ed:a.edges.length ≤ 1000000
 al:a.alpha.length ≤ 1000000
 mkd:a.marked.length ≤ 1000000
end Go.AI
namespace Go.AI
open Go.Proofs
open Go.Shelf Go.RowKit Go.Lib Go.Sort
end Go.AI
namespace Go.AI
open Go.Proofs
set_option maxRecDepth 20000
def lowP (on un:List Int) (only:Bool) (ev:Int):Bool:=!decide (ev ∈ on) && (!only || decide (ev ∈ un))
section
variable {c:Cx} {s:St} {k:List Item} {ops:Array Oper} {rest:List Nat} {o:Oper} {E0:Env} {H0 H1 H:Heap} {O:List Heap}
end
end Go.AI
namespace Go.AI
open Go.Proofs
section
variable {S:Type} [DecidableEq S]
structure bOk (V:List S) (l:List (S × List Int)):Prop where
 nd:(l.map (·.1)).Nodup
 el:∀ z ∈ l,z.1 ∈ V
 wl:∀ (j:Nat) z,l[j]? = some z → z.2.length ≤ j
end
end Go.AI
namespace Go.AI
open Go.Proofs
set_option maxRecDepth 20000
theorem zt5 {c:Cx} {s:St} (nm:Nat) {ty es n:Nat} {xs ys:List (List I)} {wr:Bool} {H:Heap} {O:List Heap} (hS:s.S = H :: O) (ho:look H nm = some (.arr ty es n xs wr)) (hl:ys.length = xs.length) (he:∀ d ∈ ys,d.length = es) (hco:∀ K vs,RepL K vs xs.flatten → RepL K vs ys.flatten) :
  Wk c s { σ:=s.σ,S:=((nm,.arr ty es n ys wr) :: H) :: O,n:=s.n }:=by
 intro K ρ a w hi
 have hh:=hi.h
 rw [hS] at hh
 have hsh:shape (((nm,Ob.arr ty es n ys wr) :: H) :: O) = shape (H :: O):=zba ho rfl
 refine ⟨K,ρ,hh.reob ho rfl (fun h => h) fun h => ?_,hi.defers,hi.size,fun t d e => ?_⟩
 ·obtain ⟨h1,h2,h3,h4,h5⟩:=h
  refine ⟨he,by rw [hl]; exact h2,h3,h4,?_⟩
  rcases h5 with h5 | ⟨h5,c',h6,h7,h8,h9⟩
  ·exact .inl h5
  ·exact .inr ⟨h5,c',h6,h7,hco _ _ h8,h9⟩
 ·show RepD K ρ (shape (((nm,Ob.arr ty es n ys wr) :: H) :: O)) _ _
  rw [hsh,← hS]
  exact hi.slots t d e
abbrev PS:=List Int × List Int
abbrev znj (a:Aut) (l:List Int):Bool:=l.any fun x => decide (x ∈ a.marked)
end Go.AI
namespace Go.AI
section
variable {c:Cx} {ops:Array Oper} {O:List Heap} {n:Nat} {F:SH → List Pl → Prop}
def frPl (p:Pl) (t ty es m:Nat) (xs:List (List I)):Pl:=⟨(t,.i (.sl es m xs)) :: p.sets,[(t,.arr ty es m xs false)],p.rem⟩
theorem ziq {o:Oper} {v:SH} {p:Pl} {t ty es m:Nat} {xs:List (List I)} (hs:look p.sets t = some (.osl 0 t)) (ha:p.adds = [(t,.arr ty es m xs true)]) (h:zdG c ops O n o v p):zdG c ops O n o v (frPl p t ty es m xs):=by
 rcases h with ⟨_,t',_,_,rfl⟩ | ⟨hw,h⟩
 ·cases ha
 ·refine .inr ⟨hw,fun E hE K ρ a w hi next Qe hn => h E hE K ρ a w hi next Qe fun val w' σ' K' ρ' hle hk hi' hlk => ?_⟩
  have hh:=hi'.h
  have ho:look (p.adds ++ rmv p.rem v.2) t = some (.arr ty es m xs true):=by rw [ha]; simp [zac]
  obtain ⟨K2,hle2,hI⟩:=hh.freeze ho
  have hl:∀ nm,look ((t,Ob.arr ty es m xs false) :: rmv p.rem v.2) nm = look ((t,Ob.arr ty es m xs false) :: (p.adds ++ rmv p.rem v.2)) nm:=by
   intro nm
   rw [ha]
   simp only [List.singleton_append,zac]
   by_cases e:t = nm
   ·simp [e]
   ·simp [e]
  have hI2:HInv E K2 ρ' (((t,Ob.arr ty es m xs false) :: rmv p.rem v.2) :: O) w':=hI.same hl
  have hsh:shape (((t,Ob.arr ty es m xs false) :: rmv p.rem v.2) :: O) = shape ((p.adds ++ rmv p.rem v.2) :: O):=by
   rw [zdK (O:=O) hl]
   exact zba ho rfl
  have hS:(frPl p t ty es m xs).adds ++ rmv (frPl p t ty es m xs).rem v.2 = (t,Ob.arr ty es m xs false) :: rmv p.rem v.2:=rfl
  refine hn val w' ((t,.i (.sl es m xs)) :: σ') K2 ρ' (Kn.le_trans hle hle2) ?_ ⟨?_,hi'.defers,hi'.size,fun t' d e => ?_⟩ fun t' d e => ?_
  ·rw [hS,hsh]; exact hk
  ·rw [hS]; exact hI2
  ·show RepD K2 ρ' (shape (((frPl p t ty es m xs).adds ++ rmv (frPl p t ty es m xs).rem v.2) :: O)) _ d
   rw [hS,hsh]
   replace e:look ((t,D.i (.sl es m xs)) :: σ') t' = some d:=e
   rw [zac] at e
   rcases Nat.decEq t t' with h1 | h1
   rotate_left
   ·rw [if_pos h1] at e
    subst h1
    simp only [Option.some.injEq] at e
    subst e
    have hsl:look σ' t = some (.osl 0 t):=by
     rcases hlk t _ hs with h2 | h2
     ·cases h2
     ·exact h2
    have h1:=hi'.slots t _ hsl
    have hown:=hI.own 0 t (.arr ty es m xs false) (by simp [zab,zac])
    have:=zet (es:=es) (len:=m) h1 (by
     show shape ((p.adds ++ rmv p.rem v.2) :: O) 0 t = _
     simp [shape,zab,ha,zac,Ob.sh])
    rw [this]
    exact .i (zdN hown)
   ·rw [if_neg h1] at e
    exact (hi'.slots t' d e).stays ⟨hle2,fun _ _ _ h => h,fun _ _ _ _ => rfl⟩
  ·replace e:look ((t,D.i (.sl es m xs)) :: p.sets) t' = some d:=e
   rw [zac] at e
   rcases Nat.decEq t t' with h1 | h1
   ·rw [if_neg h1] at e
    rcases hlk t' d e with h2 | h2
    ·exact .inl h2
    ·right
     show look ((t,D.i (.sl es m xs)) :: σ') t' = some d
     rw [zac,if_neg h1]
     exact h2
   ·rw [if_pos h1] at e
    right
    show look ((t,D.i (.sl es m xs)) :: σ') t' = some d
    rw [zac,if_pos h1]
    exact e
theorem zx9 (hT:TOk c.P c.T) {i:Nat} {o:Oper} {rest:List Oper} {x:SH} {acc:List Pl} (p:Pl) {t ty es m:Nat} {xs:List (List I)} (hs:look p.sets t = some (.osl 0 t)) (ha:p.adds = [(t,.arr ty es m xs true)])
  (h1:MDx c ops O n (fun _ ps => ps = acc ++ [p]) (runD c.T ops O n [o] x acc)) (h2:GE c ops O n F (runS c.T ops O n (i + 1) rest ((frPl p t ty es m xs).ap x) (acc ++ [frPl p t ty es m xs]))):GE c ops O n F (.old i o rest x acc):=by
 refine ⟨fun _ => ?_⟩
 obtain ⟨qs,hc,hq⟩:=zb5 hT _ _ _ h1
 have hq:qs = [p]:=by simpa using hq
 subst hq
 exact zft (ziq hs ha hc.1) (zbm hT _ _ _ _ h2.h)
end
end Go.AI
namespace Go.AI
open Go.Proofs
set_option maxRecDepth 20000
def nxtL (es:List Edg) (p:Int → Bool) (n:Nat) (l:List Int) (obs:List Int):List Int:=obs.foldl (nxt es p n) l
end Go.AI
namespace Go.AI
open Go.Proofs
inductive FrzA (nm:Nat) (d:I):List D → List D → Prop
 | nil:FrzA nm d [] []
 | i {x:I} {l m:List D}:FrzA nm d l m → FrzA nm d (.i x :: l) (.i x :: m)
 | osl {l m:List D}:FrzA nm d l m → FrzA nm d (.osl 0 nm :: l) (.i d :: m)
def Shut (d:D):Prop:=∀ K K' ρ ρ' sh sh' v,RepD K ρ sh v d → RepD K' ρ' sh' v d
theorem zfJ (x:Value):Shut (.i (.v x)):=fun _ _ _ _ _ _ v h => by
 cases h with
 | i r => cases r with
  | v e => exact .i (.v e)
end Go.AI
namespace Go.AI
open Go.Proofs
set_option maxRecDepth 20000
end Go.AI
namespace Go.AI
open Go.Proofs
set_option maxRecDepth 100000
end Go.AI
namespace Go.AI
open Go.Proofs
set_option maxRecDepth 20000
structure gAut (a:Aut) (n:Nat):Prop where
 st:a.states = n
 sm:smallA a
 c:chkA a = 0
def okX (y:PS):Bool:=decide (y.1.length > 0)
section
variable {S:Type} [DecidableEq S]
end
end Go.AI
namespace Go.AI
section
variable {S:Type} [DecidableEq S]
end
section
variable {S:Type} [DecidableEq S]
end
section
variable {S T:Type} [DecidableEq S] [DecidableEq T]
end
end Go.AI
namespace Go.AI
open Go.Proofs
set_option maxRecDepth 20000
theorem zhf {n:Int}:∀ {l:List Int} {p:Option Int},l.Pairwise (· < ·) → (∀ x ∈ l,0 ≤ x ∧ x < n) → (∀ y,p = some y → ∀ x ∈ l,y < x) → zaw n l p = 0
 | [],_,_,_,_ => rfl
 | x :: r,p,hs,hr,hp => by
  simp only [zaw]
  have h1:=hr x (by simp)
  rw [if_neg (by omega),if_neg]
  ·rw [List.pairwise_cons] at hs
   refine zhf hs.2 (fun y hy => hr y (by simp [hy])) (fun y e z hz => ?_)
   simp only [Option.some.injEq] at e
   subst e
   exact hs.1 z hz
  ·cases p with
   | none => simp
   | some y =>
    have:=hp y rfl x (by simp)
    simp only [Option.any_some,decide_eq_true_eq]
    omega
end Go.AI
namespace Go.AI
section
variable {S:Type} [DecidableEq S]
end
def hX (y:PS):Option PS:=if okX y = true then some y else none
section
variable {S:Type} [DecidableEq S]
end
def mrk (a:Aut) (n:Nat) (i:Int):Bool:=znj a (clo a.edges (lowP [] [] false) n [i])
def swp (s x:Int):Int:=if x = 0 then s else if x = s then 0 else x
structure Sm (n:Nat) (s:Int) (E A:List Int):Prop where
 rel:∀ x,0 ≤ x → x < (n:Int) → (x ∈ E ↔ swp s x ∈ A)
 rE:∀ x ∈ E,0 ≤ x ∧ x < (n:Int)
 rA:∀ x ∈ A,0 ≤ x ∧ x < (n:Int)
section
variable {a:Aut} {n:Nat} {s:Int} (h:gAut a n) (hn:n ≤ 5) (hs:0 ≤ s ∧ s < (n:Int))
include h hs
include hn
omit h hn
end
end Go.AI
namespace Go.AI
open Go.Proofs
section
variable {E0 E:Env} {K:Kn} {ρ:Nat → Nat → Loc} {H:Heap} {O:List Heap} {w:World}
end
section
variable {c:Cx} {s:St} {k:List Item} {ops:Array Oper} {rest:List Nat} {o:Oper} {E0:Env} {H:Heap} {O:List Heap}
end
section
variable {P:Program} {T:TT} {f:FuncId} {fn:Func} {code:Code}
end
section
variable {c:Cx} {s:St} {k:List Item} {ops:Array Oper} {rest:List Nat} {o:Oper} {g:Nat} {tab:Obj}
end
section
variable {c:Cx} {ops:Array Oper} {O:List Heap} {n:Nat} {F:SH → List Pl → Prop}
end
section
variable {c:Cx}
end
end Go.AI
namespace Go.AI
open Go.Proofs
set_option maxRecDepth 20000
end Go.AI
namespace Go.AI
theorem zo9 {σ:Type} {eq:σ → σ → Bool} {lim:Bool} {step:σ → Int → σ × Bool × Int} {i:Nat} {s:σ} {ev:Int} {U V:Unf σ} (h:zcD eq lim step i s ev U = .ok V):U.sts <+: V.sts:=by
 unfold zcD at h
 split at h
 ·cases h
 split at h
 ·simp only [Except.ok.injEq] at h; subst h; exact List.prefix_refl _
 split at h
 ·simp only [Except.ok.injEq] at h; subst h; exact List.prefix_refl _
 split at h
 ·cases h
 ·simp only [Except.ok.injEq] at h; subst h; exact List.prefix_append _ _
theorem zgg {σ:Type} {eq:σ → σ → Bool} {lim:Bool} {step:σ → Int → σ × Bool × Int} {i:Nat} {s:σ}:∀ {l:List Int} {U V:Unf σ},za1 eq lim step i s l U = .ok V → U.sts <+: V.sts
 | [],U,V,h => by simp only [za1,Except.ok.injEq] at h; subst h; exact List.prefix_refl _
 | ev :: r,U,V,h => by
  simp only [za1] at h
  cases h1:zcD eq lim step i s ev U with
  | error e => rw [h1] at h; cases h
  | ok U' => rw [h1] at h; exact (zo9 h1).trans (zgg h)
theorem zji {σ:Type} {eq:σ → σ → Bool} {lim:Bool} {step:σ → Int → σ × Bool × Int} {mkd:σ → Bool} {alpha:List Int}:∀ {f i:Nat} {U V:Unf σ},zdk eq lim step mkd alpha f i U = .ok V → U.sts <+: V.sts
 | 0,i,U,V,h => by simp only [zdk,Except.ok.injEq] at h; subst h; exact List.prefix_refl _
 | f + 1,i,U,V,h => by
  simp only [zdk] at h
  cases hs:U.sts[i]? with
  | none => rw [hs] at h; simp only [Except.ok.injEq] at h; subst h; exact List.prefix_refl _
  | some s =>
   rw [hs] at h
   simp only at h
   cases h1:za1 eq lim step i s alpha (zef mkd i s U) with
   | error e => rw [h1] at h; cases h
   | ok U' =>
    rw [h1] at h
    have:=zgg h1
    rw [(zeI mkd i s U).1] at this
    exact this.trans (zji h)
structure PrjOk (b:Aut) (on:List Int) (n:Nat) (V:Unf (List Int)):Prop where
 fst:V.sts[0]? = some (clo b.edges (lowP on [] false) n [0])
 nd:V.sts.Nodup
 el:∀ s ∈ V.sts,s ∈ subs n
 ne:∀ s ∈ V.sts,s ≠ []
 mrk:∀ (i:Nat) E,V.sts[i]? = some E → decide ((i:Int) ∈ V.mkl) = znj b E
 st:∀ (i:Nat) E,V.sts[i]? = some E → ∀ ev ∈ zy1 b on,(nxt b.edges (lowP on [] false) n E ev = [] ∧ stp3 V.eds i ev = -1) ∨
  ∃ j:Nat,stp3 V.eds i ev = (j:Int) ∧ V.sts[j]? = some (nxt b.edges (lowP on [] false) n E ev) ∧ nxt b.edges (lowP on [] false) n E ev ≠ []
 len:V.sts.length ≤ 32 ∧ V.mkl.length ≤ 32 ∧ V.eds.length ≤ 32 * 32
abbrev NP:=Nat × Nat
section
variable (b c:Aut) (lp:Int → Bool) (n:Nat) (kp:List Int) (V W:Unf (List Int))
def atW (t:List Int) (z:NP):Prop:=V.sts[z.1]? = some (nxtL b.edges lp n (clo b.edges lp n [0]) t) ∧ W.sts[z.2]? = some (nxtL c.edges lp n (clo c.edges lp n [0]) t)
def zy3 (l:List NP) (z:NP) (ev:Int):Prop:=∀ E F,V.sts[z.1]? = some E → W.sts[z.2]? = some F → (nxt b.edges lp n E ev = [] ↔ nxt c.edges lp n F ev = []) ∧
 (nxt b.edges lp n E ev ≠ [] → ∃ y ∈ l,V.sts[y.1]? = some (nxt b.edges lp n E ev) ∧ W.sts[y.2]? = some (nxt c.edges lp n F ev))
def zy2 (z:NP):Prop:=∀ E F,V.sts[z.1]? = some E → W.sts[z.2]? = some F → znj b E = znj c F
structure prOk (i:Nat) (l:List NP):Prop where
 nd:l.Nodup
 zero:(0,0) ∈ l
 at_:∀ z ∈ l,∃ t,(∀ ev ∈ t,ev ∈ kp) ∧ atW b c lp n V W t z
 mrk:∀ (k:Nat) z,k < i → l[k]? = some z → zy2 b c V W z
 ev:∀ (k:Nat) z,k < i → l[k]? = some z → ∀ ev ∈ kp,zy3 b c lp n V W l z ev
variable {b c lp n kp V W}
end
section
variable {b c:Aut} {on:List Int} {n:Nat} {kp:List Int} {V W:Unf (List Int)}
end
end Go.AI
namespace Go.AI
set_option maxRecDepth 20000
section
variable {σ τ:Type} {eq:σ → σ → Bool} {eq':τ → τ → Bool} {lim:Bool} {step:σ → Int → σ × Bool × Int} {step':τ → Int → τ × Bool × Int} {mkd:σ → Bool} {mkd':τ → Bool} {P:σ → Prop} {f:σ → τ} {alpha:List Int}
structure Sim (eq:σ → σ → Bool) (eq':τ → τ → Bool) (step:σ → Int → σ × Bool × Int) (step':τ → Int → τ × Bool × Int) (mkd:σ → Bool) (mkd':τ → Bool) (P:σ → Prop) (f:σ → τ) (alpha:List Int):Prop where
 st:∀ s ev,P s → ev ∈ alpha → (step' (f s) ev).2 = (step s ev).2 ∧ ((step s ev).2.1 = true → (step' (f s) ev).1 = f (step s ev).1 ∧ P (step s ev).1)
 eq:∀ a b,P a → P b → eq' (f a) (f b) = eq a b
 mark:∀ s,P s → mkd' (f s) = mkd s
end
end Go.AI
namespace Go.AI
abbrev pk (x ev:Int):Value:=.agg ⟨[.int .i64 x,.int .i64 ev]⟩
def zyS (es:List Edg):List (Value × Int):=es.foldl (fun m e => mset m (pk e.1 e.2.1) e.2.2) []
section
variable {σ:Type} [DecidableEq σ] {mkd:σ → Bool} {al:List Int} {P:σ → Prop} {step:σ → Int → σ × Bool × Int} {V:Unf σ}
end
end Go.AI
namespace Go.AI
open Go.Proofs
set_option maxRecDepth 20000
end Go.AI
namespace Go.AI
open Go.Proofs
section
variable {P:Program} {T:TT} {f:FuncId} {fn:Func} {code:Code}
end
section
variable {c:Cx} {s:St} {k:List Item} {ops:Array Oper} {rest:List Nat} {o:Oper}
end
section
variable {c:Cx} {s:St} {k:List Item} {ops:Array Oper} {rest:List Nat} {o:Oper} {H:Heap} {O:List Heap}
def zza (ob:Obj) (m:MC):Prop:=∃ es ck,ob = .map es ck ∧ es.toList.map (fun e => (e.key,e.val)) = m.vals
end
section
variable {c:Cx} {ops:Array Oper} {O:List Heap} {n:Nat} {F:SH → List Pl → Prop}
end
section
variable {c:Cx} {ops:Array Oper} {O:List Heap} {n:Nat} {F:SH → List Pl → Prop} {o:Oper} {rest:List Oper} {x:SH} {acc:List Pl} {i:Nat}
end
end Go.AI
namespace Go.AI
open Go.Proofs
set_option maxRecDepth 20000
abbrev Tb:=Nat × Obj
structure tbOk (l:List Aut) (bs:List Tb):Prop where
 len:bs.length = l.length
 is:∀ (i:Nat) a b,l[i]? = some a → bs[i]? = some b → zza b.2 (.i .i64 (zyS a.edges))
structure byt (b:Int):Prop where
 h0:0 ≤ b
 h1:b ≤ 255
def zs5 (m:Ext):Sta × Int:=if chk m ≠ 0 then (zec,chk m) else (zcf m,0)
theorem zxP (O:List Heap) (m:Ext) (hok:extOk m):zan Tryz.prog 79 [extD m] O (.tup [staD (zs5 m).1,ii (zs5 m).2]) [] O:=by
 have hv:chk m = 0 → m.vars.length ≤ 16:=by
  intro h
  by_cases h2:m.vars.length ≤ 16
  ·exact h2
  ·exfalso
   have e:zbw m.vars = 3:=by
    unfold zbw
    rw [if_pos (by omega)]
   unfold chk at h
   rw [e] at h
   revert h
   repeat' split
   all_goals omega
 generalize hR:zs5 m = R
 unfold zs5 at hR
 refine zaa Tk Tryz.func79 rfl Tryz.call79 Tryz.ntmps79 (Nat.le_of_ble_eq_true rfl) fun E => ?_
 refine zah Tk Tryz.func79 ?_
 refine zag Tk Tryz.func79 (zjb _ m hok) rfl rfl rfl rfl rfl ?_
 refine zai Tk Tryz.func79 rfl (fun h1 => ?_) (fun h1 => ?_)
 ·have h1:=bneT h1
  rw [if_pos h1] at hR
  subst hR
  refine zax Tk (r:=_) rfl rfl rfl trivial rfl rfl ?_
  repeat' (first | refine zbi ?_ | refine za9 ?_ | refine zbO ?_ | refine CoDL.cons ?_ ?_ | exact CoDL.nil | exact zaX | refine zbH ?_ | refine CoLL.cons ?_ ?_ | exact CoLL.nil | refine CoL.cons ?_ ?_ | exact CoL.nil | exact CoI.refl _ | exact CoL.refl _ | exact CoLL.refl _ | exact CoDL.refl _ | exact CoD.refl _)
 have h1:=bneF h1
 rw [if_neg (by simpa using h1)] at hR
 subst hR
 refine zag Tk Tryz.func79 (zre _ m (hv (by simpa using h1))) rfl rfl rfl rfl rfl ?_
 refine zae Tk (r:=.tup [staD (zcf m),ii 0]) rfl rfl rfl trivial rfl rfl ?_
 rfl
def ckS (m:Ext) (s:Sta):Int:=
 if chk m ≠ 0 then chk m else if s.loc < 0 ∨ s.loc ≥ m.locs then 2 else if s.vals.length ≠ m.vars.length then 4 else if within m.vars s.vals = false then 2 else 0
theorem zfS (O:List Heap) (m:Ext) (s:Sta) (hok:extOk m):zan Tryz.prog 34 [extD m,staD s] O (ii (ckS m s)) [] O:=by
 generalize hR:ckS m s = R
 unfold ckS at hR
 obtain ⟨sl,sv⟩:=s
 simp only at hR
 have hw:=fun O => zt6 O m.vars sv hok.va
 generalize within m.vars sv = W at hw hR
 refine zaa Tk Tryz.func34 rfl Tryz.call34 Tryz.ntmps34 (Nat.le_of_ble_eq_true rfl) fun E => ?_
 refine zah Tk Tryz.func34 ?_
 refine zag Tk Tryz.func34 (zjb _ m hok) rfl rfl rfl rfl rfl ?_
 refine zai Tk Tryz.func34 rfl (fun h1 => ?_) (fun h1 => ?_)
 ·have h1:=bneT h1
  rw [if_pos h1] at hR
  refine zae Tk (r:=ii (chk m)) rfl rfl rfl trivial rfl rfl ?_
  exact congrArg ii hR
 have h1:=bneF h1
 rw [if_neg (by simpa using h1)] at hR
 refine zaA Tk Tryz.func34 rfl (fun h2 => ?_) (fun h2 => ?_)
 ·have h2:sl < 0:=by simpa using h2
  rw [if_pos (.inl h2)] at hR
  refine gcT Tk Tryz.func34 rfl ?_
  refine zae Tk (r:=ii 2) rfl rfl rfl trivial rfl rfl ?_
  exact congrArg ii hR
 have h2:¬ sl < 0:=by simpa using h2
 refine zai Tk Tryz.func34 rfl (fun h3 => ?_) (fun h3 => ?_)
 ·have h3:m.locs ≤ sl:=by simpa using h3
  rw [if_pos (.inr h3)] at hR
  refine zae Tk (r:=ii 2) rfl rfl rfl trivial rfl rfl ?_
  exact congrArg ii hR
 have h3:¬ m.locs ≤ sl:=by simpa using h3
 rw [if_neg (by rintro (h | h); exact h2 h; exact h3 h)] at hR
 refine zai Tk Tryz.func34 rfl (fun h4 => ?_) (fun h4 => ?_)
 ·have h4:=bneT h4
  rw [if_pos (by intro e; exact h4 (by rw [e]))] at hR
  refine zae Tk (r:=ii 4) rfl rfl rfl trivial rfl rfl ?_
  exact congrArg ii hR
 have h4:=bneF h4
 have h4:sv.length = m.vars.length:=by
  have:((sv.length:Nat):Int) = m.vars.length:=by simpa using h4
  omega
 rw [if_neg (by rw [h4]; simp)] at hR
 refine zag Tk Tryz.func34 (hw _) rfl rfl rfl rfl rfl ?_
 cases W with
 | false =>
  refine gcT Tk Tryz.func34 rfl ?_
  refine zae Tk (r:=ii 2) rfl rfl rfl trivial rfl rfl ?_
  exact congrArg ii hR
 | true =>
  refine gcF Tk Tryz.func34 rfl ?_
  refine zae Tk (r:=ii 0) rfl rfl rfl trivial rfl rfl ?_
  exact congrArg ii hR
end Go.AI
