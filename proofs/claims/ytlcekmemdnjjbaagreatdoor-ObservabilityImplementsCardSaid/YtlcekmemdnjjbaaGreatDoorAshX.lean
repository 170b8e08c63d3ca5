/- The layer of abstract runs, part 24. -/
import Derived.Test.YtlcekmemdnjjbaaGreatDoorAshW
import Derived.Lib.SlicesCompact
set_option linter.unusedSimpArgs false
set_option linter.unusedVariables false
set_option linter.all false

set_option maxHeartbeats 4000000
namespace Go.AI
open Go.Proofs
set_option maxRecDepth 20000
theorem zum (O:List Heap) (l:List Int) (x:Int) (e w:Nat) (ho:zaa O e w = some (zaw l)) (hl:l.length ≤ zas):zan Tryz.prog 129 [.osl e w,ii x] O (bb (decide (x ∈ l))) [] O:=by
 have hO:∀ H,zaa (H :: O) (e + 1) w = some (zaw l):=fun H => zaI ho
 have hR:decide (x ∈ l) = decide (x ∈ l.drop 0):=rfl
 generalize decide (x ∈ l) = R at *
 refine zad Tk Tryz.func129 rfl Tryz.call129 Tryz.ntmps129 (Nat.le_of_ble_eq_true rfl) fun E => ?_
 refine zae Tk Tryz.func129 ?_
 refine zac ?_
 refine zah (fun i:Nat => [(0,.osl (e + 1) w),(1,ii x),(5,ii i)]) (fun _ => []) (fun _ => O) 18
  (fun i => i ≤ l.length ∧ R = decide (x ∈ l.drop i)) (fun i => l.length - i) 0 ⟨Nat.zero_le _,hR⟩ ⟨rfl,rfl,rfl,trivial⟩ rfl trivial rfl rfl ?_
 rintro i ⟨hi,hno⟩ ih
 clear hR
 refine zae Tk Tryz.func129 ?_
 refine zbg Tk Tryz.func129 (hO _) ?_
 refine zai Tk Tryz.func129 rfl (fun g1 => ?_) (fun g1 => ?_)
 ·have h1:i < l.length:=by simpa using g1
  have gl:(l.map fun x => [vi x])[(i:Int).toNat]? = some [vi l[i]]:=zaj (f:=fun x => [vi x]) h1
  have dl:l.drop i = l[i] :: l.drop (i + 1):=List.drop_eq_getElem_cons h1
  simp only [dl,List.mem_cons] at hno
  clear dl
  generalize l[i] = y at *
  refine zbg Tk Tryz.func129 (hO _) ?_
  refine zag Tk Tryz.func129 (by exact ⟨by omega,by show (i:Int) < (l.length:Int); omega⟩) ?_
  refine zbg Tk Tryz.func129 (hO _) ?_
  refine zap Tk Tryz.func129 (gl) ?_
  refine zai Tk Tryz.func129 rfl (fun g2 => ?_) (fun g2 => ?_)
  ·have g2:y = x:=beqT g2
   subst g2
   refine zal Tk (r:=bb true) rfl rfl rfl trivial rfl rfl ?_
   rw [hno]
   simp
  ·have g2:y ≠ x:=beqF g2
   have hno:R = decide (x ∈ l.drop (i + 1)):=by
    rw [hno]
    exact decide_eq_decide.2 ⟨fun h => h.resolve_left (Ne.symm g2),.inr⟩
   refine zac ?_
   exact ih (i + 1) _ _ ⟨h1,hno⟩ (by omega) ⟨rfl,rfl,congrArg ii (zaB h1 hl),trivial⟩ rfl trivial rfl rfl
 ·have h1:l.length ≤ i:=by simpa using g1
  simp only [List.drop_eq_nil_of_le h1] at hno
  refine zal Tk (r:=bb false) rfl rfl rfl trivial rfl rfl ?_
  rw [hno]
  simp
def fvis (es:List Edg) (s:Int):List Int → List Int → List Int
 | [],out => out
 | ev :: r,out => fvis es s r (if 0 ≤ stp3 es s ev ∧ stp3 es s ev ∉ out then out ++ [stp3 es s ev] else out)
def fndL (es:List Edg) (alpha:List Int):Nat → Nat → List Int → List Int
 | 0,_,out => out
 | f + 1,i,out => match out[i]? with
  | none => out
  | some s => fndL es alpha f (i + 1) (fvis es s alpha out)
def zb9 (a:Aut):List Int:=fndL a.edges a.alpha 4097 0 [0]
structure fOk (n:Int) (out:List Int):Prop where
 nd:out.Nodup
 b:∀ x ∈ out,0 ≤ x ∧ x < n
theorem zgJ {n:Int} {out:List Int} (h:fOk n out):(out.length:Int) ≤ n ∨ out = []:=by
 cases out with
 | nil => exact .inr rfl
 | cons x r =>
  left
  have hx:=h.b x (by simp)
  have h1:=zc8 (n:=n.toNat) (l:=(x :: r).map Int.toNat) ?_ ?_
  ·rw [List.length_map] at h1; omega
  ·unfold List.Nodup
   rw [List.pairwise_map]
   refine h.nd.imp_of_mem fun {a b} ha hb hne e => hne ?_
   have:=h.b a ha
   have:=h.b b hb
   omega
  ·intro y hy
   obtain ⟨z,hz,rfl⟩:=List.mem_map.1 hy
   have:=h.b z hz
   omega
theorem zoH {n:Int}:∀ {es:List Edg} {s ev:Int},(∀ x ∈ es,0 ≤ x.2.2 ∧ x.2.2 < n) → stp3 es s ev = -1 ∨ (0 ≤ stp3 es s ev ∧ stp3 es s ev < n)
 | [],_,_,_ => .inl rfl
 | x :: r,s,ev,h => by
  unfold stp3
  split
  ·exact .inr (h x (by simp))
  ·exact zoH fun y hy => h y (by simp [hy])
theorem zit {n:Int} {out:List Int} {t:Int} (h:fOk n out) (h1:0 ≤ t ∧ t < n) (h2:t ∉ out):fOk n (out ++ [t]):=by
 refine ⟨?_,fun x hx => ?_⟩
 ·unfold List.Nodup
  rw [List.pairwise_append]
  refine ⟨h.nd,List.pairwise_singleton _ _,fun a ha b hb => ?_⟩
  rw [List.mem_singleton] at hb
  subst hb
  exact fun e => h2 (e ▸ ha)
 ·rcases List.mem_append.1 hx with hx | hx
  ·exact h.b x hx
  ·rw [List.mem_singleton] at hx
   subst hx
   exact h1
theorem zp1 {es:List Edg} {alpha out:List Int} {i:Nat} (h:out.length ≤ i):∀ f,fndL es alpha f i out = out
 | 0 => rfl
 | f + 1 => by simp only [fndL,List.getElem?_eq_none h]
theorem zsk (O:List Heap) (a:Aut) (ha:autOk a) (h1:1 ≤ a.states):zan Tryz.prog 128 [autD a] O (ints (zb9 a)) [] O:=by
 obtain ⟨c1,c2,c3,c4⟩:=zaK ha.chk
 obtain ⟨_,eb,_⟩:=zbh c4
 have hed:=ha.ed
 have hal:=ha.al
 have hst:=fun O s ev => zoK O a s ev (by simp only [zas]; omega)
 have hsb:=fun s ev => zoH (n:=a.states) (es:=a.edges) (s:=s) (ev:=ev) fun x hx => (eb x hx).2.1
 have hno:zb9 a = fndL a.edges a.alpha (4097 - 0) 0 [0]:=rfl
 generalize zb9 a = R at *
 obtain ⟨al,n,mk,es⟩:=a
 simp only at *
 clear c1 c3 c4 eb
 refine zad Tk Tryz.func128 rfl Tryz.call128 Tryz.ntmps128 (Nat.le_of_ble_eq_true rfl) fun E => ?_
 refine zae Tk Tryz.func128 ?_
 refine zai Tk Tryz.func128 rfl (fun g0 => ?_) (fun g0 => ?_)
 rotate_left
 ·have g0:¬ n > 0:=of_decide_eq_false g0
  omega
 refine zag Tk Tryz.func128 (by exact ⟨by decide,by decide⟩) ?_
 refine zac ?_
 refine zao (zcT 12 48 rfl rfl rfl) ?_
 refine zah (fun x:Nat × List Int => [(1,.own 0 1 0 0),(3,.osl 0 48),(4,ii x.1)]) (fun x => [(1,.box [ints al,ii n,ints mk,edgs es]),(48,zaw x.2)]) (fun _ => O) 50
  (fun x => x.1 ≤ x.2.length ∧ fOk n x.2 ∧ R = fndL es al (4097 - x.1) x.1 x.2) (fun x => 4097 - x.1) (0,[0])
  ⟨Nat.zero_le _,⟨by simp,fun x hx => by rw [List.mem_singleton] at hx; subst hx; omega⟩,hno⟩ ⟨rfl,rfl,rfl,trivial⟩ rfl ⟨rfl,rfl,trivial⟩ rfl rfl ?_
 clear hno g0
 rintro ⟨i,out⟩ ⟨hi,hf,hno⟩ ih
 simp only at hi hf hno
 have hol:out.length ≤ 4096:=by
  rcases zgJ hf with h | h
  ·omega
  ·rw [h]; decide
 refine zae Tk Tryz.func128 ?_
 refine zai Tk Tryz.func128 rfl (fun g1 => ?_) (fun g1 => ?_)
 ·have h1:i < out.length:=by simpa using g1
  clear g1
  have hs0:out[i]? = some out[i]:=List.getElem?_eq_getElem h1
  have hsr:=hf.b _ (List.getElem_mem h1)
  generalize out[i] = s at *
  have hno:R = fndL es al (4097 - (i + 1)) (i + 1) (fvis es s al out):=by
   rw [hno,show 4097 - i = (4097 - (i + 1)) + 1 by omega]
   simp only [fndL,hs0]
  have hV0:fvis es s al out = fvis es s (al.drop 0) out:=rfl
  generalize fvis es s al out = V at *
  refine zac ?_
  refine zah (fun x:Nat × List Int => [(1,.own 0 1 0 0),(3,.osl 0 48),(4,ii i),(5,ii x.1)]) (fun x => [(1,.box [ints al,ii n,ints mk,edgs es]),(48,zaw x.2)]) (fun _ => O) 50
   (fun x => x.1 ≤ al.length ∧ fOk n x.2 ∧ i < x.2.length ∧ x.2[i]? = some s ∧ V = fvis es s (al.drop x.1) x.2) (fun x => al.length - x.1) (0,out)
   ⟨Nat.zero_le _,hf,h1,hs0,hV0⟩ ⟨rfl,rfl,rfl,rfl,trivial⟩ rfl ⟨rfl,rfl,trivial⟩ rfl rfl ?_
  clear hV0 hf hs0 h1 hol hi
  rintro ⟨j,out⟩ ⟨hj,hf,hil,hs,hV⟩ ih2
  simp only at hj hf hil hs hV
  have hol:out.length ≤ 4096:=by
   rcases zgJ hf with h | h
   ·omega
   ·rw [h]; decide
  refine zae Tk Tryz.func128 ?_
  refine zai Tk Tryz.func128 rfl (fun g2 => ?_) (fun g2 => ?_)
  ·have h3:j < al.length:=by simpa using g2
   clear g2
   have ga:(al.map fun x => [vi x])[(j:Int).toNat]? = some [vi al[j]]:=zaj (f:=fun x => [vi x]) h3
   have da:al.drop j = al[j] :: al.drop (j + 1):=List.drop_eq_getElem_cons h3
   rw [da] at hV
   simp only [fvis] at hV
   clear da
   generalize al[j] = ev at *
   have gs:(out.map fun x => [vi x])[(i:Int).toNat]? = some [vi s]:=by
    rw [List.getElem?_map,show (i:Int).toNat = i by omega,hs]
    rfl
   have hst1:=fun O => hst O s ev
   have hsb1:=hsb s ev
   generalize stp3 es s ev = t at *
   have hj1:ii (IntKind.i64.wrap ((j:Int) + 1)) = ii ((j + 1:Nat):Int):=congrArg ii (zaB (n:=1000001) (by omega) (by decide))
   have hho:=fun O ho => zum O out t 0 48 ho (by simp only [zas]; omega)
   refine zaD Tk Tryz.func128 zaN rfl ?_
   refine zaz Tk (by exact ⟨by omega,by show (i:Int) < (out.length:Int); omega⟩) ?_
   refine zaJ Tk (gs) ?_
   refine zaz Tk (by exact ⟨by omega,by show (j:Int) < (al.length:Int); omega⟩) ?_
   refine zaJ Tk (ga) ?_
   refine za2 Tk (fun _ => hst1 _) rfl rfl rfl ?_
   refine zaS Tk Tryz.func128 (by kernel_rfl) ?_
   refine zaW Tk Tryz.func128 rfl (fun c1 => ?_) (fun c1 => ?_)
   ·have c1:t ≥ 0:=of_decide_eq_true c1
    refine zaf Tk Tryz.func128 (hho _ rfl) rfl rfl rfl rfl rfl ?_
    refine zai Tk Tryz.func128 rfl (fun c2 => ?_) (fun c2 => ?_)
    ·have c2:t ∉ out:=of_decide_eq_false (notT c2)
     rw [if_pos ⟨c1,c2⟩] at hV
     refine zag Tk Tryz.func128 (by exact ⟨by show (out.length + 1) * 8 ≤ 140737488355328; omega,by show out.length + 1 ≤ 9223372036854775807; omega⟩) ?_
     refine zac ?_
     refine ih2 (j + 1,out ++ [t]) _ _ ⟨h3,zit hf (by omega) c2,by simp only [List.length_append]; omega,(List.getElem?_append_left hil).trans hs,hV⟩ (by simp only; omega) ⟨rfl,rfl,rfl,hj1,trivial⟩ rfl ⟨rfl,congrArg some (zaL out t),trivial⟩ rfl rfl
    ·have c2:t ∈ out:=of_decide_eq_true (notF c2)
     rw [if_neg (fun h => h.2 c2)] at hV
     refine zac ?_
     exact ih2 (j + 1,out) _ _ ⟨h3,hf,hil,hs,hV⟩ (by simp only; omega) ⟨rfl,rfl,rfl,hj1,trivial⟩ rfl ⟨rfl,rfl,trivial⟩ rfl rfl
   ·have c1:¬ t ≥ 0:=of_decide_eq_false c1
    rw [if_neg (fun h => c1 h.1)] at hV
    refine gcF Tk Tryz.func128 rfl ?_
    refine zac ?_
    exact ih2 (j + 1,out) _ _ ⟨h3,hf,hil,hs,hV⟩ (by simp only; omega) ⟨rfl,rfl,rfl,hj1,trivial⟩ rfl ⟨rfl,rfl,trivial⟩ rfl rfl
  ·have h3:al.length ≤ j:=by simpa using g2
   rw [List.drop_eq_nil_of_le h3] at hV
   simp only [fvis] at hV
   subst hV
   refine zac ?_
   exact ih (i + 1,V) _ _ ⟨by simp only; omega,hf,hno⟩ (by simp only; omega) ⟨rfl,rfl,congrArg ii (zaB (n:=5000) (by omega) (by decide)),trivial⟩ rfl ⟨rfl,rfl,trivial⟩ rfl rfl
 ·have h1:out.length ≤ i:=by simpa using g1
  rw [zp1 h1] at hno
  subst hno
  refine zcJ (zam 48 rfl rfl) ?_
  refine zal Tk (r:=ints R) rfl rfl rfl trivial rfl rfl ?_
  rfl
end Go.AI


namespace Go.AI
def rvB (p:Int → Bool) (s:Int):List Edg → List Int → List Int
 | [],l => l
 | e :: r,l => rvB p s r (if e.1 = s ∧ p e.2.1 = true ∧ e.2.2 ∉ l then l ++ [e.2.2] else l)
def rlB (es:List Edg) (p:Int → Bool):Nat → Nat → List Int → List Int
 | 0,_,l => l
 | f + 1,i,l => match l[i]? with
  | none => l
  | some s => rlB es p f (i + 1) (rvB p s es l)
def zhj (es:List Edg) (p:Int → Bool) (n:Nat) (l:List Int):List Int:=rlB es p (l.length + n) 0 l
def clo (es:List Edg) (p:Int → Bool) (n:Nat) (l:List Int):List Int:=zaQ (zhj es p n l) n
theorem zlK {es:List Edg} {p:Int → Bool} {l:List Int} {i:Nat} (h:l.length ≤ i):∀ f,rlB es p f i l = l
 | 0 => rfl
 | f + 1 => by simp only [rlB,List.getElem?_eq_none h]
structure grOk (n:Nat) (fr l:List Int):Prop where
 ex:∃ ad,l = fr ++ ad ∧ fOk n ad
theorem zjm (n:Nat) (fr:List Int):grOk n fr fr:=⟨[],by simp,⟨by simp,by simp⟩⟩
theorem zs8 {n:Nat} {l:List Int} (h:fOk n l):l.length ≤ n:=by
 rcases zgJ h with h | h
 ·omega
 ·simp [h]
theorem zim {n:Nat} {fr l:List Int} (h:grOk n fr l):fr.length ≤ l.length ∧ l.length ≤ fr.length + n:=by
 obtain ⟨ad,rfl,h⟩:=h
 have:=zs8 h
 rw [List.length_append]
 omega
theorem zl9 {n:Nat} {fr l:List Int} {t:Int} (h:grOk n fr l) (h1:0 ≤ t ∧ t < (n:Int)) (h2:t ∉ l):grOk n fr (l ++ [t]):=by
 obtain ⟨ad,rfl,h⟩:=h
 exact ⟨ad ++ [t],by simp,zit h h1 fun hm => h2 (List.mem_append_right _ hm)⟩
theorem zo0 {p:Int → Bool} {s:Int}:∀ {es:List Edg} {l:List Int},l <+: rvB p s es l
 | [],l => List.prefix_refl _
 | e :: r,l => by
  unfold rvB
  refine List.IsPrefix.trans ?_ zo0
  split
  ·exact List.prefix_append _ _
  ·exact List.prefix_refl _
theorem zsM {p:Int → Bool} {s:Int} {n:Nat} {fr:List Int}:∀ {es:List Edg} {l:List Int},(∀ x ∈ es,0 ≤ x.2.2 ∧ x.2.2 < (n:Int)) → grOk n fr l → grOk n fr (rvB p s es l)
 | [],l,_,h => h
 | e :: r,l,he,h => by
  unfold rvB
  refine zsM (fun y hy => he y (by simp [hy])) ?_
  split
  ·rename_i h1; exact zl9 h (he e (by simp)) h1.2.2
  ·exact h
inductive Rc (es:List Edg) (p:Int → Bool) (l:List Int):Int → Prop
 | base {x:Int}:x ∈ l → Rc es p l x
 | step {e:Edg}:Rc es p l e.1 → e ∈ es → p e.2.1 = true → Rc es p l e.2.2
theorem Rc.mono {es:List Edg} {p q:Int → Bool} {l m:List Int} {x:Int} (hp:∀ e ∈ es,p e.2.1 = true → q e.2.1 = true) (hl:∀ x ∈ l,Rc es q m x) (h:Rc es p l x):Rc es q m x:=by
 induction h with
 | base h => exact hl _ h
 | step _ he hpe ih => exact .step ih he (hp _ he hpe)
theorem zjQ {p:Int → Bool} {s x:Int}:∀ {es:List Edg} {l:List Int},x ∈ rvB p s es l ↔ x ∈ l ∨ ∃ e ∈ es,e.1 = s ∧ p e.2.1 = true ∧ e.2.2 = x
 | [],l => by simp [rvB]
 | e :: r,l => by
  unfold rvB
  rw [zjQ]
  by_cases h:e.1 = s ∧ p e.2.1 = true ∧ e.2.2 ∉ l
  ·rw [if_pos h]
   constructor
   ·rintro (h1 | ⟨e',h1,h2⟩)
    ·rcases List.mem_append.1 h1 with h1 | h1
     ·exact .inl h1
     ·rw [List.mem_singleton] at h1
      exact .inr ⟨e,by simp,h.1,h.2.1,h1.symm⟩
    ·exact .inr ⟨e',by simp [h1],h2⟩
   ·rintro (h1 | ⟨e',h1,h2,h3,h4⟩)
    ·exact .inl (by simp [h1])
    ·rcases List.mem_cons.1 h1 with rfl | h1
     ·exact .inl (by simp [h4])
     ·exact .inr ⟨e',h1,h2,h3,h4⟩
  ·rw [if_neg h]
   constructor
   ·rintro (h1 | ⟨e',h1,h2⟩)
    ·exact .inl h1
    ·exact .inr ⟨e',by simp [h1],h2⟩
   ·rintro (h1 | ⟨e',h1,h2,h3,h4⟩)
    ·exact .inl h1
    ·rcases List.mem_cons.1 h1 with rfl | h1
     ·subst h4
      by_cases hm:e'.2.2 ∈ l
      ·exact .inl hm
      ·exact absurd ⟨h2,h3,hm⟩ h
     ·exact .inr ⟨e',h1,h2,h3,h4⟩
theorem zrA {es:List Edg} {p:Int → Bool} {n:Nat} {fr:List Int} (hes:∀ x ∈ es,0 ≤ x.2.2 ∧ x.2.2 < (n:Int)):∀ (f i:Nat) (l:List Int),grOk n fr l → f + i = fr.length + n → (∀ x ∈ l,Rc es p fr x) → (∀ (j:Nat) s,j < i → l[j]? = some s → ∀ e ∈ es,e.1 = s → p e.2.1 = true → e.2.2 ∈ l) →
  ∀ x,x ∈ rlB es p f i l ↔ Rc es p fr x:=by
 have fin:∀ (i:Nat) (l:List Int),grOk n fr l → l.length ≤ i → (∀ x ∈ l,Rc es p fr x) → (∀ (j:Nat) s,j < i → l[j]? = some s → ∀ e ∈ es,e.1 = s → p e.2.1 = true → e.2.2 ∈ l) → ∀ x,x ∈ l ↔ Rc es p fr x:=by
  intro i l hg hl h1 h2 x
  refine ⟨h1 x,fun h => ?_⟩
  induction h with
  | base h =>
   obtain ⟨ad,rfl,_⟩:=hg
   exact List.mem_append_left _ h
  | step _ he hp ih =>
   obtain ⟨j,hj,e⟩:=List.getElem_of_mem ih
   exact h2 j _ (by omega) (by rw [List.getElem?_eq_getElem hj,e]) _ he rfl hp
 intro f
 induction f with
 | zero =>
  intro i l hg hf h1 h2 x
  have:=zim hg
  exact fin i l hg (by omega) h1 h2 x
 | succ f ih =>
  intro i l hg hf h1 h2 x
  unfold rlB
  cases hi:l[i]? with
  | none => exact fin i l hg (by rwa [List.getElem?_eq_none_iff] at hi) h1 h2 x
  | some s =>
   simp only
   have hs:s ∈ l:=List.mem_of_getElem? hi
   refine ih (i + 1) _ (zsM hes hg) (by omega) (fun y hy => ?_) (fun j t hj ht e he h3 h4 => ?_) x
   ·rcases zjQ.1 hy with hy | ⟨e,he,h3,h4,rfl⟩
    ·exact h1 y hy
    ·exact .step (by rw [h3]; exact h1 s hs) he h4
   ·have hil:i < l.length:=(List.getElem?_eq_some_iff.1 hi).1
    have hpre:=zo0 (p:=p) (s:=s) (es:=es) (l:=l)
    have ht':l[j]? = some t:=by
     obtain ⟨m,hm⟩:=hpre
     rw [← hm,List.getElem?_append_left (by omega)] at ht
     exact ht
    rw [zjQ]
    by_cases hji:j = i
    ·subst hji
     rw [hi] at ht'
     simp only [Option.some.injEq] at ht'
     exact .inr ⟨e,he,by rw [h3,ht'],h4,rfl⟩
    ·exact .inl (h2 j t (by omega) ht' e he h3 h4)
theorem zc1 {es:List Edg} {p:Int → Bool} {n:Nat} {l:List Int} (hes:∀ x ∈ es,0 ≤ x.2.2 ∧ x.2.2 < (n:Int)) {x:Int}:x ∈ zhj es p n l ↔ Rc es p l x:=
 zrA hes _ _ _ (zjm n l) (by omega) (fun x h => .base h) (fun j s hj => absurd hj (Nat.not_lt_zero _)) x
theorem zbP {l:List Int} {n:Nat} {x:Int}:x ∈ zaQ l n ↔ (0 ≤ x ∧ x < (n:Int)) ∧ x ∈ l:=by
 unfold zaQ
 rw [List.mem_filter,List.mem_map,decide_eq_true_eq]
 constructor
 ·rintro ⟨⟨i,hi,rfl⟩,h⟩
  rw [List.mem_range] at hi
  exact ⟨by omega,h⟩
 ·rintro ⟨h1,h⟩
  exact ⟨⟨x.toNat,List.mem_range.2 (by omega),by omega⟩,h⟩
theorem zgX (l:List Int) (n:Nat):(zaQ l n).Pairwise (· < ·):=by
 unfold zaQ
 refine List.Pairwise.filter _ ?_
 rw [List.pairwise_map]
 exact List.pairwise_lt_range.imp fun {a b} h => by omega
theorem zcV {l m:List Int} {n:Nat} (h:∀ x,0 ≤ x → x < (n:Int) → (x ∈ l ↔ x ∈ m)):zaQ l n = zaQ m n:=by
 unfold zaQ
 refine List.filter_congr fun x hx => ?_
 obtain ⟨i,hi,rfl⟩:=List.mem_map.1 hx
 rw [List.mem_range] at hi
 exact decide_eq_decide.2 (h _ (by omega) (by omega))
theorem zwf {es:List Edg} {p:Int → Bool} {n:Nat} {l:List Int} (hes:∀ x ∈ es,0 ≤ x.2.2 ∧ x.2.2 < (n:Int)) (hl:∀ x ∈ l,0 ≤ x ∧ x < (n:Int)) {x:Int} (h:Rc es p l x):0 ≤ x ∧ x < (n:Int):=by
 cases h with
 | base h => exact hl x h
 | step _ he _ => exact hes _ he
theorem zid {es:List Edg} {p:Int → Bool} {n:Nat} {l:List Int} (hes:∀ x ∈ es,0 ≤ x.2.2 ∧ x.2.2 < (n:Int)) {x:Int}:x ∈ clo es p n l ↔ (0 ≤ x ∧ x < (n:Int)) ∧ Rc es p l x:=by
 unfold clo
 rw [zbP,zc1 hes]
theorem zeR {es:List Edg} {p q:Int → Bool} {n:Nat} {l m:List Int} (hes:∀ x ∈ es,0 ≤ x.2.2 ∧ x.2.2 < (n:Int)) (hp:∀ e ∈ es,p e.2.1 = q e.2.1) (hl:∀ x,x ∈ l ↔ x ∈ m):clo es p n l = clo es q n m:=by
 unfold clo
 refine zcV fun x _ _ => ?_
 rw [zc1 hes,zc1 hes]
 exact ⟨Rc.mono (fun e he h => by rw [← hp e he]; exact h) fun x hx => .base ((hl x).1 hx),Rc.mono (fun e he h => by rw [hp e he]; exact h) fun x hx => .base ((hl x).2 hx)⟩
theorem zs1:∀ {l m:List Int},l.Pairwise (· < ·) → m.Pairwise (· < ·) → (∀ x,x ∈ l ↔ x ∈ m) → l = m
 | [],[],_,_,_ => rfl
 | [],y :: m,_,_,h => absurd ((h y).2 (by simp)) (by simp)
 | x :: l,[],_,_,h => absurd ((h x).1 (by simp)) (by simp)
 | x :: l,y :: m,hl,hm,h => by
  rw [List.pairwise_cons] at hl hm
  have hxy:x = y:=by
   have h1:=(h x).1 (by simp)
   have h2:=(h y).2 (by simp)
   rcases List.mem_cons.1 h1 with h1 | h1
   ·exact h1
   ·rcases List.mem_cons.1 h2 with h2 | h2
    ·exact h2.symm
    ·have:=hl.1 y h2
     have:=hm.1 x h1
     omega
  subst hxy
  rw [zs1 hl.2 hm.2 fun z => ?_]
  have hz:=h z
  rw [List.mem_cons,List.mem_cons] at hz
  constructor
  ·intro hzl
   rcases hz.1 (.inr hzl) with rfl | h'
   ·exact absurd (hl.1 z hzl) (by omega)
   ·exact h'
  ·intro hzl
   rcases hz.2 (.inr hzl) with rfl | h'
   ·exact absurd (hm.1 z hzl) (by omega)
   ·exact h'
def zbs (l:List Int):List Int:=l.mergeSort fun x y => decide (x ≤ y)
theorem zfQ (l:List Int):(zbs l).length = l.length:=by unfold zbs; exact List.length_mergeSort l
theorem zoM {l:List Int} {x:Int}:x ∈ zbs l ↔ x ∈ l:=List.mem_mergeSort
theorem zrp (l:List Int):(zbs l).Pairwise (· ≤ ·):=by
 unfold zbs
 have:=List.pairwise_mergeSort (le:=fun x y:Int => decide (x ≤ y)) (fun a b c h1 h2 => by simp only [decide_eq_true_eq] at *; omega) (fun a b => by simp only [Bool.or_eq_true,decide_eq_true_eq]; omega) l
 exact this.imp fun {a b} h => of_decide_eq_true h
theorem zjO {l:List Int} (h:l.Nodup):(zbs l).Nodup:=(List.mergeSort_perm l _).nodup_iff.2 h
theorem zj7 {l:List Int} (h1:l.Pairwise (· ≤ ·)) (h2:l.Nodup):l.Pairwise (· < ·):=by
 unfold List.Nodup at h2
 exact (h1.and h2).imp fun {a b} h => by omega
theorem zed {l:List Int} {n:Nat} (h:l.Nodup) (hl:∀ x ∈ l,0 ≤ x ∧ x < (n:Int)):zbs l = zaQ l n:=by
 refine zs1 (zj7 (zrp l) (zjO h)) (zgX l n) fun x => ?_
 rw [zoM,zbP]
 exact ⟨fun h => ⟨hl x h,h⟩,fun h => h.2⟩
theorem zo8 {es:List Edg} {p:Int → Bool} {n:Nat} {l:List Int} (hes:∀ x ∈ es,0 ≤ x.2.2 ∧ x.2.2 < (n:Int)) (hl:∀ x ∈ l,0 ≤ x ∧ x < (n:Int)):∀ x ∈ zhj es p n l,0 ≤ x ∧ x < (n:Int):=fun x hx => zwf hes hl ((zc1 hes).1 hx)
end Go.AI


namespace Go.AI
open Go.Proofs
set_option maxRecDepth 20000
end Go.AI


namespace Go.AI
open Go.Proofs
set_option maxRecDepth 20000
structure Moved (E0 E:Env) (nm:Nat):Prop where
 K0:E.K0 = E0.K0
 w0:E.w0 = E0.w0
 ρ:∀ d n,(d ≠ 0 ∨ n ≠ nm) → E.ρ0 d n = E0.ρ0 d n
 sub:∀ b,E.pr b → E0.pr b
 pr:∀ b,E0.pr b → ((E0.ρ0 0 nm).base ≠ none → b ≠ (E0.ρ0 0 nm).block) → E.pr b
 blk:(E.ρ0 0 nm).base ≠ none → E0.w0.heap.size ≤ (E.ρ0 0 nm).block ∨ ((E0.ρ0 0 nm).base ≠ none ∧ (E.ρ0 0 nm).block = (E0.ρ0 0 nm).block)
theorem Moved.refl (E:Env) (nm:Nat):Moved E E nm:=⟨rfl,rfl,fun _ _ _ => rfl,fun _ h => h,fun _ h _ => h,fun h => .inr ⟨h,rfl⟩⟩
def ziH (E:Env) (nm:Nat) (res:D) (Hr:Heap) (O':List Heap):Value → World → Prop:=fun v w' => ∃ E',Moved E E' nm ∧ zck E' res Hr O' v w'
def zm7 (P:Program) (f:FuncId) (args:List D) (O:List Heap) (nm:Nat) (res:D) (Hr:Heap) (O':List Heap):Prop:=
 ∀ E K ρ w vs,HInv E K ρ O w → RepDL K ρ (shape O) vs args → Exec P f vs.toArray w (ziH (.of K ρ w) nm res Hr O')
section
variable {P:Program} {T:TT} {f:FuncId} {fn:Func} {code:Code}
theorem zgU (nm:Nat) (stop:List Nat) (hT:TOk P T) (hf:P.funcs[f]? = some fn) (hb:fn.body = some code) (hcall:∀ args w,(callFunc f args).run P w = .ok (.enter f args) w) {args:List D} {O O':List Heap} {res:D} {Hr:Heap} {n:Nat}
  (hn:fn.ntmps = n) (hlen:args.length ≤ n)
  (h:∀ E,Rch { P:=P,T:=T,E:=E,f:=f,fn:=fn,post:=ziH E nm res Hr O',stop:=stop } [.code code] { σ:=argσ 0 (D.shifts 1 args),S:=[] :: O,n:=n }):zm7 P f args O nm res Hr O':=by
 intro E K ρ w vs hw hrep
 refine .inl ⟨hcall _ _,fun cs => ?_⟩
 let ρ1:Nat → Nat → Loc:=fun d n => match d with
  | 0 => ⟨0,0,none⟩
  | d + 1 => ρ d n
 have hI:HInv (.of K ρ w) K ρ1 ([] :: O) w:=by
  refine ⟨hw.holds,?_,?_,Nat.le_refl _,fun _ _ _ => rfl,?_,fun d => rfl,K.le_refl,fun _ _ _ h => .inl h,⟨rfl,rfl,rfl⟩⟩
  ·intro d nm ob e
   cases d with
   | zero => simp [zaa,look] at e
   | succ d =>
    have e':zaa O d nm = some ob:=by simpa [zaa] using e
    have:=hw.own _ _ _ e'
    have e1:(fun d' n => ρ1 (d + 1 + d') n) = fun d' n => ρ (d + d') n:=by
     funext d' n
     rw [show d + 1 + d' = (d + d') + 1 by omega]
    rw [e1]
    simpa using this
  ·intro d nm ob d' nm' ob' e e' b b' hbe
   cases d with
   | zero => simp [zaa,look] at e
   | succ d =>
    cases d' with
    | zero => simp [zaa,look] at e'
    | succ d' =>
     have:=hw.inj d nm ob d' nm' ob' (by simpa [zaa] using e) (by simpa [zaa] using e') b b' hbe
     exact ⟨by omega,this.2⟩
  ·intro nm ob e _
   simp [zaa,look] at e
 have hvl:=hrep.length
 let b:Frame:={ (default:Frame) with fn:=f,kind:=.normal }
 have henter:Frame.enter P f vs.toArray .normal = b.at { tmps:=vs.toArray ++ Array.replicate (fn.ntmps - vs.toArray.size) undef,defers:=[] } [.code code]:=by
  simp [Frame.enter,Frame.at,hf,hb,b]
 have hinv:Inv (.of K ρ w) K ρ1 { σ:=argσ 0 (D.shifts 1 args),S:=[] :: O,n:=n } { tmps:=vs.toArray ++ Array.replicate (fn.ntmps - vs.toArray.size) undef,defers:=[] } w:=by
  refine ⟨hI,rfl,by simp; omega,fun t d e => ?_⟩
  rw [zdy] at e
  simp only [Nat.zero_le,if_true,Nat.sub_zero] at e
  have hsh:RepDL K ρ1 (shape ([] :: O)) vs (D.shifts 1 args):=by
   refine RepDL.shift (ρ:=ρ1) (sh:=shape ([] :: O)) 1 ?_
   have e1:(fun d n => ρ1 (1 + d) n) = ρ:=by funext d n; rw [Nat.add_comm]
   have e2:(fun d n => shape ([] :: O) (1 + d) n) = shape O:=by
    funext d n
    rw [Nat.add_comm]
    simp [shape,zaa]
   rw [e1,e2]
   exact hrep
  obtain ⟨y,hy,hr⟩:=hsh.get e
  have:(vs.toArray ++ Array.replicate (fn.ntmps - vs.toArray.size) undef).getD t undef = y:=by
   have hlt:t < vs.length:=(List.getElem?_eq_some_iff.1 hy).1
   simp only [Array.getD_eq_getD_getElem?]
   rw [Array.getElem?_append_left (by simpa using hlt)]
   simp [hy]
  rw [this]
  exact hr
 obtain ⟨v,w',fr,hp,hst,hfr,hlv⟩:=h (.of K ρ w) K ρ1 _ w b cs hinv rfl rfl
 rw [← henter] at hst
 exact ⟨.returned v,w',fr,⟨v,rfl,hp⟩,hst,hfr,hlv⟩
end
section
variable {c:Cx} {s:St} {k:List Item} {ops:Array Oper} {rest:List Nat} {o:Oper} {E0:Env} {H:Heap} {O:List Heap}
theorem zpS (hT:TOk c.P c.T) {nm:Nat} {res d r:D} {Hr H:Heap} {O O':List Heap} (hb:Moved E0 c.E nm) (hp:c.post = ziH E0 nm res Hr O') (hd:resD c.T s c.fn.results.toList = some d) (hS:s.S = H :: O) (ht:zex H Hr Hr) (hr:d.ret H Hr = r) (hO:O = O')
  (he:r = res):GM c (.ret s):=by
 subst he
 refine ⟨?_⟩
 have h:=zt2 (c:={ c with post:=zck c.E r Hr O' }) hT hd hS ht hr hO rfl
 intro K ρ a w hi
 obtain ⟨v,hv,K',ρ',h1,h2⟩:=h K ρ a w hi
 refine ⟨v,hv,?_⟩
 rw [hp]
 exact ⟨c.E,hb,K',ρ',h1,h2⟩
end
def D.cut1 (m:Nat):D → D
 | .i x => .i x
 | .own d nm j off => bif Nat.beq d 1 && Nat.beq nm m then .dead else .own d nm j off
 | .osl d nm => bif Nat.beq d 1 && Nat.beq nm m then .dead else .osl d nm
 | .bt => .bt
 | .bf => .bf
 | _ => .dead
def zix (m:Nat):List (Nat × D) → List (Nat × D)
 | [] => []
 | (t,d) :: r => (t,d.cut1 m) :: zix m r
theorem ze7 (m:Nat):∀ (σ:List (Nat × D)) (t:Nat),look (zix m σ) t = (look σ t).map (D.cut1 m)
 | [],t => by simp [zix,look]
 | (k,d) :: r,t => by
  simp only [zix,zab,ze7 m r t]
  split <;> simp
def Ob.cut1 (m:Nat):Ob → Ob
 | .box cs => .box (cs.map (D.cut1 m))
 | .tb T cs => .tb T (cs.map (D.cut1 m))
 | o => o
def zd3 (m:Nat):Heap → Heap
 | [] => []
 | (n,o) :: r => (n,o.cut1 m) :: zd3 m r
theorem ze8 (m:Nat):∀ (H:Heap) (n:Nat),look (zd3 m H) n = (look H n).map (Ob.cut1 m)
 | [],n => by simp [zd3,look]
 | (k,o) :: r,n => by
  simp only [zd3,zab,ze8 m r n]
  split <;> simp
theorem Ob.cut1_sh (m:Nat) (o:Ob):(o.cut1 m).sh = o.sh:=by cases o <;> rfl
theorem zde (m:Nat) (l:Loc) (o:Ob):zaq l (o.cut1 m) ↔ zaq l o:=by cases o <;> rfl
section
variable {P:Program} {T:TT} {E:Env} {K:Kn} {ρ ρ':Nat → Nat → Loc} {S:List Heap} {w:World} {sh sh':Nat → Nat → Option Sh} {m:Nat}
def But1 (m:Nat) (ρ ρ':Nat → Nat → Loc) (sh sh':Nat → Nat → Option Sh):Prop:=∀ dep n x,(dep ≠ 1 ∨ n ≠ m) → sh dep n = some x → sh' dep n = some x ∧ ρ' dep n = ρ dep n
theorem zeE {d nm m:Nat} (h:(Nat.beq d 1 && Nat.beq nm m) = false):d ≠ 1 ∨ nm ≠ m:=by
 by_cases h1:d = 1
 ·right
  intro h2
  subst h1; subst h2
  rw [beq_of_eq rfl,beq_of_eq rfl] at h
  cases h
 ·exact .inl h1
theorem RepD.cut1 (h:But1 m ρ ρ' sh sh') {v:Value} {d:D} (r:RepD K ρ sh v d):RepD K ρ' sh' v (d.cut1 m):=by
 cases r with
 | dead => exact .dead _
 | i r => exact .i r
 | @box dep nm off e =>
  simp only [D.cut1]
  cases hb:Nat.beq dep 1 && Nat.beq nm m with
  | true => exact .dead _
  | false =>
   obtain ⟨h1,h2⟩:=h _ _ _ (zeE hb) e
   rw [← h2]; exact .box h1
 | @arr dep nm es len j off e l =>
  simp only [D.cut1]
  cases hb:Nat.beq dep 1 && Nat.beq nm m with
  | true => exact .dead _
  | false =>
   obtain ⟨h1,h2⟩:=h _ _ _ (zeE hb) e
   rw [← h2]; exact .arr h1 l
 | @osl dep nm es len e =>
  simp only [D.cut1]
  cases hb:Nat.beq dep 1 && Nat.beq nm m with
  | true => exact .dead _
  | false =>
   obtain ⟨h1,h2⟩:=h _ _ _ (zeE hb) e
   rw [← h2]; exact .osl h1
 | @omp dep nm e =>
  simp only [D.cut1]
  cases hb:Nat.beq dep 1 && Nat.beq nm m with
  | true => exact .dead _
  | false =>
   obtain ⟨h1,h2⟩:=h _ _ _ (zeE hb) e
   rw [← h2]; exact .omp h1
 | bt => exact .bt
 | bf => exact .bf
 | _ => exact .dead _
theorem RepDL.cut1 (h:But1 m ρ ρ' sh sh'):∀ {vs:List Value} {ds:List D},RepDL K ρ sh vs ds → RepDL K ρ' sh' vs (ds.map (D.cut1 m))
 | _,_,.nil => .nil
 | _,_,.cons r rs => .cons (RepD.cut1 h r) (RepDL.cut1 h rs)
theorem OwnAt.cut1 {w':World} {l:Loc} {ob:Ob} (h:OwnAt K ρ sh w l ob) (hb:But1 m ρ ρ' sh sh') (hw:zaq l ob → w'.heap[l.block]? = w.heap[l.block]?):OwnAt K ρ' sh' w' l (ob.cut1 m):=by
 cases ob with
 | mp kk m =>
  obtain ⟨⟨es,ck,h1,h2⟩,h3⟩:=h
  exact ⟨⟨es,ck,by rw [hw trivial]; exact h1,h2⟩,h3⟩
 | box cs =>
  obtain ⟨c,T,h1,h2,h3⟩:=h
  exact ⟨c,T,by rw [hw trivial]; exact h1,h2.cut1 hb,h3⟩
 | tb T cs =>
  obtain ⟨c,h1,h2,h3⟩:=h
  exact ⟨c,by rw [hw trivial]; exact h1,h2.cut1 hb,h3⟩
 | arr ty es n xs wr =>
  obtain ⟨h1,h2,h2',h2'',h3⟩:=h
  refine ⟨h1,h2,h2',h2'',?_⟩
  rcases h3 with h3 | ⟨h4,c,h5,h6⟩
  ·exact .inl h3
  ·exact .inr ⟨h4,c,by rw [hw (by show _ ≠ none; rw [h4]; simp)]; exact h5,h6⟩
def upd1 (ρ:Nat → Nat → Loc) (nm:Nat) (l':Loc):Nat → Nat → Loc:=fun d n => if d = 1 ∧ n = nm then l' else ρ d n
theorem zcU (ρ:Nat → Nat → Loc) (nm:Nat) (l':Loc):upd1 ρ nm l' 1 nm = l':=by simp [upd1]
theorem zbx (ρ:Nat → Nat → Loc) (nm:Nat) (l':Loc) {d n:Nat} (h:d ≠ 1 ∨ n ≠ nm):upd1 ρ nm l' d n = ρ d n:=by
 unfold upd1
 rw [if_neg]
 rintro ⟨rfl,rfl⟩
 rcases h with h | h <;> exact h rfl
theorem HInv.renew1 {w':World} {H0 H1:Heap} {O:List Heap} {nm:Nat} {ob ob':Ob} {l':Loc} (h:HInv E K ρ (H0 :: H1 :: O) w) (ho:look H1 nm = some ob) (hap:Apnd K w w' (ρ 1 nm) l') (hbo:zaq (ρ 1 nm) ob ↔ (ρ 1 nm).base ≠ none) (hbo':zaq l' ob' ↔ l'.base ≠ none)
  (hKo:zaq (ρ 1 nm) ob → ∀ o,K (ρ 1 nm).block o = none) (hown:∀ (ρ':Nat → Nat → Loc) (sh':Nat → Nat → Option Sh),OwnAt K ρ' sh' w' l' ob') :
  ∃ E',Moved E E' nm ∧ HInv E' K (upd1 ρ nm l') (zd3 nm H0 :: ((nm,ob') :: zaT nm H1) :: O) w' ∧ But1 nm ρ (upd1 ρ nm l') (shape (H0 :: H1 :: O)) (shape (zd3 nm H0 :: ((nm,ob') :: zaT nm H1) :: O)):=by
 have hρ:∀ d n,ρ (d + 1) n = E.ρ0 d n:=fun d n => by rw [h.outer]
 let ρd:Nat → Nat → Loc:=fun d n => ρ (d + 1) n
 let Ed:Env:={ K0:=K,ρ0:=fun d n => ρ (d + 2) n,w0:=w,pr:=fun b => b < w.heap.size ∧ ∀ n x,zaa (H1 :: O) 0 n = some x → zaq (ρ 1 n) x → (ρ 1 n).block ≠ b,lt:=fun _ hb => hb.1 }
 have hup:∀ d n x,zaa (H1 :: O) d n = some x → zaa (H0 :: H1 :: O) (d + 1) n = some x:=fun d n x e => by simpa [zaa] using e
 have hd:HInv Ed K ρd (H1 :: O) w:=by
  refine ⟨h.holds,fun d n x e => ?_,fun d n x d' n' x' e e' b b' hbe => ?_,Nat.le_refl _,fun _ _ _ => rfl,fun n x e b hp => hp.2 n x e b rfl,fun d => rfl,Kn.le_refl _,fun _ _ _ e => .inl e,⟨rfl,rfl,rfl⟩⟩
  ·have h1:=h.own _ _ _ (hup d n x e)
   have e1:(fun d' n => ρ (d + 1 + d') n) = fun d' n => ρd (d + d') n:=by funext d' n; show _ = ρ (d + d' + 1) n; rw [show d + 1 + d' = d + d' + 1 by omega]
   rw [e1] at h1
   simpa using h1
  ·have h1:=h.inj _ _ _ _ _ _ (hup d n x e) (hup d' n' x' e') b b' hbe
   exact ⟨by omega,h1.2⟩
 obtain ⟨hI,hbut⟩:=hd.renew (dst:=nm) ho (by rw [za0]; simp) hap hbo hbo' hKo hown
 have hob0:zaa (H1 :: O) 0 nm = some ob:=by simpa [zaa] using ho
 have hob1:zaa (H0 :: H1 :: O) 1 nm = some ob:=by simpa [zaa] using ho
 have hcase:∀ d n x,zaa (((nm,ob') :: zaT nm H1) :: O) d n = some x → (d = 0 ∧ n = nm ∧ x = ob') ∨ ((d ≠ 0 ∨ n ≠ nm) ∧ ∃ x0,zaa (H1 :: O) d n = some x0 ∧ x.sh = x0.sh):=by
  intro d n x e
  cases d with
  | zero =>
   simp only [zaa,List.getElem?_cons_zero,zab,za0] at e
   by_cases hn:nm = n
   ·rw [if_pos hn] at e
    exact .inl ⟨rfl,hn.symm,by simpa using e.symm⟩
   ·rw [if_neg hn,if_neg (Ne.symm hn)] at e
    cases hl:look H1 n with
    | none => simp [hl] at e
    | some x0 =>
     simp only [hl,Option.map_some,Option.some.injEq] at e
     subst e
     exact .inr ⟨.inr (Ne.symm hn),x0,by simpa [zaa] using hl,Ob.kill_sh _ _⟩
  | succ d => exact .inr ⟨.inl (by omega),x,by simpa [zaa] using e,rfl⟩
 have hcase':∀ d n x0,zaa (H1 :: O) d n = some x0 → (d = 0 ∧ n = nm) ∨ ((d ≠ 0 ∨ n ≠ nm) ∧ ∃ x,zaa (((nm,ob') :: zaT nm H1) :: O) d n = some x ∧ x.sh = x0.sh):=by
  intro d n x0 e
  cases d with
  | zero =>
   by_cases hn:nm = n
   ·exact .inl ⟨rfl,hn.symm⟩
   ·refine .inr ⟨.inr (Ne.symm hn),x0.kill nm,?_,Ob.kill_sh _ _⟩
    simp only [zaa,List.getElem?_cons_zero] at e
    simp only [zaa,List.getElem?_cons_zero,zab,za0,if_neg hn,if_neg (Ne.symm hn)]
    rw [show look H1 n = some x0 by simpa using e]
    rfl
  | succ d => exact .inr ⟨.inl (by omega),x0,by simpa [zaa] using e,rfl⟩
 have h0:∀ n x,zaa (zd3 nm H0 :: ((nm,ob') :: zaT nm H1) :: O) 0 n = some x → ∃ x0,zaa (H0 :: H1 :: O) 0 n = some x0 ∧ x = x0.cut1 nm:=by
  intro n x e
  simp only [zaa,List.getElem?_cons_zero,ze8] at e
  cases hl:look H0 n with
  | none => simp [hl] at e
  | some x0 =>
   simp only [hl,Option.map_some,Option.some.injEq] at e
   exact ⟨x0,by simpa [zaa] using hl,e.symm⟩
 have hs:∀ d n,zaa (zd3 nm H0 :: ((nm,ob') :: zaT nm H1) :: O) (d + 1) n = zaa (((nm,ob') :: zaT nm H1) :: O) d n:=fun d n => by simp [zaa]
 have hbut1:But1 nm ρ (upd1 ρ nm l') (shape (H0 :: H1 :: O)) (shape (zd3 nm H0 :: ((nm,ob') :: zaT nm H1) :: O)):=by
  intro d n x hdn e
  refine ⟨?_,zbx _ _ _ hdn⟩
  cases d with
  | zero =>
   simp only [shape,zaa,List.getElem?_cons_zero,ze8] at e ⊢
   cases hl:look H0 n with
   | none => simp [hl] at e
   | some x0 => simpa [hl,Ob.cut1_sh] using e
  | succ d =>
   have e':shape (H1 :: O) d n = some x:=by simpa [shape,zaa] using e
   have:=(hbut d n x (by rcases hdn with h | h; exact .inl (by omega); exact .inr h) e').1
   simpa [shape,hs] using this
 have hlt0:∀ b,E.pr b → b < w.heap.size:=fun b hb => Nat.lt_of_lt_of_le (E.lt b hb) h.size
 let E':Env:={ K0:=E.K0,ρ0:=fun d n => upd1 ρ nm l' (d + 1) n,w0:=E.w0,pr:=fun b => E.pr b ∧ ((ρ 1 nm).base ≠ none → b ≠ (ρ 1 nm).block),lt:=fun b hb => E.lt b hb.1 }
 have hold0:∀ n x0,zaa (H0 :: H1 :: O) 0 n = some x0 → zaq (ρ 0 n) x0 → w'.heap[(ρ 0 n).block]? = w.heap[(ρ 0 n).block]?:=by
  intro n x0 e hb
  refine hap.old _ ((h.own _ _ _ e).lt (by simpa using hb)) fun hbn hbe => ?_
  have:=(h.inj _ _ _ _ _ _ e hob1 hb (hbo.2 hbn) hbe).1
  omega
 refine ⟨E',⟨rfl,rfl,fun d n hd => ?_,fun b hb => hb.1,fun b hb hne => ⟨hb,fun h1 => ?_⟩,fun hb => ?_⟩,⟨hI.holds,fun d n x e => ?_,fun d n x d' n' x' e e' b b' hbe => ?_,?_,fun b hb hno => ?_,fun n x e b hp => ?_,fun d => rfl,h.Kle,fun b o x e => ?_,?_⟩,hbut1⟩
 ·show upd1 ρ nm l' (d + 1) n = _
  rw [zbx _ _ _ (by rcases hd with h | h; exact .inl (by omega); exact .inr h),hρ]
 ·have:=hne (by rw [← hρ]; exact h1)
  rwa [← hρ] at this
 ·have hb:(upd1 ρ nm l' 1 nm).base ≠ none:=hb
  show E.w0.heap.size ≤ (upd1 ρ nm l' 1 nm).block ∨ _ ∧ (upd1 ρ nm l' 1 nm).block = _
  rw [zcU] at hb ⊢
  have:=h.size
  rcases hap.blk hb with h1 | ⟨h1,h2⟩
  ·exact .inl (by omega)
  ·right; rw [← hρ]; exact ⟨h1,h2⟩
 ·cases d with
  | zero =>
   obtain ⟨x0,e0,rfl⟩:=h0 n x e
   have h1:=h.own _ _ _ e0
   rw [zbx _ _ _ (.inl (by omega))]
   refine h1.cut1 ?_ (fun hb => hold0 n x0 e0 hb)
   intro d' n' y hd hy
   simp only [List.drop_zero,Nat.zero_add] at hy ⊢
   exact hbut1 d' n' y hd hy
  | succ d =>
   rw [hs] at e
   have h1:=hI.own d n x e
   have e1:(fun d' n => upd1 ρ nm l' (d + 1 + d') n) = fun d' n => upd ρd nm l' (d + d') n:=by
    funext d' n
    by_cases hc:d + d' = 0 ∧ n = nm
    ·obtain ⟨hc1,rfl⟩:=hc
     rw [show d + 1 + d' = 1 by omega,hc1,zcU,zaH]
    ·rw [zaG _ _ _ (by by_cases hz:d + d' = 0; exact .inr fun hn => hc ⟨hz,hn⟩; exact .inl hz),zbx _ _ _ (by by_cases hz:d + d' = 0; exact .inr fun hn => hc ⟨hz,hn⟩; exact .inl (by omega))]
     show ρ (d + 1 + d') n = ρ (d + d' + 1) n
     rw [show d + 1 + d' = d + d' + 1 by omega]
   have e2:=congrFun (congrFun e1 0) n
   simp only [Nat.add_zero] at e2
   rw [e1,e2]
   simpa using h1
 ·have key:∀ n x d' n' x',zaa (H0 :: H1 :: O) 0 n = some x → zaa (((nm,ob') :: zaT nm H1) :: O) d' n' = some x' → zaq (ρ 0 n) x → zaq (upd1 ρ nm l' (d' + 1) n') x' → (ρ 0 n).block = (upd1 ρ nm l' (d' + 1) n').block → False:=by
   intro n1 x1 d1 n2 x2 f1 f2 c1 c2 hbe1
   rcases hcase _ _ _ f2 with ⟨rfl,rfl,rfl⟩ | ⟨hne,x0,e0,hsx⟩
   ·rw [zcU] at c2 hbe1
    have hlt:=(h.own _ _ _ f1).lt (by simpa using c1)
    rcases hap.blk (hbo'.1 c2) with h1 | ⟨h1,h2⟩
    ·have:(ρ 0 n1).block < w.heap.size:=hlt
     omega
    ·rw [h2] at hbe1
     have:=(h.inj _ _ _ _ _ _ f1 hob1 c1 (hbo.2 h1) hbe1).1
     omega
   ·rw [zbx _ _ _ (by rcases hne with h | h; exact .inl (by omega); exact .inr h)] at c2 hbe1
    have:=(h.inj _ _ _ _ _ _ f1 (hup _ _ _ e0) c1 ((zbw hsx).1 c2) hbe1).1
    omega
  have z0:∀ n,upd1 ρ nm l' 0 n = ρ 0 n:=fun n => zbx _ _ _ (.inl (by omega))
  cases d with
  | zero =>
   obtain ⟨x0,e0,rfl⟩:=h0 n x e
   rw [z0] at b hbe
   have b:=(zde _ _ _).1 b
   cases d' with
   | zero =>
    obtain ⟨x1,e1,rfl⟩:=h0 n' x' e'
    rw [z0] at b' hbe
    exact h.inj _ _ _ _ _ _ e0 e1 b ((zde _ _ _).1 b') hbe
   | succ d' =>
    rw [hs] at e'
    exact (key _ _ _ _ _ e0 e' b b' hbe).elim
  | succ d =>
   rw [hs] at e
   cases d' with
   | zero =>
    obtain ⟨x1,e1,rfl⟩:=h0 n' x' e'
    rw [z0] at b' hbe
    exact (key _ _ _ _ _ e1 e ((zde _ _ _).1 b') b hbe.symm).elim
   | succ d' =>
    rw [hs] at e'
    have conv:∀ d n,upd1 ρ nm l' (d + 1) n = upd ρd nm l' d n:=by
     intro d n
     by_cases hc:d = 0 ∧ n = nm
     ·obtain ⟨rfl,rfl⟩:=hc
      rw [zcU,zaH]
     ·rw [zaG _ _ _ (by by_cases hz:d = 0; exact .inr fun hn => hc ⟨hz,hn⟩; exact .inl hz),zbx _ _ _ (by by_cases hz:d = 0; exact .inr fun hn => hc ⟨hz,hn⟩; exact .inl (by omega))]
    rw [conv] at b b' hbe
    rw [conv] at hbe
    have:=hI.inj _ _ _ _ _ _ e e' b b' hbe
    exact ⟨by omega,this.2⟩
 ·have:=h.size
  have:=hap.size
  show E.w0.heap.size ≤ _
  omega
 ·obtain ⟨hb1,hb2⟩:=hb
  rw [hap.old b (hlt0 b hb1) hb2]
  refine h.old b hb1 fun d n x e hbk => ?_
  have e':zaa (H1 :: O) d n = some x:=by simpa [zaa] using e
  rcases hcase' d n x e' with ⟨rfl,rfl⟩ | ⟨hne,y,ey,hsy⟩
  ·have:x = ob:=by rw [hob0] at e'; exact (Option.some.inj e').symm
   subst this
   exact fun hbe => hb2 (hbo.1 hbk) hbe.symm
  ·have e2:upd1 ρ nm l' (d + 1) n = ρ (d + 1) n:=zbx _ _ _ (by rcases hne with h | h; exact .inl (by omega); exact .inr h)
   have:=hno d n y (by rw [hs]; exact ey) (by rw [e2]; exact (zbw hsy).2 hbk)
   rwa [e2] at this
 ·obtain ⟨x0,e0,rfl⟩:=h0 n x e
  have e2:upd1 ρ nm l' 0 n = ρ 0 n:=zbx _ _ _ (.inl (by omega))
  rw [e2] at b hp
  exact h.loc n x0 e0 ((zde _ _ _).1 b) hp.1
 ·rcases h.Knew b o x e with h1 | h1
  ·exact .inl h1
  ·exact .inr fun hp => h1 hp.1
 ·obtain ⟨a1,a2,a3⟩:=h.rest
  obtain ⟨b1,b2,b3⟩:=hap.rest
  exact ⟨b1.trans a1,b2.trans a2,b3.trans a3⟩
end
section
variable {c:Cx} {s:St} {k:List Item} {ops:Array Oper} {rest:List Nat} {o:Oper} {E0:Env} {H0 H1 H:Heap} {O:List Heap}
theorem zpV (hT:TOk c.P c.T) (hfn:c.P.funcs[c.f]? = some c.fn) {i t t1 ty nm n m:Nat} {cl:Call} {x y:Operand} {ti1 ti2:TI} {xs ys:List (List I)} (hb:(n + m) * ti2.bytes ≤ 140737488355328 ∧ n + m ≤ 9223372036854775807)
  (ho:ops[i]? = some o) (hg:o.guard = none) (hd:o.dst = some t) (hop:o.op = .call cl) (hc1:cl.callee = .builtin .append) (hc2:cl.args = #[x,y]) (hc3:cl.argTypes = #[t1,t1])
  (h1:look c.T t1 = some ti1) (hk1:ti1.k = .slice ty) (h2:look c.T ty = some ti2) (hx:evD s x = .osl 1 nm) (hy:evD s y = .i (.sl ti2.size m ys)) (hS:s.S = H0 :: H1 :: O) (hl:look H1 nm = some (.arr ty ti2.size n xs true)) (hn:Nat.ble (t + 1) s.n = true)
  (h:∀ E',Moved c.E E' nm → RG { c with E:=E' } ops rest { σ:=(t,.osl 1 nm) :: zix nm s.σ,S:=zd3 nm H0 :: ((nm,.arr ty ti2.size (n + m) (xs ++ ys) true) :: zaT nm H1) :: O,n:=s.n } k):GM c (.pause ops i rest o s k):=by
 refine ⟨?_⟩
 intro K ρ a w hi
 simp only [wpOps,ho,za7 hi (show zav ops s o = some true by unfold zav; rw [hg]),if_true]
 have hok1:=hT _ _ h1
 have hu:c.P.underlying t1 = some (.slice ty):=by have:=hok1.kind; rw [hk1] at this; exact this
 have hh:=hi.h
 rw [hS] at hh
 have hob:zaa (H0 :: H1 :: O) 1 nm = some (.arr ty ti2.size n xs true):=by simpa [zaa] using hl
 have hrx:=hi.ev x
 rw [hx] at hrx
 have hvx:a.eval x = .slice (ρ 1 nm).base n (ρ 1 nm).cap:=zcg (es:=ti2.size) hrx (by rw [hS]; simp [shape,hob,Ob.sh])
 have hry:=hi.ev y
 rw [hy] at hry
 have hnow:Now K w (a.eval y) ti2.size m ys:=by
  revert hry
  generalize a.eval y = vy
  intro hr
  cases hr with
  | i r =>
   cases r with
   | @nil es p =>
    refine ⟨rfl,by simp,p,0,rfl,?_⟩
    cases p with
    | none => exact .inl ⟨rfl,rfl,rfl⟩
    | some ad => exact .inr ⟨ad,[],rfl,.nil,fun j c hc => by cases hc⟩
   | sl r e k' c' l => exact ⟨l,e,_,_,rfl,.inr ⟨_,_,rfl,r,fun j x hc => by rw [Addr.add_lit]; exact hi.h.holds _ _ _ (k' j x hc)⟩⟩
 have hown:=hh.own _ _ _ hob
 obtain ⟨l',w',hrun,hown',hap⟩:=zkM hu (hT _ _ h2) hown hnow hb.1 hb.2 o.type (fun o => hh.K_fresh (Nat.le_refl _))
 have hKo:zaq (ρ 1 nm) (.arr ty ti2.size n xs true) → ∀ o,K (ρ 1 nm).block o = none:=by
  intro hbk
  obtain ⟨_,_,_,_,h5⟩:=hown
  rcases h5 with ⟨_,h6⟩ | ⟨_,c,_,_,_,h9,_⟩
  ·exact absurd h6 hbk
  ·exact h9 rfl
 obtain ⟨E',hM,hI,hbut⟩:=hh.renew1 hl hap Iff.rfl (ob':=.arr ty ti2.size (n + m) (xs ++ ys) true) Iff.rfl hKo hown'
 refine .inl ?_
 have hexec:(execOp a.eval o).run c.P w = .ok (.value (.slice l'.base (n + m) l'.cap)) w':=by
  unfold execOp
  simp only [hop,hc1,hc2,hc3,resolve,invoke,builtin,Sem.run_bind,Sem.run_pure,Result.andThen_ok,List.map_toArray,List.map_cons,List.map_nil,hvx,hrun]
 simp only [Oper.wp,hexec,Oper.upon]
 refine h E' hM K (upd1 ρ nm l') _ w' ?_
 rw [hd]
 refine ⟨hI,hi.defers,by simp [Act.put]; exact hi.size,fun t' d' e' => ?_⟩
 rw [zbp (by rw [hi.size]; exact Nat.le_of_ble_eq_true hn)]
 simp only [zab] at e'
 split at e'
 ·rename_i e2
  simp only [Option.some.injEq] at e'
  subst e'
  rw [if_pos e2]
  have hsh:shape (zd3 nm H0 :: ((nm,Ob.arr ty ti2.size (n + m) (xs ++ ys) true) :: zaT nm H1) :: O) 1 nm = some (.arr ti2.size (n + m)):=by simp [shape,zaa,zab,Ob.sh]
  have:=RepD.osl (K:=K) (ρ:=upd1 ρ nm l') hsh
  rwa [zcU] at this
 ·rename_i e2
  rw [if_neg e2]
  rw [ze7] at e'
  cases hls:look s.σ t' with
  | none => simp [hls] at e'
  | some d0 =>
   simp only [hls,Option.map_some,Option.some.injEq] at e'
   subst e'
   have hr:=hi.slots _ _ hls
   rw [hS] at hr
   exact hr.cut1 hbut
theorem zjS (hT:TOk c.P c.T) {j t nb nm ty es n:Nat} {x y:Operand} {ti:TI} {d0:D} {xs:List (List I)} {wr:Bool} (ho:ops[j]? = some o) (hg:o.guard = none) (hd:o.dst = none) (hop:o.op = .store t x y) (h1:look c.T t = some ti) (hsz:ti.size = 1)
  (hx:evD s x = .own 1 nb 0 0) (hy:evD s y = .osl 1 nm) (hS:s.S = H0 :: H1 :: O) (hb:look H1 nb = some (.box [d0])) (ha:look H1 nm = some (.arr ty es n xs wr)) (h:RG c ops rest { s with S:=H0 :: ((nb,.box [.osl 0 nm]) :: H1) :: O } k):RG c ops (j :: rest) s k:=by
 intro K ρ a w hi
 simp only [wpOps,ho,za7 hi (show zav ops s o = some true by unfold zav; rw [hg]),if_true]
 refine .inl ?_
 have hok:=hT _ _ h1
 have hh:=hi.h
 have hobb:zaa s.S 1 nb = some (.box [d0]):=by rw [hS]; simpa [zaa] using hb
 have hoba:zaa s.S 1 nm = some (.arr ty es n xs wr):=by rw [hS]; simpa [zaa] using ha
 have hshb:shape s.S 1 nb = some .box:=by simp [shape,hobb,Ob.sh]
 have hsha:shape s.S 1 nm = some (.arr es n):=by simp [shape,hoba,Ob.sh]
 have hrx:=hi.ev x
 rw [hx] at hrx
 have hxv:=zem hrx hshb
 have hry:=hi.ev y
 rw [hy] at hry
 have hyv:=zcg hry hsha
 obtain ⟨cur,tyb,hg2,hr,hKn⟩:=zcX hh hobb
 have hcl:cur.size = 1:=by have:=hr.length; simpa using this
 have hvs:(a.eval y).cells.size = ti.size:=by rw [hyv,hsz]; rfl
 have hcl1:(a.eval y).cells.toList = [a.eval y]:=by rw [hyv]; rfl
 have hone:∀ u ∈ (a.eval y).cells.toList,u.oneCell' = true:=by rw [hcl1,hyv]; intro u hu; rw [List.mem_singleton] at hu; subst hu; rfl
 have hrun:=zfV (P:=c.P) (w:=w) (o:=0) hok hg2 hvs (by rw [hsz,hcl]; omega) hone
 have hput:HInv c.E K ρ (setAt s.S 1 nb (.box [.osl 0 nm])) (w.setRow (ρ 1 nb).block (cur.toList.take 0 ++ (a.eval y).cells.toList ++ cur.toList.drop (0 + (a.eval y).cells.toList.length)).toArray):=by
  refine hh.put hobb rfl trivial trivial (by simp) (fun b hb => setRow_other _ _ _ _ hb) (zef _ _ _) (fun o' x' hx' => by rw [hKn] at hx'; cases hx') ⟨_,tyb,setRow_heap _ _ _ _ _ _ hg2,?_,hKn⟩
  rw [hcl1]
  have:cur.toList.drop (0 + 1) = []:=by rw [List.drop_eq_nil_iff]; simp [hcl]
  simp only [List.take_zero,List.nil_append,List.length_singleton,this,List.append_nil]
  refine .cons ?_ .nil
  rw [hyv]
  exact RepD.osl (K:=K) (ρ:=fun d n => ρ (1 + d) n) (sh:=fun d n => shape s.S (1 + d) n) (dep:=0) (nm:=nm) hsha
 have hexec:(execOp a.eval o).run c.P w = .ok .skip (w.setRow (ρ 1 nb).block (cur.toList.take 0 ++ (a.eval y).cells.toList ++ cur.toList.drop (0 + (a.eval y).cells.toList.length)).toArray):=by
  simp only [execOp,hop,hxv,hrun,Sem.run_bind,Result.andThen_ok,Sem.run_pure]
 generalize w.setRow (ρ 1 nb).block (cur.toList.take 0 ++ (a.eval y).cells.toList ++ cur.toList.drop (0 + (a.eval y).cells.toList.length)).toArray = w1 at hput hexec
 have hI:=zr6 hi hput (zba hobb rfl)
 have hSe:setAt s.S 1 nb (.box [.osl 0 nm]) = H0 :: ((nb,.box [.osl 0 nm]) :: H1) :: O:=by rw [hS]; rfl
 rw [hSe] at hI
 have hput':a.put o.dst undef = a:=by rw [hd]; rfl
 simp only [Oper.wp,hexec,Oper.upon]
 have:=h K ρ a w1 hI
 first | exact this | (rw [hput']; exact this)
theorem zpU (hT:TOk c.P c.T) (hfn:c.P.funcs[c.f]? = some c.fn) {i j t t1 ty nm n m nb ts:Nat} {cl:Call} {x y px py:Operand} {ti1 ti2:TI} {xs ys:List (List I)} {d0:D} {o2:Oper} (hb:(n + m) * ti2.bytes ≤ 140737488355328 ∧ n + m ≤ 9223372036854775807)
  (ho:ops[i]? = some o) (hg:o.guard = none) (hd:o.dst = some t) (hop:o.op = .call cl) (hc1:cl.callee = .builtin .append) (hc2:cl.args = #[x,y]) (hc3:cl.argTypes = #[t1,t1])
  (h1:look c.T t1 = some ti1) (hk1:ti1.k = .slice ty) (h2:look c.T ty = some ti2) (hx:evD s x = .osl 1 nm) (hy:evD s y = .i (.sl ti2.size m ys)) (hS:s.S = H0 :: H1 :: O) (hl:look H1 nm = some (.arr ty ti2.size n xs true)) (hn:Nat.ble (t + 1) s.n = true)
  (ho2:ops[j]? = some o2) (hg2:o2.guard = none) (hd2:o2.dst = none) (hop2:o2.op = .store ts px py) (h12:look c.T ts = some ti1) (hsz2:ti1.size = 1)
  (hx2:evD { σ:=(t,.osl 1 nm) :: zix nm s.σ,S:=zd3 nm H0 :: ((nm,.arr ty ti2.size (n + m) (xs ++ ys) true) :: zaT nm H1) :: O,n:=s.n } px = .own 1 nb 0 0) (hy2:evD { σ:=(t,.osl 1 nm) :: zix nm s.σ,S:=zd3 nm H0 :: ((nm,.arr ty ti2.size (n + m) (xs ++ ys) true) :: zaT nm H1) :: O,n:=s.n } py = .osl 1 nm)
  (hlb:look ((nm,Ob.arr ty ti2.size (n + m) (xs ++ ys) true) :: zaT nm H1) nb = some (.box [d0]))
  (h:∀ E',Moved c.E E' nm → GM { c with E:=E' } (run c.T c.stop 1000 (.inRegion ops rest :: k) { σ:=(t,.osl 1 nm) :: zix nm s.σ,S:=zd3 nm H0 :: ((nb,.box [.osl 0 nm]) :: (nm,.arr ty ti2.size (n + m) (xs ++ ys) true) :: zaT nm H1) :: O,n:=s.n })):GM c (.pause ops i (j :: rest) o s k):=
 zpV hT hfn hb ho hg hd hop hc1 hc2 hc3 h1 hk1 h2 hx hy hS hl hn fun E' hM =>
  zjS (c:={ c with E:=E' }) hT ho2 hg2 hd2 hop2 h12 hsz2 hx2 hy2 rfl hlb (by rw [zab,if_pos rfl]) (zaF (c:={ c with E:=E' }) hT hfn 1000 (.inRegion ops rest :: k) _ (h E' hM).h)
theorem zfg {f:FuncId} {args:List D} {res:D} {H':Heap} {O':List Heap} {t nm ty es n:Nat} {xs:List (List I)} {wr:Bool} (hspec:zm7 c.P f (D.imms (zen s.S) args) s.S nm res [] (H' :: O')) (ht:o.dst = some t) (hn:t < s.n) (hS:s.S = H :: O)
  (hl:look H nm = some (.arr ty es n xs wr)) (hl':∃ ty' es' n' xs' wr',look H' nm = some (.arr ty' es' n' xs' wr')) (hsh:∀ d n,(d ≠ 0 ∨ n ≠ nm) → shape (H' :: O') d n = shape (H :: O) d n) :
  Wp c o s f args { σ:=(t,res.down) :: zd2 nm s.σ,S:=H' :: O',n:=s.n }:=by
 intro K ρ a w hi ⟨vs,hrun,hrep⟩ next Qe hnext
 have hh:=hi.h
 have hrep':=RepDL.imm hh hrep
 rw [hS] at hspec hh hrep'
 have hob:zaa (H :: O) 0 nm = some (.arr ty es n xs wr):=by simpa [zaa] using hl
 have fin:∀ v w',ziH (.of K ρ w) nm res [] (H' :: O') v w' → next (a.put o.dst v) w':=by
  rintro v w' ⟨E',hM,K',ρ',h',hr⟩
  let ρ2:Nat → Nat → Loc:=fun d n => ρ' (d + 1) n
  have hout:∀ d n,ρ2 d n = E'.ρ0 d n:=fun d n => by show ρ' (d + 1) n = _; rw [h'.outer]
  have hρ:∀ d n,(d ≠ 0 ∨ n ≠ nm) → ρ2 d n = ρ d n:=fun d n hd => by rw [hout,hM.ρ d n hd]; rfl
  have hup:∀ d n x,zaa (H' :: O') d n = some x → zaa ([] :: H' :: O') (d + 1) n = some x:=fun d n x e => by simpa [zaa] using e
  have hold:∀ d n ob,(d ≠ 0 ∨ n ≠ nm) → zaa (H' :: O') d n = some ob → ∃ o0,zaa (H :: O) d n = some o0 ∧ ob.sh = o0.sh:=by
   intro d n ob hd e
   have:=hsh d n hd
   simp only [shape,e,Option.map_some] at this
   cases ho:zaa (H :: O) d n with
   | none => simp [ho] at this
   | some o0 => simp only [ho,Option.map_some,Option.some.injEq] at this; exact ⟨o0,rfl,this⟩
  have hold':∀ d n o0,(d ≠ 0 ∨ n ≠ nm) → zaa (H :: O) d n = some o0 → ∃ ob,zaa (H' :: O') d n = some ob ∧ ob.sh = o0.sh:=by
   intro d n o0 hd e
   have:=hsh d n hd
   simp only [shape,e,Option.map_some] at this
   cases ho:zaa (H' :: O') d n with
   | none => simp [ho] at this
   | some ob => simp only [ho,Option.map_some,Option.some.injEq] at this; exact ⟨ob,rfl,this⟩
  have hlt:∀ b,c.E.pr b → b < w.heap.size:=fun b hb => Nat.lt_of_lt_of_le (c.E.lt b hb) hh.size
  have hloc0:∀ b,c.E.pr b → (ρ 0 nm).base ≠ none → b ≠ (ρ 0 nm).block:=fun b hb hne hbe => hh.loc nm _ hob hne (hbe ▸ hb)
  have hpr:∀ b,c.E.pr b → E'.pr b:=fun b hb => hM.pr b (hlt b hb) (hloc0 b hb)
  have hloc:∀ n x,zaa (H' :: O') 0 n = some x → zaq (ρ2 0 n) x → ∀ b,c.E.pr b → (ρ2 0 n).block ≠ b:=by
   intro n x e hb b hp hbe
   by_cases hn:n = nm
   ·subst hn
    have hbs:(ρ2 0 n).base ≠ none:=by
     obtain ⟨ty',es',n',xs',wr',h2⟩:=hl'
     have:x = .arr ty' es' n' xs' wr':=by
      have e2:look H' n = some x:=by simpa [zaa] using e
      rw [h2] at e2; exact (Option.some.inj e2).symm
     subst this
     exact hb
    rw [hout] at hbs hbe
    rcases hM.blk hbs with h1 | ⟨h1,h2⟩
    ·have:=hlt b hp
     have h1:w.heap.size ≤ _:=h1
     omega
    ·exact hloc0 b hp h1 (by rw [← hbe,h2]; rfl)
   ·obtain ⟨o0,e0,hs0⟩:=hold 0 n x (.inr hn) e
    rw [hρ _ _ (.inr hn)] at hb hbe
    exact hh.loc n o0 e0 ((zbw hs0).1 hb) (hbe ▸ hp)
  have hI:HInv c.E K' ρ2 (H' :: O') w':=by
   refine ⟨h'.holds,fun d n x e => ?_,fun d n x d' n' x' e e' b b' hbe => ?_,?_,fun b hb hno => ?_,fun n x e hb hp => hloc n x e hb _ hp rfl,fun d => ?_,?_,fun b o x e => ?_,?_⟩
   ·have h1:=h'.own _ _ _ (hup d n x e)
    have e1:(fun d' n => ρ' (d + 1 + d') n) = fun d' n => ρ2 (d + d') n:=by funext d' n; show _ = ρ' (d + d' + 1) n; rw [show d + 1 + d' = d + d' + 1 by omega]
    rw [e1] at h1
    simpa using h1
   ·have h1:=h'.inj _ _ _ _ _ _ (hup d n x e) (hup d' n' x' e') b b' hbe
    exact ⟨by omega,h1.2⟩
   ·have:=hh.size
    have h2:=h'.size
    rw [hM.w0] at h2
    have h2:w.heap.size ≤ w'.heap.size:=h2
    omega
   ·have h1:w'.heap[b]? = E'.w0.heap[b]?:=by
     refine h'.old b (hpr b hb) fun d n x e hbk => ?_
     have e':zaa (H' :: O') d n = some x:=by simpa [zaa] using e
     cases d with
     | zero => exact hloc n x e' hbk b hb
     | succ d => exact hno d n x e' hbk
    rw [h1,hM.w0]
    show w.heap[b]? = _
    refine hh.old b hb fun d n x e hbk => ?_
    obtain ⟨ob,eb,hsb⟩:=hold' (d + 1) n x (.inl (by omega)) e
    have e2:ρ2 (d + 1) n = ρ (d + 1) n:=hρ _ _ (.inl (by omega))
    have:=hno d n ob eb (by rw [e2]; exact (zbw hsb).2 hbk)
    rwa [e2] at this
   ·funext n
    rw [hρ _ _ (.inl (by omega)),hh.outer]
   ·refine Kn.le_trans hh.Kle ?_
    have:=h'.Kle
    rw [hM.K0] at this
    exact this
   ·rcases h'.Knew b o x e with h1 | h1
    ·rw [hM.K0] at h1
     exact hh.Knew b o x h1
    ·exact .inr fun hp => h1 (hpr b hp)
   ·have h1:=h'.rest
    rw [hM.w0] at h1
    obtain ⟨a1,a2,a3⟩:=h1
    obtain ⟨b1,b2,b3⟩:=hh.rest
    exact ⟨a1.trans b1,a2.trans b2,a3.trans b3⟩
  have hle:K.le K':=by
   have:=h'.Kle
   rw [hM.K0] at this
   exact this
  have hbut:But nm ρ ρ2 (shape (H :: O)) (shape (H' :: O')):=fun d n x hd e => ⟨by rw [hsh d n hd]; exact e,hρ d n hd⟩
  have hdn:Dn ρ' ρ2 (shape ([] :: H' :: O')) (shape (H' :: O')):=by
   refine ⟨fun n x e => ?_,fun d n x e => ⟨by simpa [shape,zaa] using e,rfl⟩⟩
   simp [shape,zaa,look] at e
  refine hnext _ _ K' ρ2 ?_
  rw [ht]
  refine ⟨hI,hi.defers,by simp [Act.put]; exact hi.size,fun t' d' e' => ?_⟩
  rw [zbp (by rw [hi.size]; exact hn)]
  simp only [zab] at e'
  split at e'
  ·rename_i e2
   simp only [Option.some.injEq] at e'
   subst e'
   rw [if_pos e2]
   exact hr.down hdn
  ·rename_i e2
   rw [if_neg e2]
   rw [zbX] at e'
   cases hls:look s.σ t' with
   | none => simp [hls] at e'
   | some d0 =>
    simp only [hls,Option.map_some,Option.some.injEq] at e'
    subst e'
    have hr:=hi.slots _ _ hls
    rw [hS] at hr
    exact (hr.kill hbut).stays ⟨hle,fun _ _ _ e => e,fun _ _ _ _ => rfl⟩
 rcases hspec c.E K ρ w vs hh hrep' with ⟨h1,h2⟩ | ⟨v,w',h1,h2⟩
 ·rw [h1] at hrun
  simp only [Oper.wp,hrun,Oper.upon]
  refine h2.mono ?_
  rintro e w' ⟨v,rfl,hR⟩
  exact fin v w' hR
 ·rw [h1] at hrun
  simp only [Oper.wp,hrun,Oper.upon]
  exact fin v w' h2
end
end Go.AI


namespace Go.AI
open Go.Proofs
set_option maxRecDepth 20000
theorem zpR {c:Cx} {s s':St} {k:List Item} {ops:Array Oper} {rest:List Nat} {o:Oper} {i:Nat} (hw:Wk c s s') (h:GM c (.pause ops i rest o s' k)):GM c (.pause ops i rest o s k):=
 ⟨fun K ρ a w hi => by obtain ⟨K',ρ',hi'⟩:=hw K ρ a w hi; exact h.h K' ρ' a w hi'⟩
abbrev zeV (sn:List Bool):Ob:=.arr 4 1 sn.length (sn.map fun b => [.v (.bool b)]) true
theorem zqG (O:List Heap) (R:Heap) (sn:List Bool) (l:List Int) (x:Nat) (hx:sn[x]? = some false) (hl:l.length ≤ 1000000) :
  zm7 Tryz.prog 217 [ii x,.own 0 7 0 0,.own 0 8 0 0] (((7,.box [.osl 0 18]) :: (8,.box [.osl 0 61]) :: (18,zeV sn) :: (61,zaw l) :: R) :: O) 61 (.tup []) []
   (((8,.box [.osl 0 61]) :: (61,zaw (l ++ [(x:Int)])) :: (18,zeV (sn.set x true)) :: (7,.box [.osl 0 18]) :: (8,.box [.dead]) :: (18,zeV sn) :: zaT 61 R) :: O):=by
 have hxl:x < sn.length:=(List.getElem?_eq_some_iff.1 hx).1
 have gx:(sn.map fun b => [I.v (.bool b)])[(x:Int).toNat]? = some [.v (.bool false)]:=by rw [Int.toNat_natCast,List.getElem?_map,hx]; rfl
 refine zgU 61 [200015] Tk Tryz.func217 rfl Tryz.call217 Tryz.ntmps217 (Nat.le_of_ble_eq_true rfl) fun E => ?_
 refine zae Tk Tryz.func217 ?_
 refine zbg Tk Tryz.func217 (rfl) ?_
 refine zbg Tk Tryz.func217 (rfl) ?_
 refine zag Tk Tryz.func217 (by exact ⟨by omega,by show (x:Int) < (sn.length:Int); omega⟩) ?_
 refine zbg Tk Tryz.func217 (rfl) ?_
 refine zap Tk Tryz.func217 (gx) ?_
 refine gcT Tk Tryz.func217 rfl ?_
 refine zbg Tk Tryz.func217 (rfl) ?_
 refine zbg Tk Tryz.func217 (rfl) ?_
 refine zag Tk Tryz.func217 (by exact ⟨by omega,by show (x:Int) < (sn.length:Int); omega⟩) ?_
 refine zbg Tk Tryz.func217 (rfl) ?_
 refine zbg Tk Tryz.func217 (rfl) ?_
 refine zpU Tk Tryz.func217 (ti1:=zev) (ti2:=zhE) (m:=1) (nm:=61) (nb:=8) (n:=l.length) (xs:=l.map fun x => [vi x]) ⟨by show (l.length + 1) * 8 ≤ 140737488355328; omega,by omega⟩ rfl rfl rfl rfl rfl rfl rfl rfl rfl rfl rfl rfl rfl rfl rfl rfl rfl rfl rfl rfl rfl rfl rfl rfl ?_
 intro E' hM
 have e1:Ob.arr 3 1 (l.length + 1) (l.map (fun x => [vi x]) ++ [[vi (x:Int)]]) true = zaw (l ++ [(x:Int)]):=zaL l x
 have e2:Ob.arr 4 1 sn.length ((sn.map fun b => [I.v (.bool b)]).set (x:Int).toNat [.v (.bool true)]) true = zeV (sn.set x true):=by
  rw [Int.toNat_natCast]
  simp [zeV,List.map_set]
 refine zpS Tk (nm:=61) (r:=.tup []) hM rfl rfl rfl trivial rfl ?_ rfl
 rw [← e1,← e2]
 rfl
theorem zqF (O:List Heap) (R:Heap) (sn:List Bool) (l:List Int) (x:Nat) (hx:sn[x]? = some true) :
  zan Tryz.prog 217 [ii x,.own 0 7 0 0,.own 0 8 0 0] (((7,.box [.osl 0 18]) :: (8,.box [.osl 0 61]) :: (18,zeV sn) :: (61,zaw l) :: R) :: O) (.tup []) []
   (((7,.box [.osl 0 18]) :: (8,.box [.osl 0 61]) :: (18,zeV sn) :: (61,zaw l) :: R) :: O):=by
 have hxl:x < sn.length:=(List.getElem?_eq_some_iff.1 hx).1
 have gx:(sn.map fun b => [I.v (.bool b)])[(x:Int).toNat]? = some [.v (.bool true)]:=by rw [Int.toNat_natCast,List.getElem?_map,hx]; rfl
 refine zad Tk Tryz.func217 rfl Tryz.call217 Tryz.ntmps217 (Nat.le_of_ble_eq_true rfl) fun E => ?_
 refine zae Tk Tryz.func217 ?_
 refine zbg Tk Tryz.func217 (rfl) ?_
 refine zbg Tk Tryz.func217 (rfl) ?_
 refine zag Tk Tryz.func217 (by exact ⟨by omega,by show (x:Int) < (sn.length:Int); omega⟩) ?_
 refine zbg Tk Tryz.func217 (rfl) ?_
 refine zap Tk Tryz.func217 (gx) ?_
 refine gcF Tk Tryz.func217 rfl ?_
 refine zal Tk (r:=.tup []) rfl rfl rfl trivial rfl rfl ?_
 rfl
theorem zms (O:List Heap) (R:Heap) (sn:List Bool) (l:List Int) (x:Nat):∀ d m,(d ≠ 0 ∨ m ≠ 61) →
  shape (((8,.box [.osl 0 61]) :: (61,zaw (l ++ [(x:Int)])) :: (18,zeV (sn.set x true)) :: (7,.box [.osl 0 18]) :: (8,.box [.dead]) :: (18,zeV sn) :: zaT 61 R) :: O) d m =
   shape (((7,.box [.osl 0 18]) :: (8,.box [.osl 0 61]) :: (18,zeV sn) :: (61,zaw l) :: R) :: O) d m:=by
 intro d m hd
 cases d with
 | succ d => simp [shape,zaa]
 | zero =>
  have hm:m ≠ 61:=by rcases hd with h | h; exact absurd rfl h; exact h
  simp only [shape,zaa,List.getElem?_cons_zero,zab,za0]
  by_cases h8:8 = m
  ·subst h8; rfl
  ·rw [if_neg h8,if_neg h8,if_neg h8,if_neg (Ne.symm hm),if_neg (Ne.symm hm)]
   by_cases h18:18 = m
   ·subst h18
    simp [Ob.sh]
   ·rw [if_neg h18,if_neg h18,if_neg h18]
    by_cases h7:7 = m
    ·subst h7; rfl
    ·rw [if_neg h7,if_neg h7,if_neg hm]
     cases hl:look R m with
     | none => rfl
     | some o => simp [hl,Ob.kill_sh]
end Go.AI


namespace Go.AI
open Go.Proofs
set_option maxRecDepth 20000
set_option maxHeartbeats 400000
def chs (s:Sta) (ev:Int):List Mv → Nat → Option Nat → Bool → Option Nat × Int
 | [],_,out,two => if two then (none,18) else (out,0)
 | x :: r,i,out,two =>
  if x.frm ≠ s.loc ∨ x.ev ≠ ev then chs s ev r (i + 1) out two else
  if (znO x.g s.vals).2 ≠ 0 then (none,17) else
  if (znO x.g s.vals).1 = 1 then chs s ev r (i + 1) (some i) (out.isSome || two) else chs s ev r (i + 1) out two
end Go.AI


namespace Go.AI
open Go.Proofs
set_option maxRecDepth 20000
structure mvRight (m:Ext) (x:Mv):Prop where
 frm:0 ≤ x.frm ∧ x.frm < m.locs
 to:0 ≤ x.to ∧ x.to < m.locs
 ev:x.ev ∈ m.alpha
 g:ziN x.g m.vars.length 2 = 0
 us:zou m.vars.length none x.us = 0
structure extRight (m:Ext):Prop where
 alpha:zak 32 m.alpha none = 0
 locs:1 ≤ m.locs ∧ m.locs ≤ 64
 init:0 ≤ m.init ∧ m.init < m.locs
 marked:zak m.locs m.marked none = 0
 vars:zjJ m.vars = 0
 len:m.moves.length ≤ 256
 mv:∀ x ∈ m.moves,mvRight m x
def updR (m:Ext) (vals:List Int):List Upd → List Int → Option (List Int)
 | [],acc => some acc
 | u :: r,acc => match m.vars[u.v.toNat]? with
  | none => none
  | some v => if (znO u.x vals).2 ≠ 0 ∨ (znO u.x vals).1 < v.low ∨ (znO u.x vals).1 > v.high then none else updR m vals r (acc.set u.v.toNat (znO u.x vals).1)
def zq9:Sta:=⟨0,[]⟩
def zvK (m:Ext) (s:Sta) (ev:Int):Sta × Bool × Int:=
 match (chs s ev m.moves 0 none false).1 with
 | none => (zq9,false,(chs s ev m.moves 0 none false).2)
 | some k => if (chs s ev m.moves 0 none false).2 ≠ 0 then (zq9,false,(chs s ev m.moves 0 none false).2) else match m.moves[k]? with
  | none => (zq9,false,0)
  | some x => match updR m s.vals x.us s.vals with
   | none => (zq9,false,17)
   | some acc => (⟨x.to,acc⟩,true,0)
end Go.AI


namespace Go.AI
open Go.Proofs
set_option maxRecDepth 20000
def zkd (n:Int):ByteArray:=⟨(Lib.itoa n).toArray⟩
def ptab (ty:TypeId) (fr:Nat × Nat):Obj:=.cells (Lib.pow10Tab.map fun z => Value.int .u64 z).toArray ty fr
theorem zrk {name:String} {g:Nat} {ty:TypeId} {fr:Nat × Nat} {w:World} (hg:Tryz.prog.globalNamed name = some g) (h:w.heap[g]? = some (ptab ty fr)):Lib.TabIs Tryz.prog w name .u64 Lib.pow10Tab:=by
 simp only [Lib.TabIs,World.var?,hg,Option.bind_some,h,ptab]
def zfx (g : Nat) : Prop := ∀ ty fr w, w.heap[g]? = some (ptab ty fr) → Lib.TabIs Tryz.prog w "internal/strconv.uint64pow10" .u64 Lib.pow10Tab
theorem zvg {g:Nat} (hg:zfx g) {ty:TypeId} {fr:Nat × Nat} (O:List Heap) (n:Int) (h0:-9223372036854775808 ≤ n) (h1:n ≤ 9223372036854775807):ASpecT g (ptab ty fr) Tryz.prog 134 [ii n] O (.i (.v (.string (zkd n)))) [] O:=by
 intro E K ρ w vs hw htab hrep
 obtain rfl:vs = [.int .i64 n]:=by
  cases hrep with
  | cons r rs => cases rs; rw [zaM r]
 refine .inl ⟨Tryz.call134 _ _,?_⟩
 refine (Tryz.strconv_Itoa n h0 h1 w (hg ty fr w htab.1)).mono ?_
 rintro e w' ⟨rfl,k,os,rfl⟩
 obtain ⟨ρ1,hρ1,hI⟩:=zcu hw
 obtain ⟨hI2,hst⟩:=HInv.grow (S:=[] :: O) rfl hI (fun _ _ _ e => e) (fun _ h => by simp [look] at h) (zjl hI k os)
 exact ⟨_,rfl,K,ρ1,hI2,.i (.v rfl)⟩
end Go.AI


namespace Go.AI
open Go.Proofs
set_option maxRecDepth 20000
theorem zdc:∀ (k u:Nat),u < 10 ^ (k + 1) → (Lib.decDigits u).length ≤ k + 1
 | 0,u,h => by
  unfold Lib.decDigits
  rw [dif_pos (by omega)]
  simp
 | k + 1,u,h => by
  unfold Lib.decDigits
  split
  ·simp
  ·rw [List.length_append]
   have:=zdc k (u / 10) (by rw [Nat.pow_succ] at h; omega)
   simp only [List.length_cons,List.length_nil]
   omega
theorem znC {n:Int} (h0:-9223372036854775808 ≤ n) (h1:n ≤ 9223372036854775807):(zkd n).size ≤ 21:=by
 show (Lib.itoa n).toArray.size ≤ 21
 simp only [List.size_toArray]
 unfold Lib.itoa
 split
 ·have:=zdc 19 n.natAbs (by omega)
  simp only [List.length_cons]
  omega
 ·have:=zdc 19 n.toNat (by omega)
  omega
def zuR:ByteArray:=⟨#[32]⟩
def keyS (loc:Int) (vals:List Int):ByteArray:=vals.foldl (fun b n => b ++ (zuR ++ zkd n)) (zkd loc)
end Go.AI


namespace Go.AI
open Go.Proofs
set_option maxRecDepth 20000
def okS (m:Ext) (s:Sta):Prop:=(0 ≤ s.loc ∧ s.loc < m.locs) ∧ within m.vars s.vals = true
structure Srch where
 sts:List Sta
 frm:List (Int × Int)
 flt:Int × Int
 kind:Int
def keyOf (s:Sta):ByteArray:=keyS s.loc s.vals
def visit (m:Ext) (i:Nat) (s:Sta) (ev:Int) (S:Srch):Option Srch:=
 let n:=zvK m s ev
 let S1:Srch:=if n.2.2 ≠ 0 ∧ S.kind = 0 then { S with kind:=n.2.2,flt:=(i,ev) } else S
 if n.2.1 = false ∨ (S.sts.any fun t => keyOf n.1 == keyOf t) = true then some S1 else
 if S.sts.length = 4096 then none else some { S1 with sts:=S1.sts ++ [n.1],frm:=S1.frm ++ [((i:Int),ev)] }
end Go.AI


namespace Go.AI
open Go.Proofs
set_option maxRecDepth 20000
structure Good (m:Ext) (S:Srch):Prop where
 len:S.sts.length ≤ 4096
 ok:∀ s ∈ S.sts,okS m s
 fl:S.frm.length = S.sts.length
end Go.AI




namespace Go.AI
open Go.Proofs
def over (c:Array Value):Nat → List Value → Array Value
 | _,[] => c
 | o,v :: r => over (c.setIfInBounds o v) (o + 1) r
theorem zga:∀ (vs:List Value) (c:Array Value) (o:Nat),(over c o vs).size = c.size
 | [],c,o => rfl
 | v :: r,c,o => by simp only [over,zga r,Array.size_setIfInBounds]
theorem zh4:∀ (vs:List Value) (c:Array Value) (o j:Nat),o + vs.length ≤ c.size → (over c o vs)[j]? = if o ≤ j ∧ j < o + vs.length then vs[j - o]? else c[j]?
 | [],c,o,j,_ => by
  simp only [over,List.length_nil,Nat.add_zero]
  rw [if_neg (by omega)]
 | v :: r,c,o,j,h => by
  simp only [List.length_cons] at h
  simp only [over]
  rw [zh4 r _ _ _ (by simp only [Array.size_setIfInBounds]; omega)]
  simp only [List.length_cons]
  by_cases h1:o + 1 ≤ j ∧ j < o + 1 + r.length
  ·rw [if_pos h1,if_pos (by omega),show j - o = (j - (o + 1)) + 1 by omega]
   simp
  ·rw [if_neg h1]
   by_cases h2:j = o
   ·subst h2
    rw [if_pos (by omega)]
    simp only [Nat.sub_self,List.getElem?_cons_zero,Array.getElem?_setIfInBounds]
    rw [if_pos trivial,if_pos (by omega)]
   ·rw [if_neg (by omega),Array.getElem?_setIfInBounds,if_neg (by omega)]
theorem zc7 {b:Nat}:∀ (vs:List Value) (o:Nat) (w:World) (c:Array Value) (ty:TypeId) (fr:Nat × Nat),w.heap[b]? = some (.cells c ty fr) →
  (w.setCells b o vs).heap[b]? = some (.cells (over c o vs) ty fr) ∧ (∀ b',b' ≠ b → (w.setCells b o vs).heap[b']? = w.heap[b']?) ∧ (w.setCells b o vs).heap.size = w.heap.size ∧
   (w.setCells b o vs).tape = w.tape ∧ (w.setCells b o vs).os = w.os ∧ (w.setCells b o vs).output = w.output
 | [],o,w,c,ty,fr,h => ⟨h,fun _ _ => rfl,rfl,rfl,rfl,rfl⟩
 | v :: r,o,w,c,ty,fr,h => by
  have h1:(w.setCell ⟨b,o,none⟩ v).heap[b]? = some (.cells (c.setIfInBounds o v) ty fr):=by
   simp [World.setCell,Array.getElem?_modify,h]
  have h2:∀ b',b' ≠ b → (w.setCell ⟨b,o,none⟩ v).heap[b']? = w.heap[b']?:=fun b' hb => by
   simp only [World.setCell,Array.getElem?_modify]
   rw [if_neg (fun e => hb e.symm)]
  obtain ⟨a1,a2,a3,a4,a5,a6⟩:=zc7 r (o + 1) (w.setCell ⟨b,o,none⟩ v) _ ty fr h1
  refine ⟨a1,fun b' hb => (a2 b' hb).trans (h2 b' hb),a3.trans (by simp [World.setCell]),a4,a5,a6⟩
theorem zf3 {K:Kn}:∀ {vs:List Value} {l:List Int},RepL K vs (l.map fun x => [vi x]).flatten → vs = l.map (Value.int .i64)
 | _,[],.nil => rfl
 | _,x :: r,h => by
  simp only [List.map_cons,List.flatten_cons,List.cons_append,List.nil_append] at h
  cases h with
  | cons a b =>
   cases a with
   | v e => rw [zf3 b]; rfl
theorem zgv {K:Kn}:∀ (l:List Int),RepL K (l.map (Value.int .i64)) (l.map fun x => [vi x]).flatten
 | [] => .nil
 | x :: r => by
  simp only [List.map_cons,List.flatten_cons,List.cons_append,List.nil_append]
  exact .cons (.v rfl) (zgv r)
end Go.AI


namespace Go.AI
open Go.Proofs
theorem zjZ {w:World} {b:Nat} {d:Array Int} {c:Array Value} {ty:TypeId} {fr:Nat × Nat} (h:w.heap[b]? = some (.cells c ty fr)) :
  (Sort.putRow (Value.int .i64) w b 0 d).heap[b]? = some (.cells (Sort.putCells (Value.int .i64) 0 d c) ty fr) ∧ ∀ b',b' ≠ b → (Sort.putRow (Value.int .i64) w b 0 d).heap[b']? = w.heap[b']?:=by
 unfold Sort.putRow Sort.mapBlock
 refine ⟨?_,fun b' hb => ?_⟩
 ·simp [Array.getElem?_modify,h,Sort.onCells]
 ·simp only [Array.getElem?_modify]
  rw [if_neg (fun e => hb e.symm)]
theorem zsK (O:List Heap) (d nm:Nat) (l:List Int) (hpos:0 < l.length) (hl:l.length < 4611686018427387904) (ho:zaa O d nm = some (zaw l)):zan Tryz.prog 97 [.osl d nm] O (.tup []) [] (setAt O d nm (zaw (zbs l))):=by
 intro E K ρ w vs hw hrep
 obtain rfl:vs = [.slice (ρ d nm).base l.length (ρ d nm).cap]:=by
  cases hrep with
  | cons r rs =>
   cases rs
   rw [zcg (es:=1) (len:=l.length) r (by simp [shape,ho,Ob.sh])]
 obtain ⟨ρ1,hρ1,hI⟩:=zcu hw
 have ho1:zaa (([]:Heap) :: O) (d + 1) nm = some (zaw l):=zaI ho
 have hown1:=zcX (s:={ σ:=[],S:=[] :: O,n:=0 }) hI ho1
 have hsl:=zfQ l
 refine .inl ⟨Tryz.call97 _ _,?_⟩
 obtain ⟨h1,h2,h3,h4,h5⟩:=hown1
 have hloc:ρ1 (d + 1) nm = ρ d nm:=by rw [hρ1]
 rw [hloc] at h3 h4 h5
 rcases h5 with ⟨h5,h6⟩ | ⟨h5,c,h6,h7,h8,h9,h10,h11⟩
 ·exfalso; omega
 ·have hcl:c.toList.take l.length = l.map (Value.int .i64):=by
   rw [Nat.mul_one] at h8
   exact zf3 h8
  have hsz:l.length ≤ c.size:=by rw [h7,Nat.mul_one]; exact h3
  have hblk:(ρ d nm).block < w.heap.size:=(Array.getElem?_eq_some_iff.1 h6).1
  rw [h5]
  refine (Tryz.slices_Sort_int (ρ d nm).block 0 (ρ d nm).cap l w (fun j hj => ⟨?_,?_⟩) hblk hl).mono ?_
  ·have hj:j < l.length:=by simpa using hj
   rw [Nat.zero_add,cell_of_heap h6]
   have:(c.toList.take l.length)[j]? = some (.int .i64 l[j]):=by
    rw [hcl,List.getElem?_map,List.getElem?_eq_getElem hj]
    rfl
   rw [List.getElem?_take,if_pos hj] at this
   have e:l.toArray[j]! = l[j]:=by simp [hj]
   rw [e]
   simpa using this
  ·simp [World.frozen?,h6]
  ·rintro e w' ⟨rfl,n,os,rfl⟩
   have hh:(Sort.ahead w n).heap[(ρ d nm).block]? = some (.cells c 3 (0,0)):=h6
   obtain ⟨a1,a2⟩:=zjZ (d:=(zbs l).toArray) hh
   have hbk:zaq (ρ1 (d + 1) nm) (zaw l):=by rw [hloc]; show _ ≠ none; rw [h5]; simp
   have hfin:HInv (.of K ρ w) K ρ1 (setAt ([] :: O) (d + 1) nm (zaw (zbs l))) (Sort.putRow (Value.int .i64) (Sort.ahead w n) (ρ d nm).block 0 (zbs l).toArray):=by
    refine hI.put ho1 (by simp [Ob.sh,hsl]) hbk (by rw [hloc]; show _ ≠ none; rw [h5]; simp) (by simp [Sort.ahead]) (fun b hb => a2 b (by rw [← hloc]; exact hb)) ⟨rfl,rfl,rfl⟩ (fun o x hx => ?_) ?_
    ·rw [hloc] at hx ⊢
     rw [h9 rfl] at hx; cases hx
    ·rw [hloc]
     refine ⟨by simp [hsl],by simp,by simpa [hsl] using h3,h4,.inr ⟨h5,_,a1,by simp [Sort.putCells,h7],?_,fun _ => h9 rfl,fun o ho => by rw [h9 rfl o],fun h => by cases h⟩⟩
     have e:(Sort.putCells (Value.int .i64) 0 (zbs l).toArray c).toList.take ((zbs l).length * 1) = (zbs l).map (Value.int .i64):=by
      apply List.ext_getElem?
      intro j
      rw [List.getElem?_take,Nat.mul_one]
      by_cases hj:j < (zbs l).length
      ·rw [if_pos hj]
       have hjc:j < c.size:=by omega
       simp [Sort.putCells,hj,hjc,Array.getElem?_mapIdx]
      ·rw [if_neg hj]
       simp at hj
       simp [hj]
     rw [e]
     exact zgv _
   obtain ⟨hI2,hst⟩:=HInv.grow (S:=setAt ([] :: O) (d + 1) nm (zaw (zbs l))) rfl hfin (fun _ _ _ e => e) (fun _ h => by simp [look] at h) (zjl hfin 0 os)
   exact ⟨_,rfl,K,ρ1,hI2,.tup .nil⟩
end Go.AI


namespace Go.AI
open Go.Proofs
set_option maxRecDepth 20000
theorem zub (O:List Heap):zan Tryz.prog 188 [.i (.v (.int .u64 0))] O (ii 0) [] O:=by
 refine zad Tk Tryz.func188 rfl Tryz.call188 Tryz.ntmps188 (Nat.le_of_ble_eq_true rfl) fun E => ?_
 refine zae Tk Tryz.func188 ?_
 refine gcF Tk Tryz.func188 rfl ?_
 refine gcF Tk Tryz.func188 rfl ?_
 refine gcF Tk Tryz.func188 rfl ?_
 refine zag Tk Tryz.func188 (by exact ⟨by decide,by decide⟩) ?_
 refine zal Tk (r:=ii 0) rfl rfl rfl trivial rfl rfl ?_
 rfl
theorem zvd (O:List Heap):zan Tryz.prog 146 [.i (.v (.int .u64 0))] O (ii 0) [] O:=by
 refine zad Tk Tryz.func146 rfl Tryz.call146 Tryz.ntmps146 (Nat.le_of_ble_eq_true rfl) fun E => ?_
 refine zae Tk Tryz.func146 ?_
 refine gcF Tk Tryz.func146 rfl ?_
 refine zaf Tk Tryz.func146 (zub _) rfl rfl rfl rfl rfl ?_
 refine zal Tk (r:=ii 0) rfl rfl rfl trivial rfl rfl ?_
 rfl
theorem zuk (O:List Heap):zan Tryz.prog 179 [ints [],ii 0,ii 0] O (.tup []) [] O:=by
 refine zad Tk Tryz.func179 rfl Tryz.call179 Tryz.ntmps179 (Nat.le_of_ble_eq_true rfl) fun E => ?_
 refine zae Tk Tryz.func179 ?_
 refine zac ?_
 refine zae Tk Tryz.func179 ?_
 refine gcF Tk Tryz.func179 rfl ?_
 refine zal Tk (r:=.tup []) rfl rfl rfl trivial rfl rfl ?_
 rfl
theorem zu1 (O:List Heap):zan Tryz.prog 145 [ints [],ii 0,ii 0,ii 0] O (.tup []) [] O:=by
 refine zad Tk Tryz.func145 rfl Tryz.call145 Tryz.ntmps145 (Nat.le_of_ble_eq_true rfl) fun E => ?_
 refine zae Tk Tryz.func145 ?_
 refine zac ?_
 refine zae Tk Tryz.func145 ?_
 refine gcT Tk Tryz.func145 rfl ?_
 refine zaf Tk Tryz.func145 (zuk _) rfl rfl rfl rfl rfl ?_
 refine zal Tk (r:=.tup []) rfl rfl rfl trivial rfl rfl ?_
 rfl
theorem ztG (O:List Heap):zan Tryz.prog 97 [ints []] O (.tup []) [] O:=by
 refine zad Tk Tryz.func97 rfl Tryz.call97 Tryz.ntmps97 (Nat.le_of_ble_eq_true rfl) fun E => ?_
 refine zae Tk Tryz.func97 ?_
 refine zaf Tk Tryz.func97 (zvd _) rfl rfl rfl rfl rfl ?_
 refine zaf Tk Tryz.func97 (zu1 _) rfl rfl rfl rfl rfl ?_
 refine zal Tk (r:=.tup []) rfl rfl rfl trivial rfl rfl ?_
 rfl
end Go.AI


namespace Go.AI
open Go.Proofs
set_option maxRecDepth 20000
theorem ze0 {p:Int → Bool} {s:Int}:∀ {es:List Edg} {l:List Int},rvB p s (es.filter fun e => e.1 == s) l = rvB p s es l
 | [],l => rfl
 | e :: r,l => by
  by_cases h:e.1 = s
  ·rw [List.filter_cons_of_pos (by simpa using h)]
   simp only [rvB]
   exact ze0
  ·rw [List.filter_cons_of_neg (by simpa using h)]
   simp only [rvB]
   rw [if_neg (fun h' => h h'.1)]
   exact ze0
theorem ziV {p:Int → Bool} {s:Int}:∀ {es:List Edg} {l:List Int},l.Nodup → (rvB p s es l).Nodup
 | [],l,h => h
 | e :: r,l,h => by
  unfold rvB
  refine ziV ?_
  split
  ·rename_i h1
   unfold List.Nodup
   rw [List.pairwise_append]
   refine ⟨h,List.pairwise_singleton _ _,fun a ha b hb => ?_⟩
   rw [List.mem_singleton] at hb
   subst hb
   exact fun e' => h1.2.2 (e' ▸ ha)
  ·exact h
theorem ziX {es:List Edg} {p:Int → Bool}:∀ (f i:Nat) {l:List Int},l.Nodup → (rlB es p f i l).Nodup
 | 0,_,_,h => h
 | f + 1,i,l,h => by
  unfold rlB
  split
  ·exact h
  ·exact ziX f (i + 1) (ziV h)
def zhf (n:Nat) (sn:List Bool) (l:List Int):Prop:=sn.length = n ∧ ∀ x:Nat,x < n → sn[x]? = some (decide ((x:Int) ∈ l))
theorem znl (n:Nat):zhf n (List.replicate n false) []:=⟨by simp,fun x hx => by simp [List.getElem?_replicate,hx]⟩
theorem zhe {n:Nat} {sn:List Bool} {l:List Int} {x:Nat} (h:zhf n sn l) (hx:x < n):zhf n (sn.set x true) (l ++ [(x:Int)]):=by
 refine ⟨by rw [List.length_set,h.1],fun y hy => ?_⟩
 by_cases hxy:x = y
 ·subst hxy
  rw [List.getElem?_set_self (by rw [h.1]; exact hy)]
  simp
 ·rw [List.getElem?_set_ne hxy,h.2 y hy]
  congr 1
  refine decide_eq_decide.2 ⟨fun h => List.mem_append_left _ h,fun h => ?_⟩
  rcases List.mem_append.1 h with h | h
  ·exact h
  ·rw [List.mem_singleton] at h; omega
theorem zlS (O:List Heap) (es:List Edg) (n:Nat) (kp er mk fr ev:List Int) (hn:n ≤ 4096) (hes:∀ x ∈ es,0 ≤ x.2.2 ∧ x.2.2 < (n:Int)) (hed:es.length ≤ 1000000) (hfr:∀ x ∈ fr,0 ≤ x ∧ x < (n:Int)) (hfl:fr.length ≤ 1000000000000) (hev:ev.length ≤ zas) :
  zan Tryz.prog 191 [.agg [.i (zcH (zbb n es)),ints kp,ints er,ints mk],ints fr,ints ev] O (ints (clo es (fun x => decide (x ∈ ev)) n fr)) [] O:=by
 refine zat [200028,200056,18] Tk Tryz.func191 rfl Tryz.call191 Tryz.ntmps191 (Nat.le_of_ble_eq_true rfl) fun E => ?_
 refine zae Tk Tryz.func191 ?_
 refine zag Tk Tryz.func191 (by exact ⟨by omega,by omega,by show _ * 1 ≤ _; rw [zcx]; omega,by rw [zcx]; omega⟩) ?_
 refine zac ?_
 refine zao (zoq 8 61 3 1 rfl rfl rfl) ?_
 refine zah (fun x:Nat × List Bool × List Int => [(2,ints ev),(3,.own 0 3 0 0),(7,.own 0 7 0 0),(8,.own 0 8 0 0),(9,.fn (.func 217) [] [.own 0 7 0 0,.own 0 8 0 0]),(20,ints fr),(21,ii fr.length),(22,ii x.1)])
  (fun x => [(7,.box [.osl 0 18]),(8,.box [.osl 0 61]),(18,zeV x.2.1),(61,zaw x.2.2),(3,.box [.i (zcH (zbb n es)),ints kp,ints er,ints mk])]) (fun _ => O) 61
  (fun x => x.1 ≤ fr.length ∧ fOk n x.2.2 ∧ zhf n x.2.1 x.2.2 ∧ ∀ y,y ∈ x.2.2 ↔ y ∈ fr.take x.1) (fun x => fr.length - x.1) (0,List.replicate n false,[])
  ⟨Nat.zero_le _,⟨by simp,by simp⟩,znl n,by simp⟩ ⟨rfl,rfl,rfl,rfl,rfl,rfl,rfl,rfl,trivial⟩ rfl ⟨rfl,rfl,?_,rfl,rfl,trivial⟩ rfl rfl ?_
 ·show some (Ob.arr 4 1 ((zbb n es).length:Int).toNat (List.replicate ((zbb n es).length:Int).toNat [I.v (.bool false)]) true) = some (Ob.arr 4 1 (List.replicate n false).length ((List.replicate n false).map fun b => [I.v (.bool b)]) true)
  simp [zcx]
 rintro ⟨j,sn,l⟩ ⟨hj,hl,hsn,hm⟩ ih
 simp only at hj hl hsn hm
 have hll:=zs8 hl
 refine zae Tk Tryz.func191 ?_
 refine zai Tk Tryz.func191 rfl (fun g1 => ?_) (fun g1 => ?_)
 ·have h1:j < fr.length:=by simpa using g1
  have gf:(fr.map fun x => [vi x])[(j:Int).toNat]? = some [vi fr[j]]:=zaj (f:=fun x => [vi x]) h1
  have hfj:=hfr _ (List.getElem_mem h1)
  have htk:fr.take (j + 1) = fr.take j ++ [fr[j]]:=by rw [List.take_add_one,List.getElem?_eq_getElem h1]; rfl
  generalize fr[j] = y at *
  obtain ⟨x,rfl⟩:∃ x:Nat,y = x:=⟨y.toNat,by omega⟩
  have hsx:=hsn.2 x (by omega)
  refine zag Tk Tryz.func191 (by exact ⟨by omega,by show (j:Int) < (fr.length:Int); omega⟩) ?_
  refine zap Tk Tryz.func191 (gf) ?_
  have hj1:ii (IntKind.i64.wrap ((j:Int) + 1)) = ii ((j + 1:Nat):Int):=congrArg ii (zaB (n:=1000000000001) (by omega) (by decide))
  by_cases hmem:(x:Int) ∈ l
  ·rw [decide_eq_true hmem] at hsx
   refine zko Tk Tryz.func191 rfl rfl (fun K ρ a w h => ⟨K,ρ,h⟩) ?_
   refine zaf Tk Tryz.func191 (zqF O _ sn l x hsx) rfl rfl rfl rfl rfl ?_
   refine zac ?_
   refine ih (j + 1,sn,l) _ _ ⟨h1,hl,hsn,fun y => ?_⟩ (by simp only; omega) ⟨rfl,rfl,rfl,rfl,rfl,rfl,rfl,hj1,trivial⟩ rfl ⟨rfl,rfl,rfl,rfl,rfl,trivial⟩ rfl rfl
   rw [hm y,htk,List.mem_append,List.mem_singleton]
   exact ⟨.inl,fun h => h.elim id fun h => by rw [h]; exact (hm _).1 hmem⟩
  ·rw [decide_eq_false hmem] at hsx
   refine zdB Tk Tryz.func191 rfl rfl rfl rfl (zfg (zqG O [(3,.box [.i (zcH (zbb n es)),ints kp,ints er,ints mk])] sn l x hsx (by omega)) rfl (show 28 < 61 by decide) rfl rfl ⟨_,_,_,_,_,rfl⟩ ?_) ?_
   ·exact zms O [(3,.box [.i (zcH (zbb n es)),ints kp,ints er,ints mk])] sn l x
   refine zac ?_
   refine ih (j + 1,sn.set x true,l ++ [(x:Int)]) _ _ ⟨h1,zit hl hfj hmem,zhe hsn (by omega),fun y => ?_⟩ (by simp only; omega) ⟨rfl,rfl,rfl,rfl,rfl,rfl,rfl,hj1,trivial⟩ rfl ⟨rfl,rfl,rfl,rfl,rfl,trivial⟩ rfl rfl
   rw [htk,List.mem_append,List.mem_append,hm y]
 ·have h1:fr.length ≤ j:=by simpa using g1
  rw [List.take_of_length_le h1] at hm
  have hclo:clo es (fun x => decide (x ∈ ev)) n fr = clo es (fun x => decide (x ∈ ev)) n l:=zeR hes (fun _ _ => rfl) fun x => (hm x).symm
  rw [hclo]
  have hlb:∀ x ∈ l,0 ≤ x ∧ x < (n:Int):=fun x hx => hl.b x hx
  have hres:clo es (fun x => decide (x ∈ ev)) n l = zbs (zhj es (fun x => decide (x ∈ ev)) n l):=by
   unfold clo
   exact (zed (ziX _ _ hl.nd) (zo8 hes hlb)).symm
  rw [hres]
  have hnd:=hl.nd
  clear hclo hres ih hm h1 g1 hfr
  unfold zhj
  generalize hK:rlB es (fun x => decide (x ∈ ev)) (l.length + n) 0 l = KK
  refine zac ?_
  refine zah (fun x:Nat × Nat × List Bool × List Int => [(2,ints ev),(3,.own 0 3 0 0),(7,.own 0 7 0 0),(8,.own 0 8 0 0),(9,.fn (.func 217) [] [.own 0 7 0 0,.own 0 8 0 0]),(12,ii x.1)])
   (fun x => [(7,.box [.osl 0 18]),(8,.box [.osl 0 61]),(18,zeV x.2.2.1),(61,zaw x.2.2.2),(3,.box [.i (zcH (zbb n es)),ints kp,ints er,ints mk])]) (fun _ => O) 61
   (fun x => x.1 ≤ x.2.2.2.length ∧ grOk n l x.2.2.2 ∧ (∀ y ∈ x.2.2.2,0 ≤ y ∧ y < (n:Int)) ∧ zhf n x.2.2.1 x.2.2.2 ∧ x.2.1 + x.1 = l.length + n ∧ rlB es (fun x => decide (x ∈ ev)) x.2.1 x.1 x.2.2.2 = KK) (fun x => x.2.1) (0,l.length + n,sn,l)
   ⟨Nat.zero_le _,zjm n l,hlb,hsn,rfl,hK⟩ ⟨rfl,rfl,rfl,rfl,rfl,rfl,trivial⟩ rfl ⟨rfl,rfl,rfl,rfl,rfl,trivial⟩ rfl rfl ?_
  clear hsn hK
  rintro ⟨i,f,sn,m⟩ ⟨hi,hg,hmb,hsn,hf,hno⟩ ih
  simp only at hi hg hmb hsn hf hno
  have hml:=(zim hg).2
  refine zae Tk Tryz.func191 ?_
  refine zai Tk Tryz.func191 rfl (fun g1 => ?_) (fun g1 => ?_)
  ·have h1:i < m.length:=by simpa using g1
   obtain ⟨f,rfl⟩:∃ f',f = f' + 1:=⟨f - 1,by omega⟩
   have hgi:m[i]? = some m[i]:=List.getElem?_eq_getElem h1
   have hsb:=hmb _ (List.getElem_mem h1)
   simp only [rlB,hgi] at hno
   generalize m[i] = s at *
   obtain ⟨s,rfl⟩:∃ x:Nat,s = x:=⟨s.toNat,by omega⟩
   have hsn':s < n:=by omega
   have gs:(m.map fun x => [vi x])[(i:Int).toNat]? = some [vi (s:Int)]:=by rw [Int.toNat_natCast,List.getElem?_map,hgi]; rfl
   have gr:((zbb n es).map fun r => [I.sl 3 r.length (r.map edgI)])[(s:Int).toNat]? = some [I.sl 3 (es.filter fun e => e.1 == (s:Int)).length ((es.filter fun e => e.1 == (s:Int)).map edgI)]:=by rw [Int.toNat_natCast,List.getElem?_map,zgb hsn']; rfl
   have hrb:∀ x ∈ es.filter (fun e => e.1 == (s:Int)),0 ≤ x.2.2 ∧ x.2.2 < (n:Int):=fun x hx => hes x (List.mem_filter.1 hx).1
   have hrs:∀ x ∈ es.filter (fun e => e.1 == (s:Int)),x.1 = (s:Int):=fun x hx => by simpa using (List.mem_filter.1 hx).2
   have hrl:(es.filter fun e => e.1 == (s:Int)).length ≤ 1000000:=Nat.le_trans (List.length_filter_le _ _) hed
   rw [← ze0] at hno
   generalize (es.filter fun e => e.1 == (s:Int)) = row at *
   refine zaD Tk Tryz.func191 zaN rfl ?_
   refine zaz Tk (by exact ⟨by omega,by show (i:Int) < (m.length:Int); omega⟩) ?_
   refine zaJ Tk (gs) ?_
   refine zaz Tk (by exact ⟨by omega,by show (s:Int) < ((zbb n es).length:Int); rw [zcx]; omega⟩) ?_
   refine zaJ Tk (gr) ?_
   refine zaS Tk Tryz.func191 (by kernel_rfl) ?_
   refine zac ?_
   refine zah (fun x:Nat × List Bool × List Int => [(2,ints ev),(3,.own 0 3 0 0),(7,.own 0 7 0 0),(8,.own 0 8 0 0),(9,.fn (.func 217) [] [.own 0 7 0 0,.own 0 8 0 0]),(12,ii i),(43,edgs row),(44,ii row.length),(45,ii x.1)])
    (fun x => [(7,.box [.osl 0 18]),(8,.box [.osl 0 61]),(18,zeV x.2.1),(61,zaw x.2.2),(3,.box [.i (zcH (zbb n es)),ints kp,ints er,ints mk])]) (fun _ => O) 61
    (fun x => x.1 ≤ row.length ∧ grOk n l x.2.2 ∧ (∀ y ∈ x.2.2,0 ≤ y ∧ y < (n:Int)) ∧ zhf n x.2.1 x.2.2 ∧ x.2.2[i]? = some (s:Int) ∧ rlB es (fun x => decide (x ∈ ev)) f (i + 1) (rvB (fun x => decide (x ∈ ev)) s (row.drop x.1) x.2.2) = KK) (fun x => row.length - x.1) (0,sn,m)
    ⟨Nat.zero_le _,hg,hmb,hsn,hgi,by simpa using hno⟩ ⟨rfl,rfl,rfl,rfl,rfl,rfl,rfl,rfl,rfl,trivial⟩ rfl ⟨rfl,rfl,rfl,rfl,rfl,trivial⟩ rfl rfl ?_
   clear hg hmb hsn hno hml hgi gs gr h1 hi
   rintro ⟨k,sn,m⟩ ⟨hk,hg,hmb,hsn,hgi,hno⟩ ih2
   simp only at hk hg hmb hsn hgi hno
   have hml:=(zim hg).2
   have him:i < m.length:=(List.getElem?_eq_some_iff.1 hgi).1
   have hk1:ii (IntKind.i64.wrap ((k:Int) + 1)) = ii ((k + 1:Nat):Int):=congrArg ii (zaB (n:=1000001) (by omega) (by decide))
   refine zae Tk Tryz.func191 ?_
   refine zai Tk Tryz.func191 rfl (fun g2 => ?_) (fun g2 => ?_)
   ·have h2:k < row.length:=by simpa using g2
    have ge:(row.map edgI)[(k:Int).toNat]? = some (edgI row[k]):=zaj h2
    have hte:=hrb _ (List.getElem_mem h2)
    rw [List.drop_eq_getElem_cons h2] at hno
    simp only [rvB] at hno
    have hef:row[k].1 = (s:Int):=hrs _ (List.getElem_mem h2)
    generalize row[k] = e at *
    obtain ⟨ef,ee,et⟩:=e
    simp only at hno hte hef
    subst hef
    obtain ⟨t,rfl⟩:∃ x:Nat,et = x:=⟨et.toNat,by omega⟩
    have hsx:=hsn.2 t (by omega)
    refine zag Tk Tryz.func191 (by exact ⟨by omega,by show (k:Int) < (row.length:Int); omega⟩) ?_
    refine zap Tk Tryz.func191 (ge) ?_
    refine zaf Tk Tryz.func191 (zbc _ ev ee hev) rfl rfl rfl rfl rfl ?_
    refine zai Tk Tryz.func191 rfl (fun c2 => ?_) (fun c2 => ?_)
    ·have c2:ee ∈ ev:=of_decide_eq_true c2
     refine zpR (ziI (l:=[(2,ints ev),(3,.own 0 3 0 0),(7,.own 0 7 0 0),(8,.own 0 8 0 0),(9,.fn (.func 217) [] [.own 0 7 0 0,.own 0 8 0 0]),(12,ii i),(43,edgs row),(44,ii row.length),(45,ii k),(53,.fn (.func 217) [] [.own 0 7 0 0,.own 0 8 0 0]),(55,ii t)])
      (Hv:=[(7,.box [.osl 0 18]),(8,.box [.osl 0 61]),(18,zeV sn),(61,zaw m),(3,.box [.i (zcH (zbb n es)),ints kp,ints er,ints mk])]) ⟨rfl,rfl,rfl,rfl,rfl,rfl,rfl,rfl,rfl,rfl,rfl,trivial⟩ rfl ⟨rfl,rfl,rfl,rfl,rfl,trivial⟩ rfl rfl) ?_
     by_cases hmem:(t:Int) ∈ m
     ·rw [decide_eq_true hmem] at hsx
      rw [if_neg (fun h => h.2.2 hmem)] at hno
      refine zko Tk Tryz.func191 rfl rfl (fun K ρ a w h => ⟨K,ρ,h⟩) ?_
      refine zaf Tk Tryz.func191 (zqF O _ sn m t hsx) rfl rfl rfl rfl rfl ?_
      refine zac ?_
      exact ih2 (k + 1,sn,m) _ _ ⟨h2,hg,hmb,hsn,hgi,hno⟩ (by simp only; omega) ⟨rfl,rfl,rfl,rfl,rfl,rfl,rfl,rfl,hk1,trivial⟩ rfl ⟨rfl,rfl,rfl,rfl,rfl,trivial⟩ rfl rfl
     ·rw [decide_eq_false hmem] at hsx
      rw [if_pos ⟨rfl,decide_eq_true c2,hmem⟩] at hno
      refine zdB Tk Tryz.func191 rfl rfl rfl rfl (zfg (zqG O [(3,.box [.i (zcH (zbb n es)),ints kp,ints er,ints mk])] sn m t hsx (by omega)) rfl (show 56 < 61 by decide) rfl rfl ⟨_,_,_,_,_,rfl⟩ (zms O [(3,.box [.i (zcH (zbb n es)),ints kp,ints er,ints mk])] sn m t)) ?_
      refine zac ?_
      refine ih2 (k + 1,sn.set t true,m ++ [(t:Int)]) _ _ ⟨h2,zl9 hg hte hmem,fun y hy => ?_,zhe hsn (by omega),by rw [List.getElem?_append_left him]; exact hgi,hno⟩ (by simp only; omega) ⟨rfl,rfl,rfl,rfl,rfl,rfl,rfl,rfl,hk1,trivial⟩ rfl ⟨rfl,rfl,rfl,rfl,rfl,trivial⟩ rfl rfl
      rcases List.mem_append.1 hy with hy | hy
      ·exact hmb y hy
      ·rw [List.mem_singleton] at hy; rw [hy]; exact hte
    ·have c2:ee ∉ ev:=of_decide_eq_false c2
     rw [if_neg (fun h => c2 (of_decide_eq_true h.2.1))] at hno
     refine zac ?_
     exact ih2 (k + 1,sn,m) _ _ ⟨h2,hg,hmb,hsn,hgi,hno⟩ (by simp only; omega) ⟨rfl,rfl,rfl,rfl,rfl,rfl,rfl,rfl,hk1,trivial⟩ rfl ⟨rfl,rfl,rfl,rfl,rfl,trivial⟩ rfl rfl
   ·have h2:row.length ≤ k:=by simpa using g2
    rw [List.drop_eq_nil_of_le h2] at hno
    simp only [rvB] at hno
    refine zac ?_
    exact ih (i + 1,f,sn,m) _ _ ⟨him,hg,hmb,hsn,by simp only; omega,hno⟩ (by simp only; omega) ⟨rfl,rfl,rfl,rfl,rfl,congrArg ii (zaB (n:=1010000) (by omega) (by decide)),trivial⟩ rfl ⟨rfl,rfl,rfl,rfl,rfl,trivial⟩ rfl rfl
  ·have h1:m.length ≤ i:=by simpa using g1
   rw [zlK h1] at hno
   subst hno
   refine zax ?_
   by_cases h0:m = []
   ·subst h0
    refine zao (zam 61 rfl rfl) ?_
    refine zae Tk Tryz.func191 ?_
    refine g_go Tk Tryz.func191 ?_
    refine zaf Tk Tryz.func191 (ztG _) rfl rfl rfl rfl rfl ?_
    refine zal Tk (r:=ints []) rfl rfl rfl trivial rfl rfl ?_
    simp [zbs]
   ·have hpos:0 < m.length:=List.length_pos_iff.2 h0
    refine zae Tk Tryz.func191 ?_
    refine g_go Tk Tryz.func191 ?_
    refine zaf Tk Tryz.func191 (zsK _ 0 61 m hpos (by omega) rfl) rfl rfl rfl (zbn (ob:=zaw m) rfl (by simp [Ob.sh,zfQ])) rfl ?_
    refine zcJ (zam 61 rfl rfl) ?_
    refine zal Tk (r:=ints (zbs m)) rfl rfl rfl trivial rfl rfl ?_
    rfl
end Go.AI


namespace Go.AI
open Go.Proofs
set_option maxRecDepth 20000
def tgtE (es:List Edg) (est:List Int) (ev:Int):List Int:=(es.filter fun e => e.2.1 == ev && decide (e.1 ∈ est)).map fun e => e.2.2
theorem zib {es:List Edg} {est:List Int} {ev x:Int}:x ∈ tgtE es est ev ↔ ∃ e ∈ es,e.1 ∈ est ∧ e.2.1 = ev ∧ e.2.2 = x:=by
 unfold tgtE
 simp only [List.mem_map,List.mem_filter,Bool.and_eq_true,beq_iff_eq,decide_eq_true_eq]
 exact ⟨fun ⟨e,⟨h1,h2,h3⟩,h4⟩ => ⟨e,h1,h3,h2,h4⟩,fun ⟨e,h1,h3,h2,h4⟩ => ⟨e,⟨h1,h2,h3⟩,h4⟩⟩
def nxt (es:List Edg) (p:Int → Bool) (n:Nat) (est:List Int) (ev:Int):List Int:=clo es p n (tgtE es est ev)
theorem ztY (O:List Heap) (es:List Edg) (n:Nat) (kp er mk est:List Int) (ev:Int) (hn:n ≤ 4096) (hes:∀ x ∈ es,0 ≤ x.2.2 ∧ x.2.2 < (n:Int)) (hed:es.length ≤ 1000000) (hest:∀ x ∈ est,0 ≤ x ∧ x < (n:Int)) (hel:est.length ≤ 4096) (her:er.length ≤ zas) :
  zan Tryz.prog 155 [.agg [.i (zcH (zbb n es)),ints kp,ints er,ints mk],ints est,ii ev] O (ints (nxt es (fun x => decide (x ∈ er)) n est ev)) [] O:=by
 refine zat [12] Tk Tryz.func155 rfl Tryz.call155 Tryz.ntmps155 (Nat.le_of_ble_eq_true rfl) fun E => ?_
 refine zae Tk Tryz.func155 ?_
 refine zac ?_
 refine zao (zb4 7 36 3 1 rfl rfl rfl) ?_
 refine zah (fun x:Nat × List Int => [(2,ii ev),(3,.own 0 3 0 0),(7,.osl 0 36),(12,ints est),(13,ii est.length),(14,ii x.1)])
  (fun x => [(3,.box [.i (zcH (zbb n es)),ints kp,ints er,ints mk]),(36,zaw x.2)]) (fun _ => O) 44
  (fun x => x.1 ≤ est.length ∧ x.2.length ≤ x.1 * 1000000 ∧ ∀ y,y ∈ x.2 ↔ ∃ e ∈ es,e.1 ∈ est.take x.1 ∧ e.2.1 = ev ∧ e.2.2 = y) (fun x => est.length - x.1) (0,[])
  ⟨Nat.zero_le _,by simp,by simp⟩ ⟨rfl,rfl,rfl,rfl,rfl,rfl,trivial⟩ rfl ⟨rfl,rfl,trivial⟩ rfl rfl ?_
 rintro ⟨j,l⟩ ⟨hj,hl,hm⟩ ih
 simp only at hj hl hm
 refine zae Tk Tryz.func155 ?_
 refine zai Tk Tryz.func155 rfl (fun g1 => ?_) (fun g1 => ?_)
 ·have h1:j < est.length:=by simpa using g1
  have gf:(est.map fun x => [vi x])[(j:Int).toNat]? = some [vi est[j]]:=zaj (f:=fun x => [vi x]) h1
  have hfj:=hest _ (List.getElem_mem h1)
  have htk:est.take (j + 1) = est.take j ++ [est[j]]:=by rw [List.take_add_one,List.getElem?_eq_getElem h1]; rfl
  generalize est[j] = y at *
  obtain ⟨s,rfl⟩:∃ x:Nat,y = x:=⟨y.toNat,by omega⟩
  have hsn':s < n:=by omega
  have gr:((zbb n es).map fun r => [I.sl 3 r.length (r.map edgI)])[(s:Int).toNat]? = some [I.sl 3 (es.filter fun e => e.1 == (s:Int)).length ((es.filter fun e => e.1 == (s:Int)).map edgI)]:=by rw [Int.toNat_natCast,List.getElem?_map,zgb hsn']; rfl
  have hrm:∀ x:Edg,x ∈ es.filter (fun e => e.1 == (s:Int)) ↔ x ∈ es ∧ x.1 = (s:Int):=fun x => by rw [List.mem_filter]; simp
  have hrl:(es.filter fun e => e.1 == (s:Int)).length ≤ 1000000:=Nat.le_trans (List.length_filter_le _ _) hed
  generalize (es.filter fun e => e.1 == (s:Int)) = row at *
  refine zag Tk Tryz.func155 (by exact ⟨by omega,by show (j:Int) < (est.length:Int); omega⟩) ?_
  refine zap Tk Tryz.func155 (gf) ?_
  refine zag Tk Tryz.func155 (by exact ⟨by omega,by show (s:Int) < ((zbb n es).length:Int); rw [zcx]; omega⟩) ?_
  refine zap Tk Tryz.func155 (gr) ?_
  refine zac ?_
  refine zah (fun x:Nat × List Int => [(2,ii ev),(3,.own 0 3 0 0),(7,.osl 0 36),(12,ints est),(13,ii est.length),(14,ii j),(22,edgs row),(23,ii row.length),(24,ii x.1)])
   (fun x => [(3,.box [.i (zcH (zbb n es)),ints kp,ints er,ints mk]),(36,zaw x.2)]) (fun _ => O) 44
   (fun x => x.1 ≤ row.length ∧ x.2.length ≤ j * 1000000 + x.1 ∧ ∀ y,y ∈ x.2 ↔ (∃ e ∈ es,e.1 ∈ est.take j ∧ e.2.1 = ev ∧ e.2.2 = y) ∨ ∃ e ∈ row.take x.1,e.2.1 = ev ∧ e.2.2 = y) (fun x => row.length - x.1) (0,l)
   ⟨Nat.zero_le _,Nat.le_trans hl (Nat.le_add_right _ _),by simpa using hm⟩ ⟨rfl,rfl,rfl,rfl,rfl,rfl,rfl,rfl,rfl,trivial⟩ rfl ⟨rfl,rfl,trivial⟩ rfl rfl ?_
  clear hl hm gr gf
  rintro ⟨k,m⟩ ⟨hk,hl,hm⟩ ih2
  simp only at hk hl hm
  have hk1:ii (IntKind.i64.wrap ((k:Int) + 1)) = ii ((k + 1:Nat):Int):=congrArg ii (zaB (n:=1000001) (by omega) (by decide))
  refine zae Tk Tryz.func155 ?_
  refine zai Tk Tryz.func155 rfl (fun g2 => ?_) (fun g2 => ?_)
  ·have h2:k < row.length:=by simpa using g2
   have ge:(row.map edgI)[(k:Int).toNat]? = some (edgI row[k]):=zaj h2
   have htk2:row.take (k + 1) = row.take k ++ [row[k]]:=by rw [List.take_add_one,List.getElem?_eq_getElem h2]; rfl
   generalize row[k] = e at *
   obtain ⟨ef,ee,et⟩:=e
   refine zag Tk Tryz.func155 (by exact ⟨by omega,by show (k:Int) < (row.length:Int); omega⟩) ?_
   refine zap Tk Tryz.func155 (ge) ?_
   refine zai Tk Tryz.func155 rfl (fun c2 => ?_) (fun c2 => ?_)
   ·have c2:ee = ev:=beqT c2
    refine zag Tk Tryz.func155 (by exact ⟨by show (m.length + 1) * 8 ≤ 140737488355328; omega,by show m.length + 1 ≤ 9223372036854775807; omega⟩) ?_
    refine zac ?_
    refine ih2 (k + 1,m ++ [et]) _ _ ⟨h2,by simp only [List.length_append,List.length_singleton]; omega,fun y => ?_⟩ (by simp only; omega) ⟨rfl,rfl,rfl,rfl,rfl,rfl,rfl,rfl,hk1,trivial⟩ rfl ⟨rfl,congrArg some (zaL m et),trivial⟩ rfl rfl
    simp only [htk2,List.mem_append,List.mem_singleton,hm y]
    constructor
    ·rintro ((h | ⟨e,h,h'⟩) | h)
     ·exact .inl h
     ·exact .inr ⟨e,.inl h,h'⟩
     ·exact .inr ⟨_,.inr rfl,c2,h.symm⟩
    ·rintro (h | ⟨e,h | h,h'⟩)
     ·exact .inl (.inl h)
     ·exact .inl (.inr ⟨e,h,h'⟩)
     ·subst h; exact .inr h'.2.symm
   ·have c2:ee ≠ ev:=beqF c2
    refine zac ?_
    refine ih2 (k + 1,m) _ _ ⟨h2,by simp only; omega,fun y => ?_⟩ (by simp only; omega) ⟨rfl,rfl,rfl,rfl,rfl,rfl,rfl,rfl,hk1,trivial⟩ rfl ⟨rfl,rfl,trivial⟩ rfl rfl
    simp only [htk2,List.mem_append,List.mem_singleton,hm y]
    constructor
    ·rintro (h | ⟨e,h,h'⟩)
     ·exact .inl h
     ·exact .inr ⟨e,.inl h,h'⟩
    ·rintro (h | ⟨e,h | h,h'⟩)
     ·exact .inl h
     ·exact .inr ⟨e,h,h'⟩
     ·subst h; exact absurd h'.1 c2
  ·have h2:row.length ≤ k:=by simpa using g2
   rw [List.take_of_length_le h2] at hm
   refine zac ?_
   refine ih (j + 1,m) _ _ ⟨h1,by simp only; omega,fun y => ?_⟩ (by simp only; omega) ⟨rfl,rfl,rfl,rfl,rfl,congrArg ii (zaB (n:=5000) (by omega) (by decide)),trivial⟩ rfl ⟨rfl,rfl,trivial⟩ rfl rfl
   simp only [hm y,htk,List.mem_append,List.mem_singleton]
   constructor
   ·rintro (⟨e,h,h',h3⟩ | ⟨e,h,h'⟩)
    ·exact ⟨e,h,.inl h',h3⟩
    ·exact ⟨e,((hrm e).1 h).1,.inr ((hrm e).1 h).2,h'⟩
   ·rintro ⟨e,h,h' | h',h3⟩
    ·exact .inl ⟨e,h,h',h3⟩
    ·exact .inr ⟨e,(hrm e).2 ⟨h,h'⟩,h3⟩
 ·have h1:est.length ≤ j:=by simpa using g1
  have hlj:l.length ≤ 1000000000000:=by have:=Nat.mul_le_mul_right 1000000 hj; omega
  rw [List.take_of_length_le h1] at hm
  have hlb:∀ x ∈ l,0 ≤ x ∧ x < (n:Int):=fun x hx => by
   obtain ⟨e,he,_,_,rfl⟩:=(hm x).1 hx
   exact hes e he
  have hR:nxt es (fun x => decide (x ∈ er)) n est ev = clo es (fun x => decide (x ∈ er)) n l:=zeR hes (fun _ _ => rfl) fun x => by rw [zib,hm x]
  rw [hR]
  refine zax ?_
  refine zao (zam 36 rfl rfl) ?_
  refine zae Tk Tryz.func155 ?_
  refine g_go Tk Tryz.func155 ?_
  refine zaf Tk Tryz.func155 (zlS _ es n kp er mk l er hn hes hed hlb hlj her) rfl rfl rfl rfl rfl ?_
  refine zal Tk (r:=ints (clo es (fun x => decide (x ∈ er)) n l)) rfl rfl rfl trivial rfl rfl ?_
  rfl
theorem zro (O:List Heap) (es:List Edg) (n:Nat) (kp er mk:List Int) (hn:n ≤ 4096) (hn0:0 < n) (hes:∀ x ∈ es,0 ≤ x.2.2 ∧ x.2.2 < (n:Int)) (hed:es.length ≤ 1000000) (her:er.length ≤ zas) :
  zan Tryz.prog 152 [.agg [.i (zcH (zbb n es)),ints kp,ints er,ints mk]] O (ints (clo es (fun x => decide (x ∈ er)) n [0])) [] O:=by
 refine zad Tk Tryz.func152 rfl Tryz.call152 Tryz.ntmps152 (Nat.le_of_ble_eq_true rfl) fun E => ?_
 refine zae Tk Tryz.func152 ?_
 refine zai Tk Tryz.func152 rfl (fun g1 => ?_) (fun g1 => ?_)
 ·have g1:((zbb n es).length:Int) = 0:=beqT g1
  rw [zcx] at g1
  omega
 refine zaf Tk Tryz.func152 (zlS _ es n kp er mk [0] er hn hes hed (by simp; omega) (by simp) her) rfl rfl rfl rfl rfl ?_
 refine zal Tk (r:=ints (clo es (fun x => decide (x ∈ er)) n [0])) rfl rfl rfl trivial rfl rfl ?_
 rfl
end Go.AI
