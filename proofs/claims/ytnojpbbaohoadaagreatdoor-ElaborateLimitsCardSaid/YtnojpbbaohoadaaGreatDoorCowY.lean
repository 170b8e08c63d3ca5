/- The layer of abstract runs, part 25. -/
import Derived.Test.YtnojpbbaohoadaaGreatDoorCowX
set_option linter.unusedSimpArgs false
set_option linter.unusedVariables false
set_option linter.all false

set_option maxHeartbeats 4000000
namespace Go.AI
open Go.Proofs
set_option maxRecDepth 20000
abbrev zh3 (l:List Edg):Ob:=.arr 129 3 l.length (l.map edgI) true
theorem zm4 (l:List Edg) (e:Edg):Ob.arr 129 3 (l.length + 1) (l.map edgI ++ [edgI e]) true = zh3 (l ++ [e]):=by simp
theorem zm1 (l:List Sta) (s:Sta):Ob.arr 68 2 (l.length + 1) (l.map staI ++ [staI s]) true = zoH (l ++ [s]):=by simp
abbrev keq (a b:Sta):Bool:=fkey a == fkey b
def unfX (m:Ext) (alpha:List Int) (first:Sta):Except Int (Unf Sta):=unfR keq true (stpR m) (fun s => decide (s.loc ∈ m.marked)) alpha first
def kidx:List Sta → Nat → List (Value × Int)
 | [],_ => []
 | s :: r,i => (.string (fkey s),(i:Int)) :: kidx r (i + 1)
theorem zie (b:ByteArray):∀ (l:List Sta) (i:Nat),zc0 (kidx l i) (.string b) = if l.findIdx (fun t => b == fkey t) < l.length then some (((i + l.findIdx fun t => b == fkey t:Nat):Int)) else none
 | [],i => by simp [kidx,zc0]
 | s :: r,i => by
  simp only [kidx,zc0,keyB,List.findIdx_cons]
  cases h:b == fkey s with
  | true => simp
  | false =>
   simp only [cond_false]
   rw [zie b r (i + 1)]
   have e:i + 1 + r.findIdx (fun t => b == fkey t) = i + (r.findIdx (fun t => b == fkey t) + 1):=by omega
   simp only [e,List.length_cons,Nat.add_lt_add_iff_right]
theorem zle {s:Sta}:∀ (l:List Sta) (i:Nat),¬ l.findIdx (keq s) < l.length → mset (kidx l i) (.string (fkey s)) ((i + l.length:Nat):Int) = kidx (l ++ [s]) i
 | [],i,_ => by simp [kidx,mset]
 | t :: r,i,h => by
  rw [List.findIdx_cons] at h
  cases hk:keq s t with
  | true => rw [hk] at h; simp at h
  | false =>
   rw [hk] at h
   simp only [cond_false,List.length_cons,Nat.add_lt_add_iff_right] at h
   have hk':(fkey s == fkey t) = false:=hk
   simp only [List.cons_append,kidx,mset,keyB,hk',cond_false]
   have e:i + (t :: r).length = (i + 1) + r.length:=by simp only [List.length_cons]; omega
   rw [e,zle r (i + 1) h]
theorem zss {m:Ext} {s:Sta} {ev:Int} (hr:extRight m) (h:okS m s) (hp:(stpR m s ev).2.1 = true):okS m (stpR m s ev).1:=by
 unfold stpR at hp ⊢
 split at hp
 ·cases hp
 rename_i h1
 rw [if_neg h1]
 split at hp
 ·cases hp
 rename_i h2
 rw [if_neg h2]
 exact zst hr h hp
theorem zoI {m:Ext} {s:Sta} (hr:extRight m) (h:okS m s):keyOkJ s:=by
 have:=zm3 hr h
 exact ⟨this.1,by omega,this.2.1⟩
theorem ziV {σ:Type} {eq:σ → σ → Bool} {lim:Bool} {step:σ → Int → σ × Bool × Int} {mkd:σ → Bool} {alpha:List Int} {U:Unf σ} {i:Nat} (h:U.sts.length ≤ i):∀ k,zeP eq lim step mkd alpha k i U = .ok U
 | 0 => rfl
 | k + 1 => by simp only [zeP,List.getElem?_eq_none h]
structure UGood (m:Ext) (U:Unf Sta):Prop where
 len:U.sts.length ≤ 4096
 ok:∀ s ∈ U.sts,okS m s
abbrev fnS (d nm:Nat):D:=.fn (.func 82) [] [.own d nm 0 0]
abbrev fnM (d nm:Nat):D:=.fn (.func 84) [] [.own d nm 0 0]
def unfD (alpha:List Int):Except Int (Unf Sta) → D
 | .error e => .tup [autD ⟨[],0,[],[]⟩,zhN [],ii e]
 | .ok U => .tup [autD ⟨alpha,U.sts.length,U.mkl,U.eds⟩,zhN U.sts,ii 0]
theorem ztK {e:Int}:CoD (.tup [.agg [.i (.v (.slice none 0 0)),ii 0,.i (.v (.slice none 0 0)),.i (.v (.slice none 0 0))],.i (.v (.slice none 0 0)),ii e]) (unfD [] (.error e)):=
 zcK (.cons (zcq (.cons (zc5 zbn) (.cons (CoD.refl _) (.cons (zc5 zbn) (.cons (zc5 zbn) .nil))))) (.cons (zc5 zbn) (CoDL.refl _)))
theorem zn7 {g:Nat} (hg:zdU g) {ty:TypeId} {fr:Nat × Nat} (O:List Heap) (m:Ext) (alpha:List Int) (first:Sta) (d nm:Nat) (ho:zab O d nm = some (.box (extC m))) (hok:extOk m) (hr:extRight m) (ha:alpha.length ≤ 4096) (hf:okS m first) :
  zbd g (ptab ty fr) Tryz.prog 85 [ints alpha,staD first,.fn (.func 80) [] [],fnS d nm,fnM d nm] O (unfD alpha (unfX m alpha first)) [] O:=by
 have hO:∀ H,zab (H :: O) (d + 1) nm = some (.box (extC m)):=fun H => zas ho
 have hno:unfX m alpha first = zeP keq true (stpR m) (fun s => decide (s.loc ∈ m.marked)) alpha (4097 - 0) 0 (unf0 first):=rfl
 generalize unfX m alpha first = R at *
 have hkf:=zoI hr hf
 refine zaJ [9,23] Tk Tryz.func85 rfl Tryz.call85 Tryz.ntmps85 (Nat.le_of_ble_eq_true rfl) fun E hE => ?_
 refine zai Tk Tryz.func85 ?_
 refine zbf Tk Tryz.func85 hE (zer hg _ first hkf) rfl rfl rfl rfl rfl rfl ?_
 refine zah ?_
 refine zaT (zrT 25 95 rfl rfl rfl) ?_
 refine zaT (za0 10 47 3 1 (pre:=[ints alpha,ii 0]) (post:=[.i (.v (.slice none 0 0))]) rfl rfl rfl) ?_
 refine zaT (za0 10 103 129 3 (pre:=[ints alpha,ii 0,.osl 0 47]) (post:=[]) rfl rfl rfl) ?_
 refine zak (fun x:Nat × Unf Sta => [(0,ints alpha),(2,.fn (.func 80) [] []),(3,fnS (d + 1) nm),(4,fnM (d + 1) nm),(10,.own 0 10 0 0),(11,.osl 0 95),(13,.osl 0 26),(14,ii x.1)])
  (fun x => [(10,.box [ints alpha,ii 0,.osl 0 47,.osl 0 103]),(95,zoH x.2.sts),(47,zbP x.2.mkl),(103,zh3 x.2.eds),(26,.mp .str (.i .i64 (kidx x.2.sts 0)))]) (fun _ => O) 111
  (fun x => x.1 ≤ x.2.sts.length ∧ UGood m x.2 ∧ x.2.mkl.length ≤ x.1 ∧ x.2.eds.length ≤ 4096 * x.1 ∧ R = zeP keq true (stpR m) (fun s => decide (s.loc ∈ m.marked)) alpha (4097 - x.1) x.1 x.2) (fun x => 4097 - x.1) (0,unf0 first)
  ⟨Nat.zero_le _,⟨by simp [unf0],fun s hs => by rw [unf0,List.mem_singleton] at hs; subst hs; exact hf⟩,Nat.le_refl _,Nat.le_refl _,hno⟩ ⟨rfl,rfl,rfl,rfl,rfl,rfl,rfl,rfl,trivial⟩ rfl ⟨rfl,rfl,rfl,rfl,rfl,trivial⟩ rfl rfl ?_
 clear hno
 rintro ⟨i,U⟩ ⟨hi,hgd,hml,hel,hno⟩ ih
 simp only at hi hgd hml hel hno
 refine zai Tk Tryz.func85 ?_
 refine zaf Tk Tryz.func85 rfl (fun g1 => ?_) (fun g1 => ?_)
 ·have h1:i < U.sts.length:=by simpa using g1
  clear g1
  have hle:=hgd.len
  have hsi:U.sts[i]? = some U.sts[i]:=List.getElem?_eq_getElem h1
  have gs:(U.sts.map staI)[(i:Int).toNat]? = some (staI U.sts[i]):=zam h1
  have hoks:=hgd.ok _ (List.getElem_mem h1)
  generalize U.sts[i] = s at *
  have hno:R = match zbh keq true (stpR m) i s alpha (zfc (fun s => decide (s.loc ∈ m.marked)) i s U) with
    | .error e => .error e
    | .ok U' => zeP keq true (stpR m) (fun s => decide (s.loc ∈ m.marked)) alpha (4097 - (i + 1)) (i + 1) U':=by
   rw [hno,show 4097 - i = (4097 - (i + 1)) + 1 by omega]
   simp only [zeP,hsi]
   cases zbh keq true (stpR m) i s alpha (zfc (fun s => decide (s.loc ∈ m.marked)) i s U) <;> rfl
  have hmk:=fun H => zm8 (H :: O) m s (d + 1) nm (hO H) hok
  obtain ⟨m1,m2⟩:=zhG (fun s:Sta => decide (s.loc ∈ m.marked)) i s U
  have hm3:(zfc (fun s:Sta => decide (s.loc ∈ m.marked)) i s U).mkl = if s.loc ∈ m.marked then U.mkl ++ [(i:Int)] else U.mkl:=by
   unfold zfc
   by_cases h:s.loc ∈ m.marked <;> simp [h]
  generalize zfc (fun s:Sta => decide (s.loc ∈ m.marked)) i s U = U1 at *
  obtain ⟨sts,mkl,eds⟩:=U
  obtain ⟨sts1,mkl1,eds1⟩:=U1
  simp only at *
  subst m1 m2
  obtain ⟨sl,sv⟩:=s
  simp only at *
  refine zaj Tk Tryz.func85 (by exact ⟨by omega,by show (i:Int) < (sts1.length:Int); omega⟩) ?_
  refine zao Tk Tryz.func85 (gs) ?_
  refine zag Tk Tryz.func85 (hmk _) rfl rfl rfl rfl rfl ?_
  apply zeH (P:=True) (s6:={ σ:=[(0,ints alpha),(2,.fn (.func 80) [] []),(3,fnS (d + 1) nm),(4,fnM (d + 1) nm),(10,.own 0 10 0 0),(11,.osl 0 95),(13,.osl 0 26),(14,ii i)],S:=[(10,.box [ints alpha,ii 0,.osl 0 47,.osl 0 103]),(95,zoH sts1),(47,zbP mkl1),(103,zh3 eds1),(26,.mp .str (.i .i64 (kidx sts1 0)))] :: O,n:=111 })
  ·intro J
   refine zaf Tk Tryz.func85 rfl (fun c1 => ?_) (fun c1 => ?_)
   ·have c1:sl ∈ m.marked:=of_decide_eq_true c1
    rw [if_pos c1] at hm3
    subst hm3
    refine zaj Tk Tryz.func85 (by exact ⟨by show (mkl.length + 1) * 8 ≤ 140737488355328; omega,by show mkl.length + 1 ≤ 9223372036854775807; omega⟩) ?_
    refine zaU ?_
    refine zbN (J trivial) ⟨rfl,rfl,rfl,rfl,rfl,rfl,rfl,rfl,trivial⟩ rfl ⟨rfl,rfl,congrArg some (zcu mkl (i:Int)),rfl,rfl,trivial⟩ rfl rfl
   ·have c1:sl ∉ m.marked:=of_decide_eq_false c1
    rw [if_neg c1] at hm3
    subst hm3
    refine zaU ?_
    refine zbN (J trivial) ⟨rfl,rfl,rfl,rfl,rfl,rfl,rfl,rfl,trivial⟩ rfl ⟨rfl,rfl,rfl,rfl,rfl,trivial⟩ rfl rfl
  intro _
  have hml1:mkl1.length ≤ i + 1:=by rw [hm3]; split; (rw [List.length_append,List.length_singleton]; omega); omega
  clear hm3 hml hmk gs
  have hV0:zbh keq true (stpR m) i ⟨sl,sv⟩ alpha ⟨sts1,mkl1,eds1⟩ = zbh keq true (stpR m) i ⟨sl,sv⟩ (alpha.drop 0) ⟨sts1,mkl1,eds1⟩:=rfl
  generalize zbh keq true (stpR m) i ⟨sl,sv⟩ alpha ⟨sts1,mkl1,eds1⟩ = V at *
  refine zai Tk Tryz.func85 ?_
  refine g_go Tk Tryz.func85 ?_
  refine zah ?_
  refine zak (fun x:Nat × Unf Sta => [(0,ints alpha),(2,.fn (.func 80) [] []),(3,fnS (d + 1) nm),(4,fnM (d + 1) nm),(10,.own 0 10 0 0),(11,.osl 0 95),(13,.osl 0 26),(14,ii i),(49,ints alpha),(50,ii alpha.length),(51,ii x.1)])
   (fun x => [(10,.box [ints alpha,ii 0,.osl 0 47,.osl 0 103]),(95,zoH x.2.sts),(47,zbP x.2.mkl),(103,zh3 x.2.eds),(26,.mp .str (.i .i64 (kidx x.2.sts 0)))]) (fun _ => O) 111
   (fun x => x.1 ≤ alpha.length ∧ UGood m x.2 ∧ i < x.2.sts.length ∧ x.2.mkl.length ≤ i + 1 ∧ x.2.eds.length ≤ 4096 * i + x.1 ∧ x.2.sts[i]? = some ⟨sl,sv⟩ ∧ V = zbh keq true (stpR m) i ⟨sl,sv⟩ (alpha.drop x.1) x.2) (fun x => alpha.length - x.1) (0,⟨sts1,mkl1,eds1⟩)
   ⟨Nat.zero_le _,⟨hgd.len,hgd.ok⟩,h1,hml1,hel,hsi,hV0⟩ ⟨rfl,rfl,rfl,rfl,rfl,rfl,rfl,rfl,rfl,rfl,rfl,trivial⟩ rfl ⟨rfl,rfl,rfl,rfl,rfl,trivial⟩ rfl rfl ?_
  clear hV0 hsi hml1 hel hgd hle
  rintro ⟨j,⟨sts,mk,eds⟩⟩ ⟨hj,hgd,hil,hml,hel,hsi,hV⟩ ih2
  simp only at hj hgd hil hml hel hsi hV
  have hle:sts.length ≤ 4096:=hgd.len
  refine zai Tk Tryz.func85 ?_
  refine zaf Tk Tryz.func85 rfl (fun g2 => ?_) (fun g2 => ?_)
  ·have h3:j < alpha.length:=by simpa using g2
   clear g2
   have ga:(alpha.map fun x => [vi x])[(j:Int).toNat]? = some [vi alpha[j]]:=zam (f:=fun x => [vi x]) h3
   have da:alpha.drop j = alpha[j] :: alpha.drop (j + 1):=List.drop_eq_getElem_cons h3
   rw [da] at hV
   simp only [zbh] at hV
   clear da
   generalize alpha[j] = ev at *
   have gs:(sts.map staI)[(i:Int).toNat]? = some (staI ⟨sl,sv⟩):=by simp [hsi]
   have hst:=fun H => zm7 (H :: O) m ⟨sl,sv⟩ ev (d + 1) nm (hO H) hok
   have hokn:=@zss m ⟨sl,sv⟩ ev hr hoks
   have hj1:ii (IntKind.i64.wrap ((j:Int) + 1)) = ii ((j + 1:Nat):Int):=congrArg ii (zay (n:=4096) (by omega) (by decide))
   unfold zeB at hV
   generalize stpR m ⟨sl,sv⟩ ev = N at *
   obtain ⟨⟨nl,nv⟩,np,ne⟩:=N
   simp only at hV hst hokn
   refine zaj Tk Tryz.func85 (by exact ⟨by omega,by show (j:Int) < (alpha.length:Int); omega⟩) ?_
   refine zao Tk Tryz.func85 (ga) ?_
   refine zaj Tk Tryz.func85 (by exact ⟨by omega,by show (i:Int) < (sts.length:Int); omega⟩) ?_
   refine zao Tk Tryz.func85 (gs) ?_
   refine zag Tk Tryz.func85 (hst _) rfl rfl rfl rfl rfl ?_
   refine zaf Tk Tryz.func85 rfl (fun c1 => ?_) (fun c1 => ?_)
   ·have c1:ne ≠ 0:=bneT c1
    rw [if_pos c1] at hV
    subst hV
    simp only at hno
    subst hno
    refine zav Tk (r:=_) rfl rfl rfl trivial rfl rfl ?_
    exact ztK
   have c1:ne = 0:=bneF c1
   rw [if_neg (by simpa using c1)] at hV
   refine zaf Tk Tryz.func85 rfl (fun c2 => ?_) (fun c2 => ?_)
   ·have c2:np = false:=notT c2
    rw [if_pos c2] at hV
    refine zah ?_
    exact ih2 (j + 1,⟨sts,mk,eds⟩) _ _ ⟨h3,hgd,hil,hml,by simp only; omega,hsi,hV⟩ (by simp only; omega) ⟨rfl,rfl,rfl,rfl,rfl,rfl,rfl,rfl,rfl,rfl,hj1,trivial⟩ rfl ⟨rfl,rfl,rfl,rfl,rfl,trivial⟩ rfl rfl
   have c2:np = true:=notF c2
   rw [if_neg (by rw [c2]; simp)] at hV
   have hon:=hokn c2
   have hkn:=zoI hr hon
   have hlk:=zie (fkey ⟨nl,nv⟩) sts 0
   have hks:=@zle ⟨nl,nv⟩ sts 0
   rw [Nat.zero_add] at hks
   rw [Nat.zero_add] at hlk
   have hix:sts.findIdx (keq ⟨nl,nv⟩) ≤ sts.length:=findIdx_le
   have hlk:zc0 (kidx sts 0) (.string (fkey ⟨nl,nv⟩)) = if sts.findIdx (keq ⟨nl,nv⟩) < sts.length then some ((sts.findIdx (keq ⟨nl,nv⟩):Nat):Int) else none:=hlk
   generalize sts.findIdx (keq ⟨nl,nv⟩) = t at *
   refine zbf Tk Tryz.func85 hE (zer hg _ ⟨nl,nv⟩ hkn) rfl rfl rfl rfl rfl rfl ?_
   generalize hst2:(if t < sts.length then sts else sts ++ [(⟨nl,nv⟩:Sta)]) = sts2
   apply zeH (P:=t < sts.length ∨ sts.length ≠ 4096) (s6:={ σ:=[(0,ints alpha),(2,.fn (.func 80) [] []),(3,fnS (d + 1) nm),(4,fnM (d + 1) nm),(10,.own 0 10 0 0),(11,.osl 0 95),(13,.osl 0 26),(14,ii i),(16,ii ev),(20,ii t),(49,ints alpha),(50,ii alpha.length),(51,ii j)],S:=[(10,.box [ints alpha,ii 0,.osl 0 47,.osl 0 103]),(95,zoH sts2),(47,zbP mk),(103,zh3 eds),(26,.mp .str (.i .i64 (kidx sts2 0)))] :: O,n:=111 })
   ·intro J
    refine zaf Tk Tryz.func85 rfl (fun c3 => ?_) (fun c3 => ?_)
    ·have c3:mhas (kidx sts 0) (.string (fkey ⟨nl,nv⟩)) = false:=notT c3
     have hlt:¬ t < sts.length:=fun h => by
      unfold mhas at c3
      rw [hlk,if_pos h] at c3
      cases c3
     have hte:t = sts.length:=by omega
     rw [if_neg hlt] at hst2 hV
     have hks:=hks hlt
     refine zaf Tk Tryz.func85 rfl (fun c4 => ?_) (fun c4 => ?_)
     ·have c4:((sts.length:Nat):Int) = 4096:=beqT c4
      have c4:sts.length = 4096:=by omega
      rw [if_pos ⟨trivial,c4⟩] at hV
      subst hV
      simp only at hno
      subst hno
      refine zav Tk (r:=_) rfl rfl rfl trivial rfl rfl ?_
      exact ztK
     have c4:((sts.length:Nat):Int) ≠ 4096:=beqF c4
     have c4:sts.length ≠ 4096:=by omega
     refine zbf Tk Tryz.func85 hE (zer hg _ ⟨nl,nv⟩ hkn) rfl rfl rfl rfl rfl rfl ?_
     refine zaj Tk Tryz.func85 (by exact ⟨by show (sts.length + 1) * 32 ≤ 140737488355328; omega,by show sts.length + 1 ≤ 9223372036854775807; omega⟩) ?_
     subst hst2
     refine zaU ?_
     refine zbN (J (.inr c4)) ⟨rfl,rfl,rfl,rfl,rfl,rfl,rfl,rfl,rfl,by rw [hte]; rfl,rfl,rfl,rfl,trivial⟩ rfl ⟨rfl,congrArg some (zm1 sts (⟨nl,nv⟩:Sta)),rfl,rfl,congrArg (fun l => some (Ob.mp .str (.i .i64 l))) hks,trivial⟩ rfl rfl
    ·have c3:mhas (kidx sts 0) (.string (fkey ⟨nl,nv⟩)) = true:=notF c3
     have hlt:t < sts.length:=Classical.byContradiction fun h => by
      unfold mhas at c3
      rw [hlk,if_neg h] at c3
      cases c3
     rw [if_pos hlt] at hst2 hlk
     subst hst2
     refine zaU ?_
     refine zbN (J (.inl hlt)) ⟨rfl,rfl,rfl,rfl,rfl,rfl,rfl,rfl,rfl,by show ii (zm6 (kidx sts 0) (.string (fkey ⟨nl,nv⟩))) = _; unfold zm6; rw [hlk]; rfl,rfl,rfl,rfl,trivial⟩ rfl ⟨rfl,rfl,rfl,rfl,rfl,trivial⟩ rfl rfl
   ·intro hP
    have hV:V = zbh keq true (stpR m) i ⟨sl,sv⟩ (alpha.drop (j + 1)) ⟨sts2,mk,eds ++ [((i:Int),ev,(t:Int))]⟩:=by
     rw [hV]
     by_cases hlt:t < sts.length
     ·rw [if_pos hlt] at hst2 ⊢
      subst hst2
      rfl
     ·rw [if_neg hlt] at hst2 ⊢
      rw [if_neg (by rintro ⟨_,h⟩; rcases hP with h' | h'; exact hlt h'; exact h' h)]
      subst hst2
      rfl
    have hg2:UGood m ⟨sts2,mk,eds ++ [((i:Int),ev,(t:Int))]⟩:=by
     by_cases hlt:t < sts.length
     ·rw [if_pos hlt] at hst2
      subst hst2
      exact ⟨hgd.len,hgd.ok⟩
     ·rw [if_neg hlt] at hst2
      subst hst2
      refine ⟨?_,fun x hx => ?_⟩
      ·show (sts ++ [(⟨nl,nv⟩:Sta)]).length ≤ 4096
       rw [List.length_append,List.length_singleton]
       rcases hP with h' | h'
       ·exact absurd h' hlt
       ·omega
      ·rcases List.mem_append.1 hx with hx | hx
       ·exact hgd.ok x hx
       ·rw [List.mem_singleton] at hx
        subst hx
        exact hon
    have hi2:i < sts2.length ∧ sts2[i]? = some ⟨sl,sv⟩:=by
     by_cases hlt:t < sts.length
     ·rw [if_pos hlt] at hst2
      subst hst2
      exact ⟨hil,hsi⟩
     ·rw [if_neg hlt] at hst2
      subst hst2
      refine ⟨by rw [List.length_append]; omega,?_⟩
      rw [List.getElem?_append_left hil]
      exact hsi
    have hi4:i < 4096:=by omega
    clear hst2 hst hlk hks hgd hil hsi
    refine zai Tk Tryz.func85 ?_
    refine g_go Tk Tryz.func85 ?_
    refine zaj Tk Tryz.func85 (by exact ⟨by show (eds.length + 1) * 24 ≤ 140737488355328; omega,by show eds.length + 1 ≤ 9223372036854775807; omega⟩) ?_
    refine zah ?_
    exact ih2 (j + 1,⟨sts2,mk,eds ++ [((i:Int),ev,(t:Int))]⟩) _ _ ⟨h3,hg2,hi2.1,hml,by simp only [List.length_append,List.length_singleton]; omega,hi2.2,hV⟩ (by simp only; omega) ⟨rfl,rfl,rfl,rfl,rfl,rfl,rfl,rfl,rfl,rfl,hj1,trivial⟩ rfl ⟨rfl,rfl,rfl,congrArg some (zm4 eds ((i:Int),ev,(t:Int))),rfl,trivial⟩ rfl rfl
  ·have h3:alpha.length ≤ j:=by simpa using g2
   rw [List.drop_eq_nil_of_le h3] at hV
   simp only [zbh] at hV
   subst hV
   simp only at hno
   have hja:j ≤ 4096:=by omega
   refine zah ?_
   exact ih (i + 1,⟨sts,mk,eds⟩) _ _ ⟨by simp only; omega,hgd,hml,by simp only; omega,hno⟩ (by simp only; omega) ⟨rfl,rfl,rfl,rfl,rfl,rfl,rfl,congrArg ii (zay (n:=4096) (by omega) (by decide)),trivial⟩ rfl ⟨rfl,rfl,rfl,rfl,rfl,trivial⟩ rfl rfl
 ·have h1:U.sts.length ≤ i:=by simpa using g1
  rw [ziV h1] at hno
  subst hno
  obtain ⟨sts,mk,eds⟩:=U
  refine zbb (zau 95 rfl rfl) ?_
  refine zbb (zau 47 rfl rfl) ?_
  refine zbb (zau 103 rfl rfl) ?_
  refine zbb (zb2 rfl) ?_
  refine zad Tk (r:=unfD alpha (.ok ⟨sts,mk,eds⟩)) rfl rfl rfl trivial rfl rfl ?_
  rfl
end Go.AI


namespace Go.AI
open Go.Proofs
set_option maxRecDepth 20000
def zb3 (m:Ext):Except Int (Unf Sta):=if chk m ≠ 0 then .error (chk m) else unfX m m.alpha (zcR m)
theorem zrS {g:Nat} (hg:zdU g) {ty:TypeId} {fr:Nat × Nat} (O:List Heap) (m:Ext) (hok:extOk m):zbd g (ptab ty fr) Tryz.prog 32 [extD m] O (unfD m.alpha (zb3 m)) [] O:=by
 have hb:=fun O => ztS O m hok
 unfold zpM at hb
 unfold zb3
 by_cases h1:chk m ≠ 0
 ·simp only [if_pos h1] at hb ⊢
  refine zaJ [] Tk Tryz.func32 rfl Tryz.call32 Tryz.ntmps32 (Nat.le_of_ble_eq_true rfl) fun E hE => ?_
  refine zai Tk Tryz.func32 ?_
  refine zag Tk Tryz.func32 (hb _) rfl rfl rfl rfl rfl ?_
  refine zaf Tk Tryz.func32 rfl (fun h2 => ?_) (fun h2 => ?_)
  rotate_left
  ·exact absurd (bneF h2) h1
  refine zav Tk (r:=_) rfl rfl rfl trivial rfl rfl ?_
  exact ztK
 ·have h1:chk m = 0:=Classical.byContradiction h1
  have hr:=zf0 h1
  have hal:=zeg (by decide) hr.alpha
  simp only [h1,ne_eq,not_true_eq_false,if_false] at hb ⊢
  have hcl:=fun O => zlv O m.alpha (by simp only [big]; omega)
  have hun:=fun O ho => zn7 hg (ty:=ty) (fr:=fr) O m m.alpha (zcR m) 0 1 ho hok hr (by omega) (zqJ hr)
  generalize unfX m m.alpha (zcR m) = R at *
  generalize zcR m = st at *
  obtain ⟨sl,sv⟩:=st
  cases R with
  | error e =>
   refine zaJ [] Tk Tryz.func32 rfl Tryz.call32 Tryz.ntmps32 (Nat.le_of_ble_eq_true rfl) fun E hE => ?_
   refine zai Tk Tryz.func32 ?_
   refine zag Tk Tryz.func32 (hb _) rfl rfl rfl rfl rfl ?_
   refine gcF Tk Tryz.func32 rfl ?_
   refine zaA Tk Tryz.func32 zaK rfl ?_
   refine zaY Tk (fun _ => hcl _) rfl rfl rfl ?_
   refine zfn Tk hE (hun _ rfl) rfl rfl rfl rfl ?_
   refine zhS Tk rfl rfl rfl ?_
   refine zaG Tk Tryz.func32 (by kernel_rfl) ?_
   refine zav Tk (r:=_) rfl rfl rfl trivial rfl rfl ?_
   exact CoD.refl _
  | ok U =>
   obtain ⟨us,um,ue⟩:=U
   refine zaJ [] Tk Tryz.func32 rfl Tryz.call32 Tryz.ntmps32 (Nat.le_of_ble_eq_true rfl) fun E hE => ?_
   refine zai Tk Tryz.func32 ?_
   refine zag Tk Tryz.func32 (hb _) rfl rfl rfl rfl rfl ?_
   refine gcF Tk Tryz.func32 rfl ?_
   refine zaA Tk Tryz.func32 zaK rfl ?_
   refine zaY Tk (fun _ => hcl _) rfl rfl rfl ?_
   refine zfn Tk hE (hun _ rfl) rfl rfl rfl rfl ?_
   refine zhS Tk rfl rfl rfl ?_
   refine zaG Tk Tryz.func32 (by kernel_rfl) ?_
   refine zav Tk (r:=_) rfl rfl rfl trivial rfl rfl ?_
   exact CoD.refl _
end Go.AI


namespace Go.AI
def nmIx (l:List ByteArray) (s:ByteArray):Int:=zan (fun x => sB x s) l 0
def fndI (l:List ByteArray) (s:ByteArray):Int:=if nmIx l s < 0 then 0 else nmIx l s
def zdp (x:Mv):List Mv → List Mv
 | [] => [x]
 | y :: r => if x.frm < y.frm ∨ x.frm = y.frm ∧ x.ev < y.ev then x :: y :: r else y :: zdp x r
def zcS (l:List Mv):List Mv:=l.foldl (fun acc x => zdp x acc) []
def insZ (x:Int):List Int → List Int
 | [] => [x]
 | y :: r => if x < y then x :: y :: r else y :: insZ x r
def srtZ:List Int → List Int
 | [] => []
 | x :: r => insZ x (srtZ r)
theorem zfJ (x:Int):∀ l,(insZ x l).Perm (x :: l)
 | [] => .refl _
 | y :: r => by
  unfold insZ
  by_cases h:x < y
  ·rw [if_pos h]
  ·rw [if_neg h]
   exact ((zfJ x r).cons y).trans (.swap x y r)
theorem zff:∀ l,(srtZ l).Perm l
 | [] => .refl _
 | x :: r => (zfJ x (srtZ r)).trans ((zff r).cons x)
theorem zo3 {x:Int}:∀ {l:List Int},l.Pairwise (· ≤ ·) → (insZ x l).Pairwise (· ≤ ·)
 | [],_ => List.pairwise_singleton _ _
 | y :: r,h => by
  obtain ⟨h1,h2⟩:=List.pairwise_cons.1 h
  unfold insZ
  by_cases c:x < y
  ·rw [if_pos c]
   refine List.pairwise_cons.2 ⟨fun z hz => ?_,h⟩
   rcases List.mem_cons.1 hz with rfl | hz
   ·omega
   ·have:=h1 z hz; omega
  ·rw [if_neg c]
   refine List.pairwise_cons.2 ⟨fun z hz => ?_,zo3 h2⟩
   rcases List.mem_cons.1 ((zfJ x r).mem_iff.1 hz) with rfl | hz
   ·omega
   ·exact h1 z hz
theorem zoh:∀ l,(srtZ l).Pairwise (· ≤ ·)
 | [] => .nil
 | x :: r => zo3 (zoh r)
theorem zsw (l:List Int):srtZ l = zcB l:=by
 refine List.Perm.eq_of_pairwise (le:=(· ≤ ·)) (fun a b _ _ h1 h2 => by omega) (zoh l) (zqK l) ?_
 exact (zff l).trans (List.mergeSort_perm l _).symm
def mchE (m:Mdl) (x:Ins) (t:Tpl):Ext:=
 let evs:=x.evs.map fun s => fndI (m.evs.map (·.name)) s
 { alpha:=srtZ evs,locs:=t.mach.locs,init:=t.mach.init,marked:=t.mach.marked,vars:=t.mach.vars,moves:=zcS (t.mach.moves.map fun y => { y with ev:=evs.getD y.ev.toNat 0 }) }
def zExt:Ext:=⟨[],0,0,[],[],[]⟩
def mchR (m:Mdl) (x:Ins):Ext:=match zcN m x with
 | none => zExt
 | some t => mchE m x t
structure Itm where
 name:ByteArray
 aut:Aut
abbrev itmI (x:Itm):List I:=[strI x.name,zcO x.aut.alpha,vi x.aut.states,zcO x.aut.marked,.sl 3 x.aut.edges.length (x.aut.edges.map edgI)]
abbrev Loc2:=Int × Int
structure XEx where
 name:ByteArray
 locals:List Loc2
abbrev zbB (x:Loc2):List I:=[vi x.1,vi x.2]
abbrev xexI (x:XEx):List I:=[strI x.name,.sl 2 x.locals.length (x.locals.map zbB)]
structure XCn where
 name:ByteArray
 terms:List Loc2
 bound:Int
abbrev xcnI (x:XCn):List I:=[strI x.name,.sl 2 x.terms.length (x.terms.map zbB),vi x.bound]
structure Cel where
 evs:List Evt
 comps:List Itm
 reqs:List Itm
 excs:List XEx
 cons:List XCn
abbrev celC (c:Cel):List D:=[.i (zce c.evs),.i (.sl 5 c.comps.length (c.comps.map itmI)),.i (.sl 5 c.reqs.length (c.reqs.map itmI)),.i (.sl 2 c.excs.length (c.excs.map xexI)),.i (.sl 3 c.cons.length (c.cons.map xcnI))]
abbrev celD (c:Cel):D:=.agg (celC c)
def zCel:Cel:=⟨[],[],[],[],[]⟩
def zfG (m:Mdl):List Ins → Nat → Except (Nat × Int) (List Itm × List (List Sta))
 | [],_ => .ok ([],[])
 | x :: r,i => match zb3 (mchR m x) with
  | .error e => .error (i,e)
  | .ok U => match zfG m r (i + 1) with
   | .error e => .error e
   | .ok (a,o) => .ok (⟨x.name,⟨(mchR m x).alpha,U.sts.length,U.mkl,U.eds⟩⟩ :: a,U.sts :: o)
def stAt (loc:Int):List Sta → Nat → List Int
 | [],_ => []
 | s :: r,i => if s.loc = loc then (i:Int) :: stAt loc r (i + 1) else stAt loc r (i + 1)
abbrev Chc:=Int × List Int
def chcR (m:Mdl) (origins:List (List Sta)) (x:NLc):Chc:=
 let c:=fndI (m.comps.map (·.name)) x.1
 let t:=match m.comps[c.toNat]? with
  | none => none
  | some y => zcN m y
 let loc:=match t with
  | none => -1
  | some t => nmIx t.locs x.2
 (c,stAt loc (origins.getD c.toNat []) 0)
def zdL (x:Chc):List Chc → List Chc
 | [] => [x]
 | y :: r => if x.1 < y.1 then x :: y :: r else y :: zdL x r
def zdy (l:List Chc):List Chc:=l.foldl (fun acc x => zdL x acc) []
def chsR:List Chc → List (List Loc2) → List (List Loc2)
 | [],all => all
 | y :: r,all => chsR r (all.flatMap fun b => y.2.map fun s => b ++ [(y.1,s)])
def chsN:List Chc → Int → Int
 | [],n => n
 | y :: r,n => chsN r (if n * (y.2.length:Int) < 1048576 then n * (y.2.length:Int) else 1048576)
def numX (name:ByteArray):List (List Loc2) → Nat → List XEx
 | [],_ => []
 | l :: r,i => ⟨name ++ ⟨#[95]⟩ ++ zd6 i,l⟩ :: numX name r (i + 1)
def expX (m:Mdl) (origins:List (List Sta)) (x:NEx) (most:Int):List XEx × Int:=
 let l:=x.locals.map (chcR m origins)
 if l.any (fun y => y.2.isEmpty) = true then ([],0) else if chsN l 1 > most then ([],3) else
 match chsR (zdy l) [[]] with
 | [one] => ([⟨x.name,one⟩],0)
 | all => (numX x.name all 0,0)
def dupX:List ByteArray → List XEx → Except Unit (List ByteArray)
 | seen,[] => .ok seen
 | seen,y :: r => if hasB seen y.name = true then .error () else dupX (seen ++ [y.name]) r
def zeR (m:Mdl) (origins:List (List Sta)):List NEx → Nat → List ByteArray → List XEx → Except (Nat × Int) (List XEx)
 | [],_,_,out => .ok out
 | x :: r,i,seen,out =>
  if (expX m origins x (32 - (out.length:Int))).2 ≠ 0 then .error (i,(expX m origins x (32 - (out.length:Int))).2)
  else if (expX m origins x (32 - (out.length:Int))).1.any (fun y => decide (y.name.size > 32)) = true then .error (i,7)
  else match dupX seen (expX m origins x (32 - (out.length:Int))).1 with
   | .error _ => .error (i,8)
   | .ok seen' => zeR m origins r (i + 1) seen' (out ++ (expX m origins x (32 - (out.length:Int))).1)
def zes (x:Loc2):List Loc2 → List Loc2
 | [] => [x]
 | y :: r => if x.1 < y.1 then x :: y :: r else y :: zes x r
def zhu (m:Mdl) (x:NCn):XCn:=⟨x.name,(x.terms.map fun t => (fndI (m.comps.map (·.name)) t.1,t.2)).foldl (fun acc x => zes x acc) [],x.bound⟩
def celR (m:Mdl):Cel × Plc × Int:=
 if (mdlE m).2 ≠ 0 then (zCel,mdlE m) else
 match zfG m m.comps 0 with
 | .error (i,e) => (zCel,(3,(i:Int)),e)
 | .ok (a,origins) => match zfG m m.reqs 0 with
  | .error (i,e) => (zCel,(4,(i:Int)),e)
  | .ok (b,_) => match zeR m origins m.excs 0 [] [] with
   | .error (i,e) => (zCel,(5,(i:Int)),e)
   | .ok out => (⟨m.evs,a,b,out,m.cons.map (zhu m)⟩,(0,0),0)
end Go.AI


namespace Go.AI
open Go.Proofs
set_option maxRecDepth 20000
abbrev mvDc (m:Mv):D:=.agg [ii m.frm,ii m.ev,ii m.to,ii m.g.op,ii m.g.vl,ii m.g.ix,exs m.g.args,upds m.us]
abbrev zcE (l:List Mv):Ob:=.arr 187 8 l.length (l.map mvI) true
def zpB (x y:Mv):Int:=if cmpI x.frm y.frm ≠ 0 then cmpI x.frm y.frm else cmpI x.ev y.ev
abbrev ltMv (x y:Mv):Prop:=x.frm < y.frm ∨ x.frm = y.frm ∧ x.ev < y.ev
theorem zrH {x y:Mv}:zpB x y < 0 ↔ ltMv x y:=by
 unfold zpB cmpI ltMv
 by_cases h1:x.frm < y.frm
 ·rw [if_pos h1,if_pos (by decide)]; simp [h1]
 rw [if_neg h1]
 by_cases h2:x.frm > y.frm
 ·rw [if_pos h2,if_pos (by decide)]
  constructor
  ·intro h; omega
  ·intro h; omega
 rw [if_neg h2,if_neg (by decide)]
 by_cases h3:x.ev < y.ev
 ·rw [if_pos h3]; constructor
  ·intro _; exact .inr ⟨by omega,h3⟩
  ·intro _; decide
 rw [if_neg h3]
 by_cases h4:x.ev > y.ev
 ·rw [if_pos h4]; constructor
  ·intro h; omega
  ·intro h; omega
 ·rw [if_neg h4]; constructor
  ·intro h; omega
  ·intro h; omega
abbrev SrtM (l:List Mv):Prop:=l.Pairwise fun x y => ¬ ltMv y x
theorem zdJ {x:Mv}:∀ {P S:List Mv},(∀ p ∈ P,¬ ltMv x p) → (∀ s ∈ S,ltMv x s) → zdp x (P ++ S) = P ++ x :: S
 | [],[],_,_ => rfl
 | [],s :: r,_,h => by
  have:=h s (by simp)
  simp only [List.nil_append,zdp]
  rw [if_pos this]
 | p :: P,S,h,h2 => by
  have:=h p (by simp)
  simp only [List.cons_append,zdp]
  rw [if_neg this,zdJ (fun q hq => h q (by simp [hq])) h2]
theorem zgo {x:Mv} {P S:List Mv} (h:SrtM (P ++ S)) (hp:∀ p ∈ P,¬ ltMv x p) (hs:∀ s ∈ S,ltMv x s):SrtM (P ++ x :: S):=by
 obtain ⟨h1,h2,h3⟩:=List.pairwise_append.1 h
 refine List.pairwise_append.2 ⟨h1,List.pairwise_cons.2 ⟨fun s hs' => ?_,h2⟩,fun a ha b hb => ?_⟩
 ·have:=hs s hs'
  unfold ltMv at *
  omega
 ·rcases List.mem_cons.1 hb with rfl | hb
  ·exact hp a ha
  ·exact h3 a ha b hb
theorem zoc:∀ (P:List Mv) (p x:Mv) (T:List Mv),(((P ++ p :: x :: T).map mvI).set (P.length + 1) (mvI p)).set P.length (mvI x) = (P ++ x :: p :: T).map mvI
 | [],p,x,T => rfl
 | q :: P,p,x,T => by
  have:=zoc P p x T
  simp only [List.cons_append,List.map_cons,List.length_cons,List.set_cons_succ,this]
theorem zuV (P:List Mv):P = [] ∨ ∃ Q p,P = Q ++ [p]:=by
 by_cases h:P = []
 ·exact .inl h
 ·exact .inr ⟨P.dropLast,P.getLast h,(List.dropLast_concat_getLast h).symm⟩
theorem zmI (A:List Mv) (x:Mv):zcS (A ++ [x]) = zdp x (zcS A):=by simp [zcS,List.foldl_append]
theorem ztq (O:List Heap) (x y:Mv):zal Tryz.prog 136 [mvDc x,mvDc y] O (ii (zpB x y)) [] O:=by
 have h1:=fun O => zlu O x.frm y.frm
 have h2:=fun O => zlu O x.ev y.ev
 have h3:=fun O => zuU O (cmpI x.frm y.frm) (cmpI x.ev y.ev)
 unfold zpB
 generalize cmpI x.frm y.frm = a at *
 generalize cmpI x.ev y.ev = b at *
 refine zaa Tk Tryz.func136 rfl Tryz.call136 Tryz.ntmps136 (Nat.le_of_ble_eq_true rfl) fun E => ?_
 refine zai Tk Tryz.func136 ?_
 refine zaA Tk Tryz.func136 zaK rfl ?_
 refine zaY Tk (fun _ => h1 _) rfl rfl rfl ?_
 refine zaY Tk (fun _ => h2 _) rfl rfl rfl ?_
 refine zaY Tk (fun _ => h3 _) rfl rfl rfl ?_
 refine zaG Tk Tryz.func136 (by kernel_rfl) ?_
 refine zad Tk (r:=ii (if a ≠ 0 then a else b)) rfl rfl rfl trivial rfl rfl ?_
 rfl
abbrev zpc:D:=.fn (.func 136) [] []
theorem mget {A:List Mv} {x:Mv} {T:List Mv} {k:Nat} (hk:k = A.length):((A ++ x :: T).map mvI)[((k:Nat):Int).toNat]? = some (mvI x):=by
 subst hk
 simp
set_option maxHeartbeats 8000000 in
theorem zuz (O:List Heap) (d nm:Nat) (l:List Mv) (hl:l.length ≤ 1000) (ho:zab O d nm = some (zcE l)):zal Tryz.prog 228 [.osl d nm,ii 0,ii l.length,zpc] O (.tup []) [] (setAt O d nm (zcE (zcS l))):=by
 have hc:=fun O x y => ztq O x y
 cases l with
 | nil =>
  refine zaa Tk Tryz.func228 rfl Tryz.call228 Tryz.ntmps228 (Nat.le_of_ble_eq_true rfl) fun E => ?_
  refine zai Tk Tryz.func228 ?_
  refine zah ?_
  refine zai Tk Tryz.func228 ?_
  refine gcF Tk Tryz.func228 rfl ?_
  refine zbb (wk_S (S':=_ :: setAt O d nm (zcE [])) (zaV (za8 ho))) ?_
  refine zad Tk (r:=.tup []) rfl rfl rfl trivial rfl rfl ?_
  rfl
 | cons z r =>
 generalize hL:z :: r = l at *
 have hpos:1 ≤ l.length:=by rw [← hL]; simp
 refine zaa Tk Tryz.func228 rfl Tryz.call228 Tryz.ntmps228 (Nat.le_of_ble_eq_true rfl) fun E => ?_
 refine zai Tk Tryz.func228 ?_
 refine g_wk (wk_S (S':=_ :: setAt O d nm (zcE ([z] ++ r))) (zaV (za8 (by rw [ho,← hL]; rfl)))) ?_
 refine zah ?_
 refine zak (fun x:List Mv × List Mv => [(0,.osl (d + 1) nm),(1,ii 0),(2,ii l.length),(3,zpc),(8,ii x.1.length)]) (fun _ => []) (fun x => setAt O d nm (zcE (x.1 ++ x.2))) 53
  (fun x => SrtM x.1 ∧ (∃ T,T ++ x.2 = l ∧ zcS T = x.1) ∧ x.1.length + x.2.length = l.length) (fun x => x.2.length) ([z],r) ⟨List.pairwise_singleton _ _,⟨[z],hL,rfl⟩,by rw [← hL]; simp; omega⟩ ⟨rfl,rfl,rfl,rfl,rfl,trivial⟩ rfl trivial rfl rfl ?_
 rintro ⟨A,R⟩ ⟨hA,hp,hlen⟩ ih
 simp only at hA hp hlen
 refine zai Tk Tryz.func228 ?_
 refine zaf Tk Tryz.func228 rfl (fun g1 => ?_) (fun g1 => ?_)
 ·have g1:A.length < l.length:=by simpa using g1
  obtain ⟨x,R',rfl⟩:∃ x R',R = x :: R':=by
   cases R with
   | nil => simp at hlen; omega
   | cons x R' => exact ⟨x,R',rfl⟩
  obtain ⟨T,hT,hTA⟩:=hp
  have hTn:(T ++ [x]) ++ R' = l:=by rw [← hT]; simp
  have hTs:zcS (T ++ [x]) = zdp x A:=by rw [zmI,hTA]
  rw [List.length_cons] at hlen
  refine zah ?_
  refine zak (fun y:List Mv × List Mv => [(0,.osl (d + 1) nm),(1,ii 0),(2,ii l.length),(3,zpc),(8,ii A.length),(9,ii y.1.length)]) (fun _ => []) (fun y => setAt O d nm (zcE (y.1 ++ x :: (y.2 ++ R')))) 53
   (fun y => (∀ s ∈ y.2,ltMv x s) ∧ y.1 ++ y.2 = A) (fun y => y.1.length) (A,[]) ⟨by simp,by simp⟩ ⟨rfl,rfl,rfl,rfl,rfl,rfl,trivial⟩ rfl trivial rfl rfl ?_
  rintro ⟨P,S⟩ ⟨hS,hA2⟩ ih2
  simp only at hS hA2
  rcases zuV P with rfl | ⟨Q,p,rfl⟩
  ·rw [List.nil_append] at hA2
   subst hA2
   have hi1:ii (IntKind.i64.wrap ((S.length:Int) + 1)) = ii ((x :: S:List Mv).length:Int):=congrArg ii (zay (n:=1000001) (by omega) (by decide))
   refine zai Tk Tryz.func228 ?_
   refine zaA Tk Tryz.func228 zaK rfl ?_
   refine zb5 Tk (fun h => absurd h (by simp)) (fun _ => ?_)
   refine zaG Tk Tryz.func228 (by kernel_rfl) ?_
   refine zaf Tk Tryz.func228 rfl (fun h => absurd h (by simp)) (fun _ => ?_)
   refine zah ?_
   have e1:zdp x S = x :: S:=zdJ (P:=[]) (by simp) hS
   refine ih (x :: S,R') _ _ ⟨zgo (P:=[]) hA (by simp) hS,⟨T ++ [x],hTn,hTs.trans e1⟩,by simp only [List.length_cons]; omega⟩ (by simp) ⟨rfl,rfl,rfl,rfl,hi1,trivial⟩ rfl trivial rfl rfl
  ·have e1:(Q ++ [p]) ++ x :: (S ++ R') = Q ++ p :: x :: (S ++ R'):=by simp
   have e2:((Q ++ [p]).length:Int) = ((Q.length + 1:Nat):Int):=by simp
   have hQA:Q.length + 1 + S.length = A.length:=by rw [← hA2]; simp; omega
   have w1:IntKind.i64.wrap (((Q.length + 1:Nat):Int) - 1) = (Q.length:Int):=by rw [w64 (by omega) (by omega)]; omega
   have gx:((Q ++ p :: x :: (S ++ R')).map mvI)[(((Q.length + 1:Nat):Int)).toNat]? = some (mvI x):=by
    have:=mget (A:=Q ++ [p]) (x:=x) (T:=S ++ R') (k:=Q.length + 1) (by simp)
    rwa [e1] at this
   have gp:((Q ++ p :: x :: (S ++ R')).map mvI)[(IntKind.i64.wrap (((Q.length + 1:Nat):Int) - 1)).toNat]? = some (mvI p):=by rw [w1]; exact mget rfl
   have hlt:=zrH (x:=x) (y:=p)
   have hcc:=fun O => hc O x p
   rw [e2,e1]
   have hll:(Q ++ p :: x :: (S ++ R')).length = l.length:=by simp; omega
   generalize zpB x p = cw at *
   obtain ⟨xf,xe,xt,⟨xo,xv,xi,xa⟩,xu⟩:=x
   obtain ⟨pf,pe,pt,⟨po,pv,pi,pa⟩,pu⟩:=p
   generalize hxx:(⟨xf,xe,xt,⟨xo,xv,xi,xa⟩,xu⟩:Mv) = x at *
   generalize hpp:(⟨pf,pe,pt,⟨po,pv,pi,pa⟩,pu⟩:Mv) = p at *
   refine zai Tk Tryz.func228 ?_
   refine zaA Tk Tryz.func228 zaK rfl ?_
   refine zb5 Tk (fun _ => ?_) (fun h => absurd h (by simp))
   refine zbE Tk (zas (H:=([]:Heap)) (zae ho)) ?_
   refine zaE Tk (by exact ⟨by omega,by show ((Q.length + 1:Nat):Int) < ((Q ++ p :: x :: (S ++ R')).length:Int); rw [hll]; omega⟩) ?_
   refine zbE Tk (zas (H:=([]:Heap)) (zae ho)) ?_
   refine zaN Tk (gx) ?_
   refine zbE Tk (zas (H:=([]:Heap)) (zae ho)) ?_
   refine zaE Tk (by exact ⟨by show (0:Int) ≤ IntKind.i64.wrap (((Q.length + 1:Nat):Int) - 1); rw [w1]; omega,by show IntKind.i64.wrap (((Q.length + 1:Nat):Int) - 1) < ((Q ++ p :: x :: (S ++ R')).length:Int); rw [w1,hll]; omega⟩) ?_
   refine zbE Tk (zas (H:=([]:Heap)) (zae ho)) ?_
   refine zaN Tk (gp) ?_
   refine zaY Tk (fun _ => hcc _) rfl rfl rfl ?_
   refine zaG Tk Tryz.func228 (by kernel_rfl) ?_
   refine zaf Tk Tryz.func228 rfl (fun c1 => ?_) (fun c1 => ?_)
   ·have c1:cw < 0:=of_decide_eq_true c1
    have hrk:=hlt.1 c1
    have e3:Ob.arr 187 8 (Q ++ p :: x :: (S ++ R')).length ((((Q ++ p :: x :: (S ++ R')).map mvI).set (((Q.length + 1:Nat):Int)).toNat (mvI p)).set (IntKind.i64.wrap (((Q.length + 1:Nat):Int) - 1)).toNat (mvI x)) true = zcE (Q ++ x :: (p :: S ++ R')):=by
     rw [w1]
     show Ob.arr 187 8 _ ((((Q ++ p :: x :: (S ++ R')).map mvI).set (Q.length + 1) (mvI p)).set Q.length (mvI x)) true = _
     rw [zoc]
     simp [zcE]
    refine zhk Tk 15 rfl ?_
    refine zbE Tk (zas (H:=([]:Heap)) (zae ho)) ?_
    refine zaE Tk (by exact ⟨by show (0:Int) ≤ IntKind.i64.wrap (((Q.length + 1:Nat):Int) - 1); rw [w1]; omega,by show IntKind.i64.wrap (((Q.length + 1:Nat):Int) - 1) < ((Q ++ p :: x :: (S ++ R')).length:Int); rw [w1,hll]; omega⟩) ?_
    refine zbE Tk (zas (H:=([]:Heap)) (zae ho)) ?_
    refine zaN Tk (gp) ?_
    refine zbE Tk (zas (H:=([]:Heap)) (zae ho)) ?_
    refine zaE Tk (by exact ⟨by omega,by show ((Q.length + 1:Nat):Int) < ((Q ++ p :: x :: (S ++ R')).length:Int); rw [hll]; omega⟩) ?_
    refine zbE Tk (zas (H:=([]:Heap)) (zae ho)) ?_
    refine zaN Tk (gx) ?_
    refine zbE Tk (zas (H:=([]:Heap)) (zae ho)) ?_
    refine zaE Tk (by exact ⟨by omega,by show ((Q.length + 1:Nat):Int) < ((Q ++ p :: x :: (S ++ R')).length:Int); rw [hll]; omega⟩) ?_
    refine ztF Tk Tryz.func228 zaK (N:=15) [16,17] [2,3,4] (by kernel_rfl) rfl rfl rfl rfl rfl rfl rfl rfl rfl rfl (zae ho) (by kernel_rfl) (by kernel_rfl) ?_ (by kernel_rfl) ?_
    ·intro i hi
     simp only [List.mem_cons,List.not_mem_nil,or_false] at hi
     rcases hi with rfl | rfl | rfl
     ·exact ⟨_,_,_,rfl,rfl,rfl,rfl,rfl,rfl,rfl⟩
     ·exact ⟨_,_,_,rfl,rfl,rfl,rfl,rfl,rfl,rfl⟩
     ·exact ⟨_,_,_,rfl,rfl,rfl,rfl,rfl,rfl,rfl⟩
    refine zb7 Tk Tryz.func228 (zas (H:=([]:Heap)) (zae (zae ho))) ?_
    refine zaj Tk Tryz.func228 (by exact ⟨by show (0:Int) ≤ IntKind.i64.wrap (((Q.length + 1:Nat):Int) - 1); rw [w1]; omega,by show IntKind.i64.wrap (((Q.length + 1:Nat):Int) - 1) < ((Q ++ p :: x :: (S ++ R')).length:Int); rw [w1,hll]; omega⟩) ?_
    refine zb7 Tk Tryz.func228 (zas (H:=([]:Heap)) (zae (zae ho))) ?_
    refine g_wk (wk_S (S':=_ :: setAt O d nm (zcE (Q ++ x :: (p :: S ++ R')))) (zaV fun d' n' => by rw [← e3]; exact (zbv d' n').trans (zbv d' n'))) ?_
    refine zah ?_
    refine ih2 (Q,p :: S) _ _ ⟨fun s hs => ?_,by simpa using hA2⟩ (by simp) ⟨rfl,rfl,rfl,rfl,rfl,congrArg ii w1,trivial⟩ rfl trivial rfl rfl
    rcases List.mem_cons.1 hs with rfl | hs
    ·exact hrk
    ·exact hS s hs
   ·have c1:¬ cw < 0:=of_decide_eq_false c1
    have hrk:¬ ltMv x p:=fun h => c1 (hlt.2 h)
    have hall:∀ q ∈ Q ++ [p],¬ ltMv x q:=by
     rw [← hA2] at hA
     have h1:=(List.pairwise_append.1 hA).1
     intro q hq
     rcases List.mem_append.1 hq with hq | hq
     ·have:=(List.pairwise_append.1 h1).2.2 q hq p (by simp)
      unfold ltMv at *
      omega
     ·rw [List.mem_singleton] at hq; subst hq; exact hrk
    have e4:zdp x A = (Q ++ [p]) ++ x :: S:=by rw [← hA2]; exact zdJ hall hS
    have hi1:ii (IntKind.i64.wrap ((A.length:Int) + 1)) = ii (((Q ++ [p]) ++ x :: S:List Mv).length:Int):=by
     rw [zay (n:=1000001) (by omega) (by decide),← hA2]
     simp
     omega
    refine zah ?_
    refine ih ((Q ++ [p]) ++ x :: S,R') _ _ ⟨zgo (by rw [hA2]; exact hA) hall hS,⟨T ++ [x],hTn,hTs.trans e4⟩,by simp; omega⟩ (by simp) ⟨rfl,rfl,rfl,rfl,hi1,trivial⟩ (congrArg (fun L => _ :: setAt O d nm (zcE L)) (by simp:Q ++ p :: x :: (S ++ R') = ((Q ++ [p]) ++ x :: S) ++ R')) trivial rfl rfl
 ·have g1:l.length ≤ A.length:=by simpa using g1
  obtain rfl:R = []:=List.eq_nil_of_length_eq_zero (by omega)
  obtain ⟨T,hT,hTA⟩:=hp
  rw [List.append_nil] at hT ⊢
  subst hT
  rw [← hTA]
  refine zad Tk (r:=.tup []) rfl rfl rfl trivial rfl rfl ?_
  rfl
theorem zij (x:Mv):∀ l,(zdp x l).length = l.length + 1
 | [] => rfl
 | y :: r => by
  unfold zdp
  split
  ·simp
  ·simp [zij x r]
theorem zdX (l:List Mv):(zcS l).length = l.length:=by
 have:∀ (r acc:List Mv),(r.foldl (fun acc x => zdp x acc) acc).length = acc.length + r.length:=by
  intro r
  induction r with
  | nil => simp
  | cons x r ih => intro acc; rw [List.foldl_cons,ih,zij,List.length_cons]; omega
 have:=this l []
 simpa [zcS] using this
theorem zog (O:List Heap) (d nm:Nat) (l:List Mv) (hl:l.length ≤ 19) (ho:zab O d nm = some (zcE l)):zal Tryz.prog 174 [.osl d nm,ii l.length,zpc] O (.tup []) [] (setAt O d nm (zcE (zcS l))):=by
 have h:=fun O d ho => zuz O d nm l (by omega) ho
 have hsl:=zdX l
 refine zaa Tk Tryz.func174 rfl Tryz.call174 Tryz.ntmps174 (Nat.le_of_ble_eq_true rfl) fun E => ?_
 refine zai Tk Tryz.func174 ?_
 refine zah ?_
 refine zai Tk Tryz.func174 ?_
 refine zaf Tk Tryz.func174 rfl (fun h => absurd h (by simp; omega)) (fun _ => ?_)
 refine zag Tk Tryz.func174 (h _ (d + 1) (zas (H:=([]:Heap)) ho)) rfl rfl rfl (zb4 (zas (H:=([]:Heap)) ho) (by simp [Ob.sh,hsl])) rfl ?_
 refine zah ?_
 refine zai Tk Tryz.func174 ?_
 refine zaf Tk Tryz.func174 rfl (fun h => absurd h (by simp; omega)) (fun _ => ?_)
 refine zad Tk (r:=.tup []) rfl rfl rfl trivial rfl rfl ?_
 rfl
theorem zsz (O:List Heap) (d nm:Nat) (l:List Mv) (hl:l.length ≤ 19) (ho:zab O d nm = some (zcE l)):zal Tryz.prog 135 [.osl d nm,zpc] O (.tup []) [] (setAt O d nm (zcE (zcS l))):=by
 have h:=fun O d ho => zog O d nm l hl ho
 have hsl:=zdX l
 refine zaa Tk Tryz.func135 rfl Tryz.call135 Tryz.ntmps135 (Nat.le_of_ble_eq_true rfl) fun E => ?_
 refine zai Tk Tryz.func135 ?_
 refine zb7 Tk Tryz.func135 (zas ho) ?_
 refine zag Tk Tryz.func135 (h _ (d + 1) (zas (H:=([]:Heap)) ho)) rfl rfl rfl (zb4 (zas (H:=([]:Heap)) ho) (by simp [Ob.sh,hsl])) rfl ?_
 refine zad Tk (r:=.tup []) rfl rfl rfl trivial rfl rfl ?_
 rfl
end Go.AI


namespace Go.AI
open Go.Proofs
set_option maxRecDepth 20000
theorem zut (n:Nat) (hn:n ≤ 12):∃ q:Int,∀ O,zal Tryz.prog 191 [.i (.v (.int .u64 n))] O (ii q) [] O:=by
 have hw:IntKind.u8.wrap (n:Int) = (n:Int):=by
  have:IntKind.u8.wrap (n:Int) = (n:Int) % 256:=rfl
  rw [this]; omega
 refine ⟨?q,fun O => ?h⟩
 case h =>
  refine zaa Tk Tryz.func191 rfl Tryz.call191 Tryz.ntmps191 (Nat.le_of_ble_eq_true rfl) fun E => ?_
  refine zai Tk Tryz.func191 ?_
  refine zaf Tk Tryz.func191 rfl (fun h => absurd h (by simp; omega)) (fun _ => ?_)
  refine zaf Tk Tryz.func191 rfl (fun h => absurd h (by simp; omega)) (fun _ => ?_)
  refine zaf Tk Tryz.func191 rfl (fun h => absurd h (by simp; omega)) (fun _ => ?_)
  refine zaj Tk Tryz.func191 (by rw [hw]; exact ⟨by omega,by show (n:Int) < 256; omega⟩) ?_
  refine zad Tk (r:=ii _) rfl rfl rfl trivial rfl rfl ?_
  rfl
theorem zgP (n:Nat) (hn:n ≤ 12):∃ q:Int,∀ O,zal Tryz.prog 141 [.i (.v (.int .u64 (IntKind.u64.wrap n)))] O (ii q) [] O:=by
 have w:IntKind.u64.wrap (n:Int) = (n:Int):=by
  have:IntKind.u64.wrap (n:Int) = (n:Int) % 18446744073709551616:=rfl
  rw [this]
  omega
 rw [w]
 obtain ⟨q,h⟩:=zut n hn
 refine ⟨q,fun O => ?_⟩
 refine zaa Tk Tryz.func141 rfl Tryz.call141 Tryz.ntmps141 (Nat.le_of_ble_eq_true rfl) fun E => ?_
 refine zai Tk Tryz.func141 ?_
 refine gcF Tk Tryz.func141 rfl ?_
 refine zag Tk Tryz.func141 (h _) rfl rfl rfl rfl rfl ?_
 refine zad Tk (r:=ii q) rfl rfl rfl trivial rfl rfl ?_
 rfl
end Go.AI


namespace Go.AI
open Go.Proofs
set_option maxRecDepth 20000
abbrev chcI (x:Chc):List I:=[vi x.1,zcO x.2]
abbrev olCh (l:List Chc):Ob:=.arr 304 2 l.length (l.map chcI) true
def zpC (x y:Chc):Int:=cmpI x.1 y.1
abbrev ltCh (x y:Chc):Prop:=x.1 < y.1
theorem zrI {x y:Chc}:zpC x y < 0 ↔ ltCh x y:=by
 unfold zpC cmpI ltCh
 by_cases h1:x.1 < y.1
 ·rw [if_pos h1]; exact ⟨fun _ => h1,fun _ => by decide⟩
 rw [if_neg h1]
 by_cases h2:x.1 > y.1
 ·rw [if_pos h2]; exact ⟨fun h => absurd h (by decide),fun h => absurd h h1⟩
 ·rw [if_neg h2]; exact ⟨fun h => absurd h (by decide),fun h => absurd h h1⟩
abbrev ztX (l:List Chc):Prop:=l.Pairwise fun x y => ¬ ltCh y x
theorem zdK {x:Chc}:∀ {P S:List Chc},(∀ p ∈ P,¬ ltCh x p) → (∀ s ∈ S,ltCh x s) → zdL x (P ++ S) = P ++ x :: S
 | [],[],_,_ => rfl
 | [],s :: r,_,h => by
  have:=h s (by simp)
  simp only [List.nil_append,zdL]
  rw [if_pos this]
 | p :: P,S,h,h2 => by
  have:=h p (by simp)
  simp only [List.cons_append,zdL]
  rw [if_neg this,zdK (fun q hq => h q (by simp [hq])) h2]
theorem zhP {x:Chc} {P S:List Chc} (h:ztX (P ++ S)) (hp:∀ p ∈ P,¬ ltCh x p) (hs:∀ s ∈ S,ltCh x s):ztX (P ++ x :: S):=by
 obtain ⟨h1,h2,h3⟩:=List.pairwise_append.1 h
 refine List.pairwise_append.2 ⟨h1,List.pairwise_cons.2 ⟨fun s hs' => ?_,h2⟩,fun a ha b hb => ?_⟩
 ·have:=hs s hs'
  unfold ltCh at *
  omega
 ·rcases List.mem_cons.1 hb with rfl | hb
  ·exact hp a ha
  ·exact h3 a ha b hb
theorem zrY:∀ (P:List Chc) (p x:Chc) (T:List Chc),(((P ++ p :: x :: T).map chcI).set (P.length + 1) (chcI p)).set P.length (chcI x) = (P ++ x :: p :: T).map chcI
 | [],p,x,T => rfl
 | q :: P,p,x,T => by
  have:=zrY P p x T
  simp only [List.cons_append,List.map_cons,List.length_cons,List.set_cons_succ,this]
theorem zt6 (P:List Chc):P = [] ∨ ∃ Q p,P = Q ++ [p]:=by
 by_cases h:P = []
 ·exact .inl h
 ·exact .inr ⟨P.dropLast,P.getLast h,(List.dropLast_concat_getLast h).symm⟩
theorem zmJ (A:List Chc) (x:Chc):zdy (A ++ [x]) = zdL x (zdy A):=by simp [zdy,List.foldl_append]
theorem ztp (O:List Heap) (x y:Chc):zal Tryz.prog 179 [.agg [ii x.1,ints x.2],.agg [ii y.1,ints y.2]] O (ii (zpC x y)) [] O:=by
 have h1:=fun O => zlu O x.1 y.1
 unfold zpC
 generalize cmpI x.1 y.1 = a at *
 refine zaa Tk Tryz.func179 rfl Tryz.call179 Tryz.ntmps179 (Nat.le_of_ble_eq_true rfl) fun E => ?_
 refine zai Tk Tryz.func179 ?_
 refine zag Tk Tryz.func179 (h1 _) rfl rfl rfl rfl rfl ?_
 refine zad Tk (r:=ii a) rfl rfl rfl trivial rfl rfl ?_
 rfl
abbrev zpb:D:=.fn (.func 179) [] []
theorem zuD {A:List Chc} {x:Chc} {T:List Chc} {k:Nat} (hk:k = A.length):((A ++ x :: T).map chcI)[((k:Nat):Int).toNat]? = some (chcI x):=by
 subst hk
 simp
set_option maxHeartbeats 8000000 in
theorem zuy (O:List Heap) (d nm:Nat) (l:List Chc) (hl:l.length ≤ 1000) (ho:zab O d nm = some (olCh l)):zal Tryz.prog 262 [.osl d nm,ii 0,ii l.length,zpb] O (.tup []) [] (setAt O d nm (olCh (zdy l))):=by
 have hc:=fun O x y => ztp O x y
 cases l with
 | nil =>
  refine zaa Tk Tryz.func262 rfl Tryz.call262 Tryz.ntmps262 (Nat.le_of_ble_eq_true rfl) fun E => ?_
  refine zai Tk Tryz.func262 ?_
  refine zah ?_
  refine zai Tk Tryz.func262 ?_
  refine gcF Tk Tryz.func262 rfl ?_
  refine zbb (wk_S (S':=_ :: setAt O d nm (olCh [])) (zaV (za8 ho))) ?_
  refine zad Tk (r:=.tup []) rfl rfl rfl trivial rfl rfl ?_
  rfl
 | cons z r =>
 generalize hL:z :: r = l at *
 have hpos:1 ≤ l.length:=by rw [← hL]; simp
 refine zaa Tk Tryz.func262 rfl Tryz.call262 Tryz.ntmps262 (Nat.le_of_ble_eq_true rfl) fun E => ?_
 refine zai Tk Tryz.func262 ?_
 refine g_wk (wk_S (S':=_ :: setAt O d nm (olCh ([z] ++ r))) (zaV (za8 (by rw [ho,← hL]; rfl)))) ?_
 refine zah ?_
 refine zak (fun x:List Chc × List Chc => [(0,.osl (d + 1) nm),(1,ii 0),(2,ii l.length),(3,zpb),(8,ii x.1.length)]) (fun _ => []) (fun x => setAt O d nm (olCh (x.1 ++ x.2))) 53
  (fun x => ztX x.1 ∧ (∃ T,T ++ x.2 = l ∧ zdy T = x.1) ∧ x.1.length + x.2.length = l.length) (fun x => x.2.length) ([z],r) ⟨List.pairwise_singleton _ _,⟨[z],hL,rfl⟩,by rw [← hL]; simp; omega⟩ ⟨rfl,rfl,rfl,rfl,rfl,trivial⟩ rfl trivial rfl rfl ?_
 rintro ⟨A,R⟩ ⟨hA,hp,hlen⟩ ih
 simp only at hA hp hlen
 refine zai Tk Tryz.func262 ?_
 refine zaf Tk Tryz.func262 rfl (fun g1 => ?_) (fun g1 => ?_)
 ·have g1:A.length < l.length:=by simpa using g1
  obtain ⟨x,R',rfl⟩:∃ x R',R = x :: R':=by
   cases R with
   | nil => simp at hlen; omega
   | cons x R' => exact ⟨x,R',rfl⟩
  obtain ⟨T,hT,hTA⟩:=hp
  have hTn:(T ++ [x]) ++ R' = l:=by rw [← hT]; simp
  have hTs:zdy (T ++ [x]) = zdL x A:=by rw [zmJ,hTA]
  rw [List.length_cons] at hlen
  refine zah ?_
  refine zak (fun y:List Chc × List Chc => [(0,.osl (d + 1) nm),(1,ii 0),(2,ii l.length),(3,zpb),(8,ii A.length),(9,ii y.1.length)]) (fun _ => []) (fun y => setAt O d nm (olCh (y.1 ++ x :: (y.2 ++ R')))) 53
   (fun y => (∀ s ∈ y.2,ltCh x s) ∧ y.1 ++ y.2 = A) (fun y => y.1.length) (A,[]) ⟨by simp,by simp⟩ ⟨rfl,rfl,rfl,rfl,rfl,rfl,trivial⟩ rfl trivial rfl rfl ?_
  rintro ⟨P,S⟩ ⟨hS,hA2⟩ ih2
  simp only at hS hA2
  rcases zt6 P with rfl | ⟨Q,p,rfl⟩
  ·rw [List.nil_append] at hA2
   subst hA2
   have hi1:ii (IntKind.i64.wrap ((S.length:Int) + 1)) = ii ((x :: S:List Chc).length:Int):=congrArg ii (zay (n:=1000001) (by omega) (by decide))
   refine zai Tk Tryz.func262 ?_
   refine zaA Tk Tryz.func262 zaK rfl ?_
   refine zb5 Tk (fun h => absurd h (by simp)) (fun _ => ?_)
   refine zaG Tk Tryz.func262 (by kernel_rfl) ?_
   refine zaf Tk Tryz.func262 rfl (fun h => absurd h (by simp)) (fun _ => ?_)
   refine zah ?_
   have e1:zdL x S = x :: S:=zdK (P:=[]) (by simp) hS
   refine ih (x :: S,R') _ _ ⟨zhP (P:=[]) hA (by simp) hS,⟨T ++ [x],hTn,hTs.trans e1⟩,by simp only [List.length_cons]; omega⟩ (by simp) ⟨rfl,rfl,rfl,rfl,hi1,trivial⟩ rfl trivial rfl rfl
  ·have e1:(Q ++ [p]) ++ x :: (S ++ R') = Q ++ p :: x :: (S ++ R'):=by simp
   have e2:((Q ++ [p]).length:Int) = ((Q.length + 1:Nat):Int):=by simp
   have hQA:Q.length + 1 + S.length = A.length:=by rw [← hA2]; simp; omega
   have w1:IntKind.i64.wrap (((Q.length + 1:Nat):Int) - 1) = (Q.length:Int):=by rw [w64 (by omega) (by omega)]; omega
   have gx:((Q ++ p :: x :: (S ++ R')).map chcI)[(((Q.length + 1:Nat):Int)).toNat]? = some (chcI x):=by
    have:=zuD (A:=Q ++ [p]) (x:=x) (T:=S ++ R') (k:=Q.length + 1) (by simp)
    rwa [e1] at this
   have gp:((Q ++ p :: x :: (S ++ R')).map chcI)[(IntKind.i64.wrap (((Q.length + 1:Nat):Int) - 1)).toNat]? = some (chcI p):=by rw [w1]; exact zuD rfl
   have hlt:=zrI (x:=x) (y:=p)
   have hcc:=fun O => hc O x p
   rw [e2,e1]
   have hll:(Q ++ p :: x :: (S ++ R')).length = l.length:=by simp; omega
   generalize zpC x p = cw at *
   refine zai Tk Tryz.func262 ?_
   refine zaA Tk Tryz.func262 zaK rfl ?_
   refine zb5 Tk (fun _ => ?_) (fun h => absurd h (by simp))
   refine zbE Tk (zas (H:=([]:Heap)) (zae ho)) ?_
   refine zaE Tk (by exact ⟨by omega,by show ((Q.length + 1:Nat):Int) < ((Q ++ p :: x :: (S ++ R')).length:Int); rw [hll]; omega⟩) ?_
   refine zbE Tk (zas (H:=([]:Heap)) (zae ho)) ?_
   refine zaN Tk (gx) ?_
   refine zbE Tk (zas (H:=([]:Heap)) (zae ho)) ?_
   refine zaE Tk (by exact ⟨by show (0:Int) ≤ IntKind.i64.wrap (((Q.length + 1:Nat):Int) - 1); rw [w1]; omega,by show IntKind.i64.wrap (((Q.length + 1:Nat):Int) - 1) < ((Q ++ p :: x :: (S ++ R')).length:Int); rw [w1,hll]; omega⟩) ?_
   refine zbE Tk (zas (H:=([]:Heap)) (zae ho)) ?_
   refine zaN Tk (gp) ?_
   refine zaY Tk (fun _ => hcc _) rfl rfl rfl ?_
   refine zaG Tk Tryz.func262 (by kernel_rfl) ?_
   refine zaf Tk Tryz.func262 rfl (fun c1 => ?_) (fun c1 => ?_)
   ·have c1:cw < 0:=of_decide_eq_true c1
    have hrk:=hlt.1 c1
    have e3:Ob.arr 304 2 (Q ++ p :: x :: (S ++ R')).length ((((Q ++ p :: x :: (S ++ R')).map chcI).set (((Q.length + 1:Nat):Int)).toNat (chcI p)).set (IntKind.i64.wrap (((Q.length + 1:Nat):Int) - 1)).toNat (chcI x)) true = olCh (Q ++ x :: (p :: S ++ R')):=by
     rw [w1]
     show Ob.arr 304 2 _ ((((Q ++ p :: x :: (S ++ R')).map chcI).set (Q.length + 1) (chcI p)).set Q.length (chcI x)) true = _
     rw [zrY]
     simp [olCh]
    refine zhk Tk 15 rfl ?_
    refine zbE Tk (zas (H:=([]:Heap)) (zae ho)) ?_
    refine zaE Tk (by exact ⟨by show (0:Int) ≤ IntKind.i64.wrap (((Q.length + 1:Nat):Int) - 1); rw [w1]; omega,by show IntKind.i64.wrap (((Q.length + 1:Nat):Int) - 1) < ((Q ++ p :: x :: (S ++ R')).length:Int); rw [w1,hll]; omega⟩) ?_
    refine zbE Tk (zas (H:=([]:Heap)) (zae ho)) ?_
    refine zaN Tk (gp) ?_
    refine zbE Tk (zas (H:=([]:Heap)) (zae ho)) ?_
    refine zaE Tk (by exact ⟨by omega,by show ((Q.length + 1:Nat):Int) < ((Q ++ p :: x :: (S ++ R')).length:Int); rw [hll]; omega⟩) ?_
    refine zbE Tk (zas (H:=([]:Heap)) (zae ho)) ?_
    refine zaN Tk (gx) ?_
    refine zbE Tk (zas (H:=([]:Heap)) (zae ho)) ?_
    refine zaE Tk (by exact ⟨by omega,by show ((Q.length + 1:Nat):Int) < ((Q ++ p :: x :: (S ++ R')).length:Int); rw [hll]; omega⟩) ?_
    refine ztF Tk Tryz.func262 zaK (N:=15) [16,17] [2,3,4] (by kernel_rfl) rfl rfl rfl rfl rfl rfl rfl rfl rfl rfl (zae ho) (by kernel_rfl) (by kernel_rfl) ?_ (by kernel_rfl) ?_
    ·intro i hi
     simp only [List.mem_cons,List.not_mem_nil,or_false] at hi
     rcases hi with rfl | rfl | rfl
     ·exact ⟨_,_,_,rfl,rfl,rfl,rfl,rfl,rfl,rfl⟩
     ·exact ⟨_,_,_,rfl,rfl,rfl,rfl,rfl,rfl,rfl⟩
     ·exact ⟨_,_,_,rfl,rfl,rfl,rfl,rfl,rfl,rfl⟩
    refine zb7 Tk Tryz.func262 (zas (H:=([]:Heap)) (zae (zae ho))) ?_
    refine zaj Tk Tryz.func262 (by exact ⟨by show (0:Int) ≤ IntKind.i64.wrap (((Q.length + 1:Nat):Int) - 1); rw [w1]; omega,by show IntKind.i64.wrap (((Q.length + 1:Nat):Int) - 1) < ((Q ++ p :: x :: (S ++ R')).length:Int); rw [w1,hll]; omega⟩) ?_
    refine zb7 Tk Tryz.func262 (zas (H:=([]:Heap)) (zae (zae ho))) ?_
    refine g_wk (wk_S (S':=_ :: setAt O d nm (olCh (Q ++ x :: (p :: S ++ R')))) (zaV fun d' n' => by rw [← e3]; exact (zbv d' n').trans (zbv d' n'))) ?_
    refine zah ?_
    refine ih2 (Q,p :: S) _ _ ⟨fun s hs => ?_,by simpa using hA2⟩ (by simp) ⟨rfl,rfl,rfl,rfl,rfl,congrArg ii w1,trivial⟩ rfl trivial rfl rfl
    rcases List.mem_cons.1 hs with rfl | hs
    ·exact hrk
    ·exact hS s hs
   ·have c1:¬ cw < 0:=of_decide_eq_false c1
    have hrk:¬ ltCh x p:=fun h => c1 (hlt.2 h)
    have hall:∀ q ∈ Q ++ [p],¬ ltCh x q:=by
     rw [← hA2] at hA
     have h1:=(List.pairwise_append.1 hA).1
     intro q hq
     rcases List.mem_append.1 hq with hq | hq
     ·have:=(List.pairwise_append.1 h1).2.2 q hq p (by simp)
      unfold ltCh at *
      omega
     ·rw [List.mem_singleton] at hq; subst hq; exact hrk
    have e4:zdL x A = (Q ++ [p]) ++ x :: S:=by rw [← hA2]; exact zdK hall hS
    have hi1:ii (IntKind.i64.wrap ((A.length:Int) + 1)) = ii (((Q ++ [p]) ++ x :: S:List Chc).length:Int):=by
     rw [zay (n:=1000001) (by omega) (by decide),← hA2]
     simp
     omega
    refine zah ?_
    refine ih ((Q ++ [p]) ++ x :: S,R') _ _ ⟨zhP (by rw [hA2]; exact hA) hall hS,⟨T ++ [x],hTn,hTs.trans e4⟩,by simp; omega⟩ (by simp) ⟨rfl,rfl,rfl,rfl,hi1,trivial⟩ (congrArg (fun L => _ :: setAt O d nm (olCh L)) (by simp:Q ++ p :: x :: (S ++ R') = ((Q ++ [p]) ++ x :: S) ++ R')) trivial rfl rfl
 ·have g1:l.length ≤ A.length:=by simpa using g1
  obtain rfl:R = []:=List.eq_nil_of_length_eq_zero (by omega)
  obtain ⟨T,hT,hTA⟩:=hp
  rw [List.append_nil] at hT ⊢
  subst hT
  rw [← hTA]
  refine zad Tk (r:=.tup []) rfl rfl rfl trivial rfl rfl ?_
  rfl
theorem zik (x:Chc):∀ l,(zdL x l).length = l.length + 1
 | [] => rfl
 | y :: r => by
  unfold zdL
  split
  ·simp
  ·simp [zik x r]
theorem zfh (l:List Chc):(zdy l).length = l.length:=by
 have:∀ (r acc:List Chc),(r.foldl (fun acc x => zdL x acc) acc).length = acc.length + r.length:=by
  intro r
  induction r with
  | nil => simp
  | cons x r ih => intro acc; rw [List.foldl_cons,ih,zik,List.length_cons]; omega
 have:=this l []
 simpa [zdy] using this
theorem zug (O:List Heap) (d nm:Nat) (l:List Chc) (q:Int) (hl:l.length ≤ 12) (ho:zab O d nm = some (olCh l)):zal Tryz.prog 231 [.osl d nm,ii 0,ii l.length,ii q,zpb] O (.tup []) [] (setAt O d nm (olCh (zdy l))):=by
 have h:=fun O d ho => zuy O d nm l (by omega) ho
 have hsl:=zfh l
 have w:IntKind.i64.wrap ((l.length:Int) - 0) = (l.length:Int):=by rw [w64 (by omega) (by omega)]; omega
 refine zaa Tk Tryz.func231 rfl Tryz.call231 Tryz.ntmps231 (Nat.le_of_ble_eq_true rfl) fun E => ?_
 refine zai Tk Tryz.func231 ?_
 refine zah ?_
 refine zai Tk Tryz.func231 ?_
 refine zaf Tk Tryz.func231 rfl (fun _ => ?_) (fun h => absurd h (by rw [w]; simp; omega))
 refine zag Tk Tryz.func231 (h _ (d + 1) (zas (H:=([]:Heap)) ho)) rfl rfl rfl (zb4 (zas (H:=([]:Heap)) ho) (by simp [Ob.sh,hsl])) rfl ?_
 refine zad Tk (r:=.tup []) rfl rfl rfl trivial rfl rfl ?_
 rfl
theorem zsy (O:List Heap) (d nm:Nat) (l:List Chc) (hl:l.length ≤ 12) (ho:zab O d nm = some (olCh l)):zal Tryz.prog 178 [.osl d nm,zpb] O (.tup []) [] (setAt O d nm (olCh (zdy l))):=by
 obtain ⟨q,hb⟩:=zgP l.length (by omega)
 have h:=fun O d q ho => zug O d nm l q hl ho
 have hsl:=zfh l
 refine zaa Tk Tryz.func178 rfl Tryz.call178 Tryz.ntmps178 (Nat.le_of_ble_eq_true rfl) fun E => ?_
 refine zai Tk Tryz.func178 ?_
 refine zb7 Tk Tryz.func178 (zas ho) ?_
 refine zag Tk Tryz.func178 (hb _) rfl rfl rfl rfl rfl ?_
 refine zag Tk Tryz.func178 (h _ (d + 1) _ (zas (H:=([]:Heap)) ho)) rfl rfl rfl (zb4 (zas (H:=([]:Heap)) ho) (by simp [Ob.sh,hsl])) rfl ?_
 refine zad Tk (r:=.tup []) rfl rfl rfl trivial rfl rfl ?_
 rfl
end Go.AI


namespace Go.AI
open Go.Proofs
set_option maxRecDepth 20000
abbrev sD (s:ByteArray):D:=.i (strI s)
abbrev ssD (l:List ByteArray):D:=.i (zmE l)
abbrev bbI (b:Bool):D:=.i (bI b)
abbrev evtD (x:Evt):D:=.agg [sD x.name,bbI x.c,bbI x.o,bbI x.f,ii x.fault]
abbrev tplC (x:Tpl):List D:=[sD x.name,ssD x.locs,ssD x.evs,ints x.mach.alpha,ii x.mach.locs,ii x.mach.init,ints x.mach.marked,vrs x.mach.vars,.i (.sl 8 x.mach.moves.length (x.mach.moves.map mvI))]
abbrev tplD (x:Tpl):D:=.agg (tplC x)
abbrev insC (x:Ins):List D:=[sD x.name,sD x.tpl,ssD x.evs]
abbrev insD (x:Ins):D:=.agg (insC x)
abbrev nlcD (x:NLc):D:=.agg [sD x.1,sD x.2]
abbrev ntmD (x:NTm):D:=.agg [sD x.1,ii x.2]
abbrev zoK (l:List NLc):I:=.sl 2 l.length (l.map nlcI)
abbrev zs1 (l:List NTm):I:=.sl 2 l.length (l.map ntmI)
abbrev nexC (x:NEx):List D:=[sD x.name,.i (zoK x.locals)]
abbrev nexD (x:NEx):D:=.agg (nexC x)
abbrev ncnC (x:NCn):List D:=[sD x.name,.i (zs1 x.terms),ii x.bound]
abbrev ncnD (x:NCn):D:=.agg (ncnC x)
theorem zeI {α:Type} {p:α → Bool}:∀ (l:List α) (i:Nat),(l.find? p = none ∧ zan p l i = -1) ∨ ∃ (k:Nat) (e:α),l[k]? = some e ∧ l.find? p = some e ∧ zan p l i = ((i + k:Nat):Int)
 | [],i => .inl ⟨rfl,rfl⟩
 | x :: r,i => by
  cases h:p x with
  | true => exact .inr ⟨0,x,rfl,by simp [h],by simp [zan,h]⟩
  | false =>
   rcases zeI r (i + 1) with ⟨h1,h2⟩ | ⟨k,e,h1,h2,h3⟩
   ·exact .inl ⟨by rw [List.find?_cons,h]; exact h1,by simp only [zan,h]; rw [if_neg (by simp)]; exact h2⟩
   ·refine .inr ⟨k + 1,e,by simpa using h1,by rw [List.find?_cons,h]; exact h2,?_⟩
    simp only [zan,h]
    rw [if_neg (by simp),h3]
    congr 1
    omega
theorem zbw {α β:Type} (p:β → Bool) (f:α → β):∀ (l:List α) (i:Nat),zan p (l.map f) i = zan (fun x => p (f x)) l i
 | [],_ => rfl
 | x :: r,i => by
  simp only [List.map_cons,zan,zbw p f r]
theorem zrq (O:List Heap) (l:List Evt) (f d nm:Nat) (p:Evt → Bool) (hl:l.length ≤ zap) (hp:∀ x ∈ l,zal Tryz.prog f [evtD x,.own (d + 1) nm 0 0] ([] :: O) (bb (p x)) [] ([] :: O)) :
  zal Tryz.prog 104 [.i (.sl 5 l.length (l.map evtI)),.fn (.func f) [] [.own d nm 0 0]] O (ii (zan p l 0)) [] O:=by
 generalize hR:zan p l 0 = R
 refine zaa Tk Tryz.func104 rfl Tryz.call104 Tryz.ntmps104 (Nat.le_of_ble_eq_true rfl) fun E => ?_
 refine zai Tk Tryz.func104 ?_
 refine zah ?_
 refine zak (fun i:Nat => [(0,.i (.sl 5 l.length (l.map evtI))),(1,.fn (.func f) [] [.own (d + 1) nm 0 0]),(6,.i (.sl 5 l.length (l.map evtI))),(7,ii l.length),(8,ii i)]) (fun _ => []) (fun _ => O) 19
  (fun i => i ≤ l.length ∧ zan p (l.drop i) i = R) (fun i => l.length - i) 0 ⟨Nat.zero_le _,hR⟩ ⟨rfl,rfl,rfl,rfl,rfl,trivial⟩ rfl trivial rfl rfl ?_
 rintro i ⟨hi,hno⟩ ih
 clear hR
 refine zai Tk Tryz.func104 ?_
 refine zaf Tk Tryz.func104 rfl (fun g1 => ?_) (fun g1 => ?_)
 ·have h1:i < l.length:=by simpa using g1
  have gs:(l.map evtI)[(i:Int).toNat]? = some (evtI l[i]):=zam h1
  have hps:=hp l[i] (List.getElem_mem h1)
  have hd:l.drop i = l[i] :: l.drop (i + 1):=List.drop_eq_getElem_cons h1
  rw [hd] at hno
  simp only [zan] at hno
  clear hd
  generalize l[i] = s at *
  refine zaj Tk Tryz.func104 (by exact ⟨by omega,by show (i:Int) < (l.length:Int); omega⟩) ?_
  refine zao Tk Tryz.func104 (gs) ?_
  refine zag Tk Tryz.func104 (hps) rfl rfl rfl rfl rfl ?_
  refine zaf Tk Tryz.func104 rfl (fun g2 => ?_) (fun g2 => ?_)
  ·rw [if_pos g2] at hno
   subst hno
   refine zad Tk (r:=ii (i:Int)) rfl rfl rfl trivial rfl rfl ?_
   rfl
  ·have g2:p s = false:=g2
   rw [if_neg (by rw [g2]; decide)] at hno
   refine zah ?_
   exact ih (i + 1) _ _ ⟨h1,hno⟩ (by omega) ⟨rfl,rfl,rfl,rfl,congrArg ii (zay h1 hl),trivial⟩ rfl trivial rfl rfl
 ·have h1:l.length ≤ i:=by simpa using g1
  rw [List.drop_eq_nil_of_le h1] at hno
  have hno:(-1:Int) = R:=hno
  subst hno
  refine zad Tk (r:=ii (-1)) rfl rfl rfl trivial rfl rfl ?_
  rfl
theorem zrp (O:List Heap) (l:List Tpl) (f d nm:Nat) (p:Tpl → Bool) (hl:l.length ≤ zap) (hp:∀ x ∈ l,zal Tryz.prog f [tplD x,.own (d + 1) nm 0 0] ([] :: O) (bb (p x)) [] ([] :: O)) :
  zal Tryz.prog 106 [.i (.sl 9 l.length (l.map tplI)),.fn (.func f) [] [.own d nm 0 0]] O (ii (zan p l 0)) [] O:=by
 generalize hR:zan p l 0 = R
 refine zaa Tk Tryz.func106 rfl Tryz.call106 Tryz.ntmps106 (Nat.le_of_ble_eq_true rfl) fun E => ?_
 refine zai Tk Tryz.func106 ?_
 refine zah ?_
 refine zak (fun i:Nat => [(0,.i (.sl 9 l.length (l.map tplI))),(1,.fn (.func f) [] [.own (d + 1) nm 0 0]),(6,.i (.sl 9 l.length (l.map tplI))),(7,ii l.length),(8,ii i)]) (fun _ => []) (fun _ => O) 19
  (fun i => i ≤ l.length ∧ zan p (l.drop i) i = R) (fun i => l.length - i) 0 ⟨Nat.zero_le _,hR⟩ ⟨rfl,rfl,rfl,rfl,rfl,trivial⟩ rfl trivial rfl rfl ?_
 rintro i ⟨hi,hno⟩ ih
 clear hR
 refine zai Tk Tryz.func106 ?_
 refine zaf Tk Tryz.func106 rfl (fun g1 => ?_) (fun g1 => ?_)
 ·have h1:i < l.length:=by simpa using g1
  have gs:(l.map tplI)[(i:Int).toNat]? = some (tplI l[i]):=zam h1
  have hps:=hp l[i] (List.getElem_mem h1)
  have hd:l.drop i = l[i] :: l.drop (i + 1):=List.drop_eq_getElem_cons h1
  rw [hd] at hno
  simp only [zan] at hno
  clear hd
  generalize l[i] = s at *
  refine zaj Tk Tryz.func106 (by exact ⟨by omega,by show (i:Int) < (l.length:Int); omega⟩) ?_
  refine zao Tk Tryz.func106 (gs) ?_
  refine zag Tk Tryz.func106 (hps) rfl rfl rfl rfl rfl ?_
  refine zaf Tk Tryz.func106 rfl (fun g2 => ?_) (fun g2 => ?_)
  ·rw [if_pos g2] at hno
   subst hno
   refine zad Tk (r:=ii (i:Int)) rfl rfl rfl trivial rfl rfl ?_
   rfl
  ·have g2:p s = false:=g2
   rw [if_neg (by rw [g2]; decide)] at hno
   refine zah ?_
   exact ih (i + 1) _ _ ⟨h1,hno⟩ (by omega) ⟨rfl,rfl,rfl,rfl,congrArg ii (zay h1 hl),trivial⟩ rfl trivial rfl rfl
 ·have h1:l.length ≤ i:=by simpa using g1
  rw [List.drop_eq_nil_of_le h1] at hno
  have hno:(-1:Int) = R:=hno
  subst hno
  refine zad Tk (r:=ii (-1)) rfl rfl rfl trivial rfl rfl ?_
  rfl
theorem zli (O:List Heap) (l:List Ins) (f d nm:Nat) (p:Ins → Bool) (hl:l.length ≤ zap) (hp:∀ x ∈ l,zal Tryz.prog f [insD x,.own (d + 1) nm 0 0] ([] :: O) (bb (p x)) [] ([] :: O)) :
  zal Tryz.prog 108 [.i (.sl 3 l.length (l.map insI)),.fn (.func f) [] [.own d nm 0 0]] O (ii (zan p l 0)) [] O:=by
 generalize hR:zan p l 0 = R
 refine zaa Tk Tryz.func108 rfl Tryz.call108 Tryz.ntmps108 (Nat.le_of_ble_eq_true rfl) fun E => ?_
 refine zai Tk Tryz.func108 ?_
 refine zah ?_
 refine zak (fun i:Nat => [(0,.i (.sl 3 l.length (l.map insI))),(1,.fn (.func f) [] [.own (d + 1) nm 0 0]),(6,.i (.sl 3 l.length (l.map insI))),(7,ii l.length),(8,ii i)]) (fun _ => []) (fun _ => O) 19
  (fun i => i ≤ l.length ∧ zan p (l.drop i) i = R) (fun i => l.length - i) 0 ⟨Nat.zero_le _,hR⟩ ⟨rfl,rfl,rfl,rfl,rfl,trivial⟩ rfl trivial rfl rfl ?_
 rintro i ⟨hi,hno⟩ ih
 clear hR
 refine zai Tk Tryz.func108 ?_
 refine zaf Tk Tryz.func108 rfl (fun g1 => ?_) (fun g1 => ?_)
 ·have h1:i < l.length:=by simpa using g1
  have gs:(l.map insI)[(i:Int).toNat]? = some (insI l[i]):=zam h1
  have hps:=hp l[i] (List.getElem_mem h1)
  have hd:l.drop i = l[i] :: l.drop (i + 1):=List.drop_eq_getElem_cons h1
  rw [hd] at hno
  simp only [zan] at hno
  clear hd
  generalize l[i] = s at *
  refine zaj Tk Tryz.func108 (by exact ⟨by omega,by show (i:Int) < (l.length:Int); omega⟩) ?_
  refine zao Tk Tryz.func108 (gs) ?_
  refine zag Tk Tryz.func108 (hps) rfl rfl rfl rfl rfl ?_
  refine zaf Tk Tryz.func108 rfl (fun g2 => ?_) (fun g2 => ?_)
  ·rw [if_pos g2] at hno
   subst hno
   refine zad Tk (r:=ii (i:Int)) rfl rfl rfl trivial rfl rfl ?_
   rfl
  ·have g2:p s = false:=g2
   rw [if_neg (by rw [g2]; decide)] at hno
   refine zah ?_
   exact ih (i + 1) _ _ ⟨h1,hno⟩ (by omega) ⟨rfl,rfl,rfl,rfl,congrArg ii (zay h1 hl),trivial⟩ rfl trivial rfl rfl
 ·have h1:l.length ≤ i:=by simpa using g1
  rw [List.drop_eq_nil_of_le h1] at hno
  have hno:(-1:Int) = R:=hno
  subst hno
  refine zad Tk (r:=ii (-1)) rfl rfl rfl trivial rfl rfl ?_
  rfl
theorem zro (O:List Heap) (l:List NEx) (f d nm:Nat) (p:NEx → Bool) (hl:l.length ≤ zap) (hp:∀ x ∈ l,zal Tryz.prog f [nexD x,.own (d + 1) nm 0 0] ([] :: O) (bb (p x)) [] ([] :: O)) :
  zal Tryz.prog 111 [.i (.sl 2 l.length (l.map nexI)),.fn (.func f) [] [.own d nm 0 0]] O (ii (zan p l 0)) [] O:=by
 generalize hR:zan p l 0 = R
 refine zaa Tk Tryz.func111 rfl Tryz.call111 Tryz.ntmps111 (Nat.le_of_ble_eq_true rfl) fun E => ?_
 refine zai Tk Tryz.func111 ?_
 refine zah ?_
 refine zak (fun i:Nat => [(0,.i (.sl 2 l.length (l.map nexI))),(1,.fn (.func f) [] [.own (d + 1) nm 0 0]),(6,.i (.sl 2 l.length (l.map nexI))),(7,ii l.length),(8,ii i)]) (fun _ => []) (fun _ => O) 19
  (fun i => i ≤ l.length ∧ zan p (l.drop i) i = R) (fun i => l.length - i) 0 ⟨Nat.zero_le _,hR⟩ ⟨rfl,rfl,rfl,rfl,rfl,trivial⟩ rfl trivial rfl rfl ?_
 rintro i ⟨hi,hno⟩ ih
 clear hR
 refine zai Tk Tryz.func111 ?_
 refine zaf Tk Tryz.func111 rfl (fun g1 => ?_) (fun g1 => ?_)
 ·have h1:i < l.length:=by simpa using g1
  have gs:(l.map nexI)[(i:Int).toNat]? = some (nexI l[i]):=zam h1
  have hps:=hp l[i] (List.getElem_mem h1)
  have hd:l.drop i = l[i] :: l.drop (i + 1):=List.drop_eq_getElem_cons h1
  rw [hd] at hno
  simp only [zan] at hno
  clear hd
  generalize l[i] = s at *
  refine zaj Tk Tryz.func111 (by exact ⟨by omega,by show (i:Int) < (l.length:Int); omega⟩) ?_
  refine zao Tk Tryz.func111 (gs) ?_
  refine zag Tk Tryz.func111 (hps) rfl rfl rfl rfl rfl ?_
  refine zaf Tk Tryz.func111 rfl (fun g2 => ?_) (fun g2 => ?_)
  ·rw [if_pos g2] at hno
   subst hno
   refine zad Tk (r:=ii (i:Int)) rfl rfl rfl trivial rfl rfl ?_
   rfl
  ·have g2:p s = false:=g2
   rw [if_neg (by rw [g2]; decide)] at hno
   refine zah ?_
   exact ih (i + 1) _ _ ⟨h1,hno⟩ (by omega) ⟨rfl,rfl,rfl,rfl,congrArg ii (zay h1 hl),trivial⟩ rfl trivial rfl rfl
 ·have h1:l.length ≤ i:=by simpa using g1
  rw [List.drop_eq_nil_of_le h1] at hno
  have hno:(-1:Int) = R:=hno
  subst hno
  refine zad Tk (r:=ii (-1)) rfl rfl rfl trivial rfl rfl ?_
  rfl
theorem zrn (O:List Heap) (l:List NCn) (f d nm:Nat) (p:NCn → Bool) (hl:l.length ≤ zap) (hp:∀ x ∈ l,zal Tryz.prog f [ncnD x,.own (d + 1) nm 0 0] ([] :: O) (bb (p x)) [] ([] :: O)) :
  zal Tryz.prog 113 [.i (.sl 3 l.length (l.map ncnI)),.fn (.func f) [] [.own d nm 0 0]] O (ii (zan p l 0)) [] O:=by
 generalize hR:zan p l 0 = R
 refine zaa Tk Tryz.func113 rfl Tryz.call113 Tryz.ntmps113 (Nat.le_of_ble_eq_true rfl) fun E => ?_
 refine zai Tk Tryz.func113 ?_
 refine zah ?_
 refine zak (fun i:Nat => [(0,.i (.sl 3 l.length (l.map ncnI))),(1,.fn (.func f) [] [.own (d + 1) nm 0 0]),(6,.i (.sl 3 l.length (l.map ncnI))),(7,ii l.length),(8,ii i)]) (fun _ => []) (fun _ => O) 19
  (fun i => i ≤ l.length ∧ zan p (l.drop i) i = R) (fun i => l.length - i) 0 ⟨Nat.zero_le _,hR⟩ ⟨rfl,rfl,rfl,rfl,rfl,trivial⟩ rfl trivial rfl rfl ?_
 rintro i ⟨hi,hno⟩ ih
 clear hR
 refine zai Tk Tryz.func113 ?_
 refine zaf Tk Tryz.func113 rfl (fun g1 => ?_) (fun g1 => ?_)
 ·have h1:i < l.length:=by simpa using g1
  have gs:(l.map ncnI)[(i:Int).toNat]? = some (ncnI l[i]):=zam h1
  have hps:=hp l[i] (List.getElem_mem h1)
  have hd:l.drop i = l[i] :: l.drop (i + 1):=List.drop_eq_getElem_cons h1
  rw [hd] at hno
  simp only [zan] at hno
  clear hd
  generalize l[i] = s at *
  refine zaj Tk Tryz.func113 (by exact ⟨by omega,by show (i:Int) < (l.length:Int); omega⟩) ?_
  refine zao Tk Tryz.func113 (gs) ?_
  refine zag Tk Tryz.func113 (hps) rfl rfl rfl rfl rfl ?_
  refine zaf Tk Tryz.func113 rfl (fun g2 => ?_) (fun g2 => ?_)
  ·rw [if_pos g2] at hno
   subst hno
   refine zad Tk (r:=ii (i:Int)) rfl rfl rfl trivial rfl rfl ?_
   rfl
  ·have g2:p s = false:=g2
   rw [if_neg (by rw [g2]; decide)] at hno
   refine zah ?_
   exact ih (i + 1) _ _ ⟨h1,hno⟩ (by omega) ⟨rfl,rfl,rfl,rfl,congrArg ii (zay h1 hl),trivial⟩ rfl trivial rfl rfl
 ·have h1:l.length ≤ i:=by simpa using g1
  rw [List.drop_eq_nil_of_le h1] at hno
  have hno:(-1:Int) = R:=hno
  subst hno
  refine zad Tk (r:=ii (-1)) rfl rfl rfl trivial rfl rfl ?_
  rfl
theorem zrk (O:List Heap) (l:List NLc) (f d nm:Nat) (p:NLc → Bool) (hl:l.length ≤ zap) (hp:∀ x ∈ l,zal Tryz.prog f [nlcD x,.own (d + 1) nm 0 0] ([] :: O) (bb (p x)) [] ([] :: O)) :
  zal Tryz.prog 224 [.i (.sl 2 l.length (l.map nlcI)),.fn (.func f) [] [.own d nm 0 0]] O (ii (zan p l 0)) [] O:=by
 generalize hR:zan p l 0 = R
 refine zaa Tk Tryz.func224 rfl Tryz.call224 Tryz.ntmps224 (Nat.le_of_ble_eq_true rfl) fun E => ?_
 refine zai Tk Tryz.func224 ?_
 refine zah ?_
 refine zak (fun i:Nat => [(0,.i (.sl 2 l.length (l.map nlcI))),(1,.fn (.func f) [] [.own (d + 1) nm 0 0]),(6,.i (.sl 2 l.length (l.map nlcI))),(7,ii l.length),(8,ii i)]) (fun _ => []) (fun _ => O) 19
  (fun i => i ≤ l.length ∧ zan p (l.drop i) i = R) (fun i => l.length - i) 0 ⟨Nat.zero_le _,hR⟩ ⟨rfl,rfl,rfl,rfl,rfl,trivial⟩ rfl trivial rfl rfl ?_
 rintro i ⟨hi,hno⟩ ih
 clear hR
 refine zai Tk Tryz.func224 ?_
 refine zaf Tk Tryz.func224 rfl (fun g1 => ?_) (fun g1 => ?_)
 ·have h1:i < l.length:=by simpa using g1
  have gs:(l.map nlcI)[(i:Int).toNat]? = some (nlcI l[i]):=zam h1
  have hps:=hp l[i] (List.getElem_mem h1)
  have hd:l.drop i = l[i] :: l.drop (i + 1):=List.drop_eq_getElem_cons h1
  rw [hd] at hno
  simp only [zan] at hno
  clear hd
  generalize l[i] = s at *
  refine zaj Tk Tryz.func224 (by exact ⟨by omega,by show (i:Int) < (l.length:Int); omega⟩) ?_
  refine zao Tk Tryz.func224 (gs) ?_
  refine zag Tk Tryz.func224 (hps) rfl rfl rfl rfl rfl ?_
  refine zaf Tk Tryz.func224 rfl (fun g2 => ?_) (fun g2 => ?_)
  ·rw [if_pos g2] at hno
   subst hno
   refine zad Tk (r:=ii (i:Int)) rfl rfl rfl trivial rfl rfl ?_
   rfl
  ·have g2:p s = false:=g2
   rw [if_neg (by rw [g2]; decide)] at hno
   refine zah ?_
   exact ih (i + 1) _ _ ⟨h1,hno⟩ (by omega) ⟨rfl,rfl,rfl,rfl,congrArg ii (zay h1 hl),trivial⟩ rfl trivial rfl rfl
 ·have h1:l.length ≤ i:=by simpa using g1
  rw [List.drop_eq_nil_of_le h1] at hno
  have hno:(-1:Int) = R:=hno
  subst hno
  refine zad Tk (r:=ii (-1)) rfl rfl rfl trivial rfl rfl ?_
  rfl
theorem zrm (O:List Heap) (l:List ByteArray) (f d nm:Nat) (p:ByteArray → Bool) (hl:l.length ≤ zap) (hp:∀ x ∈ l,zal Tryz.prog f [sD x,.own (d + 1) nm 0 0] ([] :: O) (bb (p x)) [] ([] :: O)) :
  zal Tryz.prog 163 [.i (.sl 1 l.length (l.map (fun s => [strI s]))),.fn (.func f) [] [.own d nm 0 0]] O (ii (zan p l 0)) [] O:=by
 generalize hR:zan p l 0 = R
 refine zaa Tk Tryz.func163 rfl Tryz.call163 Tryz.ntmps163 (Nat.le_of_ble_eq_true rfl) fun E => ?_
 refine zai Tk Tryz.func163 ?_
 refine zah ?_
 refine zak (fun i:Nat => [(0,.i (.sl 1 l.length (l.map (fun s => [strI s])))),(1,.fn (.func f) [] [.own (d + 1) nm 0 0]),(6,.i (.sl 1 l.length (l.map (fun s => [strI s])))),(7,ii l.length),(8,ii i)]) (fun _ => []) (fun _ => O) 19
  (fun i => i ≤ l.length ∧ zan p (l.drop i) i = R) (fun i => l.length - i) 0 ⟨Nat.zero_le _,hR⟩ ⟨rfl,rfl,rfl,rfl,rfl,trivial⟩ rfl trivial rfl rfl ?_
 rintro i ⟨hi,hno⟩ ih
 clear hR
 refine zai Tk Tryz.func163 ?_
 refine zaf Tk Tryz.func163 rfl (fun g1 => ?_) (fun g1 => ?_)
 ·have h1:i < l.length:=by simpa using g1
  have gs:(l.map (fun s => [strI s]))[(i:Int).toNat]? = some ((fun s => [strI s]) l[i]):=zam h1
  have hps:=hp l[i] (List.getElem_mem h1)
  have hd:l.drop i = l[i] :: l.drop (i + 1):=List.drop_eq_getElem_cons h1
  rw [hd] at hno
  simp only [zan] at hno
  clear hd
  generalize l[i] = s at *
  refine zaj Tk Tryz.func163 (by exact ⟨by omega,by show (i:Int) < (l.length:Int); omega⟩) ?_
  refine zao Tk Tryz.func163 (gs) ?_
  refine zag Tk Tryz.func163 (hps) rfl rfl rfl rfl rfl ?_
  refine zaf Tk Tryz.func163 rfl (fun g2 => ?_) (fun g2 => ?_)
  ·rw [if_pos g2] at hno
   subst hno
   refine zad Tk (r:=ii (i:Int)) rfl rfl rfl trivial rfl rfl ?_
   rfl
  ·have g2:p s = false:=g2
   rw [if_neg (by rw [g2]; decide)] at hno
   refine zah ?_
   exact ih (i + 1) _ _ ⟨h1,hno⟩ (by omega) ⟨rfl,rfl,rfl,rfl,congrArg ii (zay h1 hl),trivial⟩ rfl trivial rfl rfl
 ·have h1:l.length ≤ i:=by simpa using g1
  rw [List.drop_eq_nil_of_le h1] at hno
  have hno:(-1:Int) = R:=hno
  subst hno
  refine zad Tk (r:=ii (-1)) rfl rfl rfl trivial rfl rfl ?_
  rfl
theorem zrj (O:List Heap) (l:List NTm) (f d nm:Nat) (p:NTm → Bool) (hl:l.length ≤ zap) (hp:∀ x ∈ l,zal Tryz.prog f [ntmD x,.own (d + 1) nm 0 0] ([] :: O) (bb (p x)) [] ([] :: O)) :
  zal Tryz.prog 225 [.i (.sl 2 l.length (l.map ntmI)),.fn (.func f) [] [.own d nm 0 0]] O (ii (zan p l 0)) [] O:=by
 generalize hR:zan p l 0 = R
 refine zaa Tk Tryz.func225 rfl Tryz.call225 Tryz.ntmps225 (Nat.le_of_ble_eq_true rfl) fun E => ?_
 refine zai Tk Tryz.func225 ?_
 refine zah ?_
 refine zak (fun i:Nat => [(0,.i (.sl 2 l.length (l.map ntmI))),(1,.fn (.func f) [] [.own (d + 1) nm 0 0]),(6,.i (.sl 2 l.length (l.map ntmI))),(7,ii l.length),(8,ii i)]) (fun _ => []) (fun _ => O) 19
  (fun i => i ≤ l.length ∧ zan p (l.drop i) i = R) (fun i => l.length - i) 0 ⟨Nat.zero_le _,hR⟩ ⟨rfl,rfl,rfl,rfl,rfl,trivial⟩ rfl trivial rfl rfl ?_
 rintro i ⟨hi,hno⟩ ih
 clear hR
 refine zai Tk Tryz.func225 ?_
 refine zaf Tk Tryz.func225 rfl (fun g1 => ?_) (fun g1 => ?_)
 ·have h1:i < l.length:=by simpa using g1
  have gs:(l.map ntmI)[(i:Int).toNat]? = some (ntmI l[i]):=zam h1
  have hps:=hp l[i] (List.getElem_mem h1)
  have hd:l.drop i = l[i] :: l.drop (i + 1):=List.drop_eq_getElem_cons h1
  rw [hd] at hno
  simp only [zan] at hno
  clear hd
  generalize l[i] = s at *
  refine zaj Tk Tryz.func225 (by exact ⟨by omega,by show (i:Int) < (l.length:Int); omega⟩) ?_
  refine zao Tk Tryz.func225 (gs) ?_
  refine zag Tk Tryz.func225 (hps) rfl rfl rfl rfl rfl ?_
  refine zaf Tk Tryz.func225 rfl (fun g2 => ?_) (fun g2 => ?_)
  ·rw [if_pos g2] at hno
   subst hno
   refine zad Tk (r:=ii (i:Int)) rfl rfl rfl trivial rfl rfl ?_
   rfl
  ·have g2:p s = false:=g2
   rw [if_neg (by rw [g2]; decide)] at hno
   refine zah ?_
   exact ih (i + 1) _ _ ⟨h1,hno⟩ (by omega) ⟨rfl,rfl,rfl,rfl,congrArg ii (zay h1 hl),trivial⟩ rfl trivial rfl rfl
 ·have h1:l.length ≤ i:=by simpa using g1
  rw [List.drop_eq_nil_of_le h1] at hno
  have hno:(-1:Int) = R:=hno
  subst hno
  refine zad Tk (r:=ii (-1)) rfl rfl rfl trivial rfl rfl ?_
  rfl
theorem zjE (O:List Heap) (l:List NLc) (f d nm:Nat) (p:NLc → Bool) (hl:l.length ≤ zap) (hp:∀ x ∈ l,zal Tryz.prog f [nlcD x,.own (d + 2) nm 0 0] ([] :: [] :: O) (bb (p x)) [] ([] :: [] :: O)) :
  zal Tryz.prog 165 [.i (.sl 2 l.length (l.map nlcI)),.fn (.func f) [] [.own d nm 0 0]] O (bb (l.any p)) [] O:=by
 have h:=fun O hp => zrk O l f (d + 1) nm p hl hp
 rw [← za5 p l 0]
 generalize zan p l 0 = R at *
 refine zaa Tk Tryz.func165 rfl Tryz.call165 Tryz.ntmps165 (Nat.le_of_ble_eq_true rfl) fun E => ?_
 refine zai Tk Tryz.func165 ?_
 refine zag Tk Tryz.func165 (h _ hp) rfl rfl rfl rfl rfl ?_
 refine zad Tk (r:=bb (decide (R ≥ 0))) rfl rfl rfl trivial rfl rfl ?_
 rfl
theorem zjD (O:List Heap) (l:List NTm) (f d nm:Nat) (p:NTm → Bool) (hl:l.length ≤ zap) (hp:∀ x ∈ l,zal Tryz.prog f [ntmD x,.own (d + 2) nm 0 0] ([] :: [] :: O) (bb (p x)) [] ([] :: [] :: O)) :
  zal Tryz.prog 168 [.i (.sl 2 l.length (l.map ntmI)),.fn (.func f) [] [.own d nm 0 0]] O (bb (l.any p)) [] O:=by
 have h:=fun O hp => zrj O l f (d + 1) nm p hl hp
 rw [← za5 p l 0]
 generalize zan p l 0 = R at *
 refine zaa Tk Tryz.func168 rfl Tryz.call168 Tryz.ntmps168 (Nat.le_of_ble_eq_true rfl) fun E => ?_
 refine zai Tk Tryz.func168 ?_
 refine zag Tk Tryz.func168 (h _ hp) rfl rfl rfl rfl rfl ?_
 refine zad Tk (r:=bb (decide (R ≥ 0))) rfl rfl rfl trivial rfl rfl ?_
 rfl
theorem zjG (O:List Heap) (l:List ByteArray) (f d nm:Nat) (p:ByteArray → Bool) (hl:l.length ≤ zap) (hp:∀ x ∈ l,zal Tryz.prog f [sD x,.own (d + 2) nm 0 0] ([] :: [] :: O) (bb (p x)) [] ([] :: [] :: O)) :
  zal Tryz.prog 122 [.i (.sl 1 l.length (l.map (fun s => [strI s]))),.fn (.func f) [] [.own d nm 0 0]] O (bb (l.any p)) [] O:=by
 have h:=fun O hp => zrm O l f (d + 1) nm p hl hp
 rw [← za5 p l 0]
 generalize zan p l 0 = R at *
 refine zaa Tk Tryz.func122 rfl Tryz.call122 Tryz.ntmps122 (Nat.le_of_ble_eq_true rfl) fun E => ?_
 refine zai Tk Tryz.func122 ?_
 refine zag Tk Tryz.func122 (h _ hp) rfl rfl rfl rfl rfl ?_
 refine zad Tk (r:=bb (decide (R ≥ 0))) rfl rfl rfl trivial rfl rfl ?_
 rfl
theorem zsP (O:List Heap) (x:Evt) (s:ByteArray) (d nm:Nat) (ho:zab O d nm = some (.box [sD s])):zal Tryz.prog 105 [evtD x,.own d nm 0 0] O (bb (sB x.name s)) [] O:=by
 rw [← zbj]
 refine zaa Tk Tryz.func105 rfl Tryz.call105 Tryz.ntmps105 (Nat.le_of_ble_eq_true rfl) fun E => ?_
 refine zai Tk Tryz.func105 ?_
 refine zb7 Tk Tryz.func105 (ho) ?_
 refine zad Tk (r:=bb (x.name.toList == s.toList)) rfl rfl rfl trivial rfl rfl ?_
 rfl
theorem zsO (O:List Heap) (x:Tpl) (s:ByteArray) (d nm:Nat) (ho:zab O d nm = some (.box [sD s])):zal Tryz.prog 107 [tplD x,.own d nm 0 0] O (bb (sB x.name s)) [] O:=by
 rw [← zbj]
 refine zaa Tk Tryz.func107 rfl Tryz.call107 Tryz.ntmps107 (Nat.le_of_ble_eq_true rfl) fun E => ?_
 refine zai Tk Tryz.func107 ?_
 refine zb7 Tk Tryz.func107 (ho) ?_
 refine zad Tk (r:=bb (x.name.toList == s.toList)) rfl rfl rfl trivial rfl rfl ?_
 rfl
theorem zsN (O:List Heap) (x:Ins) (s:ByteArray) (d nm:Nat) (ho:zab O d nm = some (.box [sD s])):zal Tryz.prog 109 [insD x,.own d nm 0 0] O (bb (sB x.name s)) [] O:=by
 rw [← zbj]
 refine zaa Tk Tryz.func109 rfl Tryz.call109 Tryz.ntmps109 (Nat.le_of_ble_eq_true rfl) fun E => ?_
 refine zai Tk Tryz.func109 ?_
 refine zb7 Tk Tryz.func109 (ho) ?_
 refine zad Tk (r:=bb (x.name.toList == s.toList)) rfl rfl rfl trivial rfl rfl ?_
 rfl
theorem zsM (O:List Heap) (x:Ins) (s:ByteArray) (d nm:Nat) (ho:zab O d nm = some (.box [sD s])):zal Tryz.prog 110 [insD x,.own d nm 0 0] O (bb (sB x.name s)) [] O:=by
 rw [← zbj]
 refine zaa Tk Tryz.func110 rfl Tryz.call110 Tryz.ntmps110 (Nat.le_of_ble_eq_true rfl) fun E => ?_
 refine zai Tk Tryz.func110 ?_
 refine zb7 Tk Tryz.func110 (ho) ?_
 refine zad Tk (r:=bb (x.name.toList == s.toList)) rfl rfl rfl trivial rfl rfl ?_
 rfl
theorem zsL (O:List Heap) (x:NEx) (s:ByteArray) (d nm:Nat) (ho:zab O d nm = some (.box [sD s])):zal Tryz.prog 112 [nexD x,.own d nm 0 0] O (bb (sB x.name s)) [] O:=by
 rw [← zbj]
 refine zaa Tk Tryz.func112 rfl Tryz.call112 Tryz.ntmps112 (Nat.le_of_ble_eq_true rfl) fun E => ?_
 refine zai Tk Tryz.func112 ?_
 refine zb7 Tk Tryz.func112 (ho) ?_
 refine zad Tk (r:=bb (x.name.toList == s.toList)) rfl rfl rfl trivial rfl rfl ?_
 rfl
theorem zsK (O:List Heap) (x:NCn) (s:ByteArray) (d nm:Nat) (ho:zab O d nm = some (.box [sD s])):zal Tryz.prog 114 [ncnD x,.own d nm 0 0] O (bb (sB x.name s)) [] O:=by
 rw [← zbj]
 refine zaa Tk Tryz.func114 rfl Tryz.call114 Tryz.ntmps114 (Nat.le_of_ble_eq_true rfl) fun E => ?_
 refine zai Tk Tryz.func114 ?_
 refine zb7 Tk Tryz.func114 (ho) ?_
 refine zad Tk (r:=bb (x.name.toList == s.toList)) rfl rfl rfl trivial rfl rfl ?_
 rfl
theorem zsJ (O:List Heap) (x:NLc) (s:ByteArray) (s2:ByteArray) (d nm:Nat) (ho:zab O d nm = some (.box [sD s,sD s2])):zal Tryz.prog 166 [nlcD x,.own d nm 0 0] O (bb (sB x.1 s)) [] O:=by
 rw [← zbj]
 refine zaa Tk Tryz.func166 rfl Tryz.call166 Tryz.ntmps166 (Nat.le_of_ble_eq_true rfl) fun E => ?_
 refine zai Tk Tryz.func166 ?_
 refine zb7 Tk Tryz.func166 (ho) ?_
 refine zad Tk (r:=bb (x.1.toList == s.toList)) rfl rfl rfl trivial rfl rfl ?_
 rfl
theorem zsI (O:List Heap) (x:NTm) (s:ByteArray) (s2:Int) (d nm:Nat) (ho:zab O d nm = some (.box [sD s,ii s2])):zal Tryz.prog 169 [ntmD x,.own d nm 0 0] O (bb (sB x.1 s)) [] O:=by
 rw [← zbj]
 refine zaa Tk Tryz.func169 rfl Tryz.call169 Tryz.ntmps169 (Nat.le_of_ble_eq_true rfl) fun E => ?_
 refine zai Tk Tryz.func169 ?_
 refine zb7 Tk Tryz.func169 (ho) ?_
 refine zad Tk (r:=bb (x.1.toList == s.toList)) rfl rfl rfl trivial rfl rfl ?_
 rfl
theorem zlh (O:List Heap) (l:List ByteArray) (s:ByteArray) (hl:l.length ≤ zap):zal Tryz.prog 164 [ssD l,sD s] O (ii (nmIx l s)) [] O:=by
 have e:nmIx l s = zan (fun x => s.toList == x.toList) l 0:=by
  unfold nmIx
  congr 1
  funext x
  rw [zbj,zsQ]
 rw [e]
 generalize hR:zan (fun x => s.toList == x.toList) l 0 = R
 refine zaa Tk Tryz.func164 rfl Tryz.call164 Tryz.ntmps164 (Nat.le_of_ble_eq_true rfl) fun E => ?_
 refine zai Tk Tryz.func164 ?_
 refine zah ?_
 refine zak (fun i:Nat => [(0,ssD l),(1,sD s),(6,ssD l),(7,ii l.length),(8,ii i)]) (fun _ => []) (fun _ => O) 19
  (fun i => i ≤ l.length ∧ zan (fun x => s.toList == x.toList) (l.drop i) i = R) (fun i => l.length - i) 0 ⟨Nat.zero_le _,hR⟩ ⟨rfl,rfl,rfl,rfl,rfl,trivial⟩ rfl trivial rfl rfl ?_
 rintro i ⟨hi,hno⟩ ih
 clear hR
 refine zai Tk Tryz.func164 ?_
 refine zaf Tk Tryz.func164 rfl (fun g1 => ?_) (fun g1 => ?_)
 ·have h1:i < l.length:=by simpa using g1
  have gs:(l.map fun s => [strI s])[(i:Int).toNat]? = some [strI l[i]]:=zam (f:=fun s => [strI s]) h1
  have hd:l.drop i = l[i] :: l.drop (i + 1):=List.drop_eq_getElem_cons h1
  rw [hd] at hno
  simp only [zan] at hno
  clear hd
  generalize l[i] = x at *
  refine zaj Tk Tryz.func164 (by exact ⟨by omega,by show (i:Int) < (l.length:Int); omega⟩) ?_
  refine zao Tk Tryz.func164 (gs) ?_
  refine zaf Tk Tryz.func164 rfl (fun g2 => ?_) (fun g2 => ?_)
  ·have g2:(s.toList == x.toList) = true:=g2
   rw [if_pos g2] at hno
   subst hno
   refine zad Tk (r:=ii (i:Int)) rfl rfl rfl trivial rfl rfl ?_
   rfl
  ·have g2:(s.toList == x.toList) = false:=g2
   rw [if_neg (by rw [g2]; decide)] at hno
   refine zah ?_
   exact ih (i + 1) _ _ ⟨h1,hno⟩ (by omega) ⟨rfl,rfl,rfl,rfl,congrArg ii (zay h1 hl),trivial⟩ rfl trivial rfl rfl
 ·have h1:l.length ≤ i:=by simpa using g1
  rw [List.drop_eq_nil_of_le h1] at hno
  have hno:(-1:Int) = R:=hno
  subst hno
  refine zad Tk (r:=ii (-1)) rfl rfl rfl trivial rfl rfl ?_
  rfl
theorem zbL (O:List Heap) (l:List ByteArray) (s:ByteArray) (hl:l.length ≤ zap):zal Tryz.prog 124 [ssD l,sD s] O (bb (hasB l s)) [] O:=by
 have h:=fun O => zlh O l s hl
 have e:hasB l s = decide (nmIx l s ≥ 0):=(za5 (fun x => sB x s) l 0).symm
 rw [e]
 generalize nmIx l s = R at *
 refine zaa Tk Tryz.func124 rfl Tryz.call124 Tryz.ntmps124 (Nat.le_of_ble_eq_true rfl) fun E => ?_
 refine zai Tk Tryz.func124 ?_
 refine zag Tk Tryz.func124 (h _) rfl rfl rfl rfl rfl ?_
 refine zad Tk (r:=bb (decide (R ≥ 0))) rfl rfl rfl trivial rfl rfl ?_
 rfl
end Go.AI
