/- The layer of abstract runs, part 27. -/
import Derived.Test.YtnojpbbaohoadaaGreatDoorCowZ
import Derived.RangeFuncBox
import Derived.RangeFuncLeaves
import Derived.Shelf.Abstract
import Derived.WalkKit
import Derived.OwnWalkIn
import Derived.TacticsInMore
import Derived.LoopNIn
import Derived.LoopIn
import Derived.Maps.AppendAt
import Derived.KernelRfl
set_option linter.unusedSimpArgs false
set_option linter.unusedVariables false
set_option linter.all false

set_option maxHeartbeats 4000000
namespace Go.AI
open Go.Proofs
set_option maxRecDepth 20000
abbrev zi9 (l:List (List Sta)):I:=.sl 1 l.length (l.map fun s => [I.sl 2 s.length (s.map staI)])
abbrev ochs (l:List Chc):Ob:=.arr 304 2 l.length (l.map chcI) true
abbrev llsI (l:List (List Loc2)):I:=.sl 1 l.length (l.map fun b => [lcsI b])
abbrev olls (l:List (List Loc2)):Ob:=.arr 124 1 l.length (l.map fun b => [lcsI b]) true
abbrev zgR (l:List XEx):I:=.sl 2 l.length (l.map xexI)
abbrev zoF (l:List XEx):Ob:=.arr 126 2 l.length (l.map xexI) true
structure lcOk (m:Mdl) (og:List (List Sta)) (x:NLc):Prop where
 ex:∃ (k k2:Nat) (c:Ins) (t:Tpl) (s:List Sta),nmIx (m.comps.map (·.name)) x.1 = (k:Int) ∧ m.comps[k]? = some c ∧ nmIx (m.tpls.map (·.name)) c.tpl = (k2:Int) ∧ m.tpls[k2]? = some t ∧ zcN m c = some t ∧ t.locs.length ≤ 1000000 ∧ og[k]? = some s ∧ s.length ≤ 100000
theorem zru {l:List ByteArray} {s:ByteArray} {k:Nat} (h:nmIx l s = (k:Int)):fndI l s = (k:Int):=by
 unfold fndI
 rw [h,if_neg (by omega)]
theorem ztP {m:Mdl} {og:List (List Sta)} {x:NLc} {k:Nat} {c:Ins} {t:Tpl} {s:List Sta} (h1:nmIx (m.comps.map (·.name)) x.1 = (k:Int)) (h2:m.comps[k]? = some c) (h3:zcN m c = some t) (h4:og[k]? = some s) :
  chcR m og x = ((k:Int),stAt (nmIx t.locs x.2) s 0):=by
 unfold chcR
 simp only [zru h1,Int.toNat_natCast,h2,h3]
 rw [List.getD_eq_getElem?_getD,h4]
 rfl
theorem zpE (l:List Chc) (y:Chc) (n:Int):chsN (l ++ [y]) n = if chsN l n * (y.2.length:Int) < 1048576 then chsN l n * (y.2.length:Int) else 1048576:=by
 induction l generalizing n with
 | nil => rfl
 | cons x r ih => simp only [List.cons_append,chsN]; exact ih _
theorem zhx:∀ (l:List Chc) {n:Int},0 ≤ n → n ≤ 1048576 → 0 ≤ chsN l n ∧ chsN l n ≤ 1048576
 | [],n,h,h2 => ⟨h,h2⟩
 | y :: r,n,h,h2 => by
  unfold chsN
  have:0 ≤ n * (y.2.length:Int):=Int.mul_nonneg h (by omega)
  split
  ·exact zhx r this (by omega)
  ·exact zhx r (by omega) (by omega)
def chsP:List Chc → Nat
 | [] => 1
 | y :: r => y.2.length * chsP r
theorem zly:∀ {l:List Chc},(l.any fun y => y.2.isEmpty) = false → 0 < chsP l
 | [],_ => Nat.one_pos
 | y :: r,h => by
  simp only [List.any_cons,Bool.or_eq_false_iff] at h
  have h1:0 < y.2.length:=by
   cases hy:y.2 with
   | nil => rw [hy] at h; simp at h
   | cons => simp
  exact Nat.mul_pos h1 (zly h.2)
theorem zpF:∀ {l:List Chc} {n:Nat},(l.any fun y => y.2.isEmpty) = false → 1 ≤ n → chsN l n ≤ 32 → n * chsP l ≤ 32
 | [],n,_,_,h => by simp only [chsN] at h; simp only [chsP]; omega
 | y :: r,n,h0,hn,h => by
  have h0':=h0
  simp only [List.any_cons,Bool.or_eq_false_iff] at h0
  have h1:0 < y.2.length:=by
   cases hy:y.2 with
   | nil => rw [hy] at h0; simp at h0
   | cons => simp
  unfold chsN at h
  split at h
  ·have h2:=zpF (n:=n * y.2.length) h0.2 (Nat.mul_pos hn h1) (by simpa using h)
   unfold chsP
   rw [← Nat.mul_assoc]
   exact h2
  ·exfalso
   have:∀ (l:List Chc),(l.any fun y => y.2.isEmpty) = false → ∀ k:Int,1048576 ≤ k → 1048576 ≤ chsN l k:=by
    intro l
    induction l with
    | nil => intro _ k hk; exact hk
    | cons z q ih =>
     intro hz k hk
     simp only [List.any_cons,Bool.or_eq_false_iff] at hz
     unfold chsN
     split
     ·rename_i hlt
      exfalso
      have:0 < z.2.length:=by
       cases hy:z.2 with
       | nil => rw [hy] at hz; simp at hz
       | cons => simp
      have:k * 1 ≤ k * (z.2.length:Int):=Int.mul_le_mul_of_nonneg_left (by omega) (by omega)
      omega
     ·exact ih hz.2 _ (Int.le_refl _)
   have:=this r h0.2 1048576 (Int.le_refl _)
   omega
theorem ziJ {l l':List Chc} (h:l.Perm l'):chsP l = chsP l':=by
 induction h with
 | nil => rfl
 | cons x _ ih => simp only [chsP,ih]
 | swap x y l => simp only [chsP]; rw [← Nat.mul_assoc,← Nat.mul_assoc,Nat.mul_comm x.2.length]
 | trans _ _ ih1 ih2 => exact ih1.trans ih2
theorem zgC (x:Chc):∀ l,(zdL x l).Perm (x :: l)
 | [] => .refl _
 | y :: r => by
  unfold zdL
  split
  ·exact .refl _
  ·exact ((zgC x r).cons y).trans (.swap x y r)
theorem zgp (l:List Chc):(zdy l).Perm l:=by
 have:∀ (r acc:List Chc),(r.foldl (fun acc x => zdL x acc) acc).Perm (acc ++ r):=by
  intro r
  induction r with
  | nil => intro acc; rw [List.append_nil]; exact .refl _
  | cons x r ih =>
   intro acc
   rw [List.foldl_cons]
   refine (ih _).trans ?_
   refine ((zgC x acc).append_right r).trans ?_
   exact List.perm_middle.symm
 exact this l []
theorem zpD (l:List Chc) (y:Chc) (all:List (List Loc2)):chsR (l ++ [y]) all = (chsR l all).flatMap fun b => y.2.map fun s => b ++ [(y.1,s)]:=by
 induction l generalizing all with
 | nil => rfl
 | cons x r ih => simp only [List.cons_append,chsR]; exact ih _
theorem zee:∀ (l:List Chc) (all:List (List Loc2)),(chsR l all).length = all.length * chsP l
 | [],all => by simp [chsR,chsP]
 | y :: r,all => by
  unfold chsR chsP
  rw [zee r]
  have:(all.flatMap fun b => y.2.map fun s => b ++ [(y.1,s)]).length = all.length * y.2.length:=by
   induction all with
   | nil => simp
   | cons a q ih => rw [List.flatMap_cons,List.length_append,List.length_map,ih,List.length_cons,Nat.add_mul]; omega
  rw [this,Nat.mul_assoc]
theorem ziI {l:List Chc} (h:0 < chsP l) (i:Nat):chsP (l.take i) ≤ chsP l:=by
 have:∀ (a b:List Chc),chsP (a ++ b) = chsP a * chsP b:=by
  intro a
  induction a with
  | nil => intro b; simp [chsP]
  | cons x r ih => intro b; simp only [List.cons_append,chsP,ih,Nat.mul_assoc]
 have h2:=this (l.take i) (l.drop i)
 rw [List.take_append_drop] at h2
 rw [h2] at h ⊢
 exact Nat.le_mul_of_pos_right _ (Nat.pos_of_mul_pos_left h)
theorem zlx:∀ (l:List Chc) {all:List (List Loc2)} {k:Nat},(∀ b ∈ all,b.length ≤ k) → ∀ b ∈ chsR l all,b.length ≤ k + l.length
 | [],all,k,h,b,hb => h b hb
 | y :: r,all,k,h,b,hb => by
  unfold chsR at hb
  have:=zlx r (k:=k + 1) (fun c hc => by
   simp only [List.mem_flatMap,List.mem_map] at hc
   obtain ⟨a,ha,s,_,rfl⟩:=hc
   have:=h a ha
   simp; omega) b hb
  rw [List.length_cons]; omega
end Go.AI


namespace Go.AI
open Go.Proofs
set_option maxRecDepth 20000
theorem zh4 (nm:ByteArray) (b:List Loc2):∀ (l:List (List Loc2)) (i:Nat),numX nm (l ++ [b]) i = numX nm l i ++ [⟨nm ++ ⟨#[95]⟩ ++ zd6 ((i + l.length:Nat):Int),b⟩]
 | [],i => rfl
 | a :: r,i => by
  simp only [List.cons_append,numX,zh4 nm b r (i + 1),List.length_cons]
  rw [show i + 1 + r.length = i + (r.length + 1) by omega]
theorem zha (nm:ByteArray):∀ (l:List (List Loc2)) (i:Nat),(numX nm l i).length = l.length
 | [],_ => rfl
 | a :: r,i => by simp [numX,zha nm r]
theorem zq5 (l:List Chc) (x:Chc):Ob.arr 304 2 (l.length + 1) (l.map chcI ++ [chcI x]) true = ochs (l ++ [x]):=by simp
set_option maxHeartbeats 8000000 in
theorem zpl {g:Nat} (hg:zdU g) {ty:TypeId} {fr:Nat × Nat} (O:List Heap) (m:Mdl) (x:NEx) (og:List (List Sta)) (most:Int) (hm:szOk m) (hl:x.locals.length ≤ 12) (hlc:∀ y ∈ x.locals,lcOk m og y) (hmost:most ≤ 32) (hxn:x.name.size ≤ 1000) :
  zbd g (ptab ty fr) Tryz.prog 137 [mdlD m,nexD x,.i (zi9 og),ii most] O (.tup [.i (zgR (expX m og x most).1),ii (expX m og x most).2]) [] O:=by
 have hf1:=fun O s => zdv O m 3 s hm
 rw [show namK m 3 = m.comps.map (·.name) from rfl] at hf1
 obtain ⟨xn,lcs⟩:=x
 simp only at hl hlc hxn
 generalize hR:expX m og ⟨xn,lcs⟩ most = R
 unfold expX at hR
 simp only at hR
 have hlen:(lcs.map (chcR m og)).length = lcs.length:=List.length_map ..
 generalize hL:lcs.map (chcR m og) = l at *
 have h1:=zhx l (n:=1) (by decide) (by decide)
 refine zaJ [200067,17,30] Tk Tryz.func137 rfl Tryz.call137 Tryz.ntmps137 (Nat.le_of_ble_eq_true rfl) fun E hE => ?_
 refine zai Tk Tryz.func137 ?_
 refine g_wk (zb1 10 59 304 2 rfl rfl rfl) ?_
 refine zah ?_
 refine zak (fun i:Nat => [(2,.i (zi9 og)),(3,ii most),(4,.own 0 4 0 0),(5,.own 0 5 0 0),(10,.osl 0 59),(11,ii (chsN (l.take i) 1)),(29,.i (zoK lcs)),(30,ii lcs.length),(31,ii i)])
  (fun i => [(4,.box (mdlC m)),(5,.box (nexC ⟨xn,lcs⟩)),(59,ochs (l.take i))]) (fun _ => O) 138
  (fun i => i ≤ lcs.length) (fun i => lcs.length - i) 0 (Nat.zero_le _) ⟨rfl,rfl,rfl,rfl,rfl,rfl,rfl,rfl,rfl,trivial⟩ rfl ⟨rfl,rfl,rfl,trivial⟩ rfl rfl ?_
 intro i hi ih
 have hi:i ≤ lcs.length:=hi
 refine zai Tk Tryz.func137 ?_
 refine zaf Tk Tryz.func137 rfl (fun g1 => ?_) (fun g1 => ?_)
 ·have g1:i < lcs.length:=by simpa using g1
  have gs:(lcs.map nlcI)[(i:Int).toNat]? = some (nlcI lcs[i]):=zam (f:=nlcI) g1
  obtain ⟨k,k2,c,t,s,e1,e2,e3,e4,e5,e6,e7,e8⟩:=(hlc lcs[i] (List.getElem_mem g1)).ex
  have hch:=ztP (x:=lcs[i]) e1 e2 e5 e7
  have ht:l.take (i + 1) = l.take i ++ [((k:Int),stAt (nmIx t.locs lcs[i].2) s 0)]:=by
   rw [List.take_succ_eq_append_getElem (by rw [hlen]; exact g1)]
   congr 2
   rw [← hch]
   subst hL
   simp
  have hN:=zpE (l.take i) ((k:Int),stAt (nmIx t.locs lcs[i].2) s 0) 1
  rw [← ht] at hN
  have hNb:=zhx (l.take i) (n:=1) (by decide) (by decide)
  have hf2:=fun O => hf1 O lcs[i].1
  rw [e1,zea] at hf2
  have hT:=fun O => zfd O m k k2 c t hm e2 e3 e4
  have hI:=fun O => zlh O t.locs lcs[i].2 (by simp only [zap]; omega)
  have hA:=fun O => zu3 O s (nmIx t.locs lcs[i].2) (by omega)
  have hsl:=zg0 (nmIx t.locs lcs[i].2) s 0
  have gk:k < og.length:=(List.getElem?_eq_some_iff.1 e7).1
  have gg:(og.map fun s => [I.sl 2 s.length (s.map staI)])[(k:Int).toNat]? = some [I.sl 2 s.length (s.map staI)]:=by rw [Int.toNat_natCast,List.getElem?_map,e7]; rfl
  have hl2:(l.take i).length = i:=by rw [List.length_take,hlen]; omega
  have hj1:ii (IntKind.i64.wrap ((i:Int) + 1)) = ii ((i + 1:Nat):Int):=congrArg ii (zay (n:=1000001) (by omega) (by decide))
  clear hch e1 e2 e3 e4 e5 e7 hf1 hlc hL
  generalize stAt (nmIx t.locs lcs[i].2) s 0 = S at *
  generalize nmIx t.locs lcs[i].2 = q at *
  generalize chsN (l.take i) 1 = N at *
  generalize l.take i = L at *
  generalize lcs[i] = y at *
  obtain ⟨cn,ln⟩:=y
  simp only at hf2 hI hN
  have hprod:0 ≤ N * (S.length:Int) ∧ N * (S.length:Int) ≤ 1048576 * 100000:=by
   refine ⟨Int.mul_nonneg hNb.1 (by omega),?_⟩
   exact Int.mul_le_mul hNb.2 (by omega) (by omega) (by decide)
  have hw:IntKind.i64.wrap (N * (S.length:Int)) = N * (S.length:Int):=w64 (by omega) (by omega)
  have hmin:(if (1048576:Int) < IntKind.i64.wrap (N * (S.length:Int)) then (1048576:Int) else IntKind.i64.wrap (N * (S.length:Int))) = chsN (l.take (i + 1)) 1:=by
   rw [hN,hw]
   generalize N * (S.length:Int) = P at *
   split <;> split <;> omega
  refine zaj Tk Tryz.func137 (by exact ⟨by omega,by show (i:Int) < (lcs.length:Int); omega⟩) ?_
  refine zao Tk Tryz.func137 (gs) ?_
  refine zag Tk Tryz.func137 (hf2 _) rfl rfl rfl rfl rfl ?_
  refine zaA Tk Tryz.func137 zaK rfl ?_
  refine zaE Tk (by exact ⟨by omega,by show (k:Int) < (og.length:Int); omega⟩) ?_
  refine zaN Tk (gg) ?_
  refine zaY Tk (fun _ => hT _) rfl rfl rfl ?_
  refine zaY Tk (fun _ => hI _) rfl rfl rfl ?_
  refine zaY Tk (fun _ => hA _) rfl rfl rfl ?_
  refine zaG Tk Tryz.func137 (by kernel_rfl) ?_
  refine zaj Tk Tryz.func137 (by exact ⟨by show (L.length + 1) * 32 ≤ 140737488355328; omega,by show L.length + 1 ≤ 9223372036854775807; omega⟩) ?_
  refine zah ?_
  refine ih (i + 1) _ _ g1 (by omega) ⟨rfl,rfl,rfl,rfl,rfl,congrArg ii hmin,rfl,rfl,hj1,trivial⟩ rfl ⟨rfl,rfl,?_,trivial⟩ rfl rfl
  rw [ht]
  exact congrArg some (zq5 L (k,S))
 have g1:lcs.length ≤ i:=by simpa using g1
 rw [List.take_of_length_le (by rw [hlen]; exact g1)]
 rw [← hlen] at hl
 clear ih hL hlc hf1 hi g1 hlen
 have hany:=fun O => zjC O l 177 (fun y => decide (y.2.length = 0)) (by simp only [zap]; omega) fun y _ => zs3 _ y
 have hae:(l.any fun y => decide (y.2.length = 0)) = l.any fun y => y.2.isEmpty:=by
  congr 1
  funext y
  cases y.2 <;> rfl
 rw [hae] at hany
 have hP:=fun h => zly (l:=l) h
 have hNP:=fun h => zpF (l:=l) (n:=1) h (Nat.le_refl _)
 generalize (l.any fun y => y.2.isEmpty) = A at *
 refine zb8 Tk Tryz.func137 rfl rfl rfl rfl (zbl (hany []) (zfk _) (.osl (.f .nil)) rfl (show 67 < 138 by decide) rfl rfl) ?_
 refine zaf Tk Tryz.func137 rfl (fun c1 => ?_) (fun c1 => ?_)
 ·have c1:A = true:=c1
  rw [if_pos c1] at hR
  subst hR
  refine zav Tk (r:=.tup [.i (.v (.slice none 0 0)),ii 0]) rfl rfl rfl trivial rfl rfl ?_
  repeat' (first | refine zcK ?_ | refine zcq ?_ | refine zc5 ?_ | refine CoDL.cons ?_ ?_ | exact CoDL.nil | exact zbn | refine zeJ ?_ | refine CoLL.cons ?_ ?_ | exact CoLL.nil | refine CoL.cons ?_ ?_ | exact CoL.nil | exact CoI.refl _ | exact CoL.refl _ | exact CoLL.refl _ | exact CoDL.refl _ | exact CoD.refl _)
 have c1:A = false:=c1
 rw [if_neg (zgc c1)] at hR
 generalize hN:chsN l 1 = N at *
 refine zaf Tk Tryz.func137 rfl (fun c2 => ?_) (fun c2 => ?_)
 ·have c2:N > most:=of_decide_eq_true c2
  rw [if_pos c2] at hR
  subst hR
  refine zav Tk (r:=.tup [.i (.v (.slice none 0 0)),ii 3]) rfl rfl rfl trivial rfl rfl ?_
  repeat' (first | refine zcK ?_ | refine zcq ?_ | refine zc5 ?_ | refine CoDL.cons ?_ ?_ | exact CoDL.nil | exact zbn | refine zeJ ?_ | refine CoLL.cons ?_ ?_ | exact CoLL.nil | refine CoL.cons ?_ ?_ | exact CoL.nil | exact CoI.refl _ | exact CoL.refl _ | exact CoLL.refl _ | exact CoDL.refl _ | exact CoD.refl _)
 have c2:¬ N > most:=of_decide_eq_false c2
 rw [if_neg c2] at hR
 have hP:=hP c1
 have hNP:=hNP c1 (by omega)
 rw [Nat.one_mul] at hNP
 have hpm:=zgp l
 rw [← ziJ hpm] at hP hNP
 have hsl:=zfh l
 have h178:=fun O d ho => zsy O d 59 l hl ho
 refine zag Tk Tryz.func137 (h178 _ 0 rfl) rfl rfl rfl (za1 (ob:=ochs l) rfl (by simp [Ob.sh,hsl])) rfl ?_
 rw [← hsl] at hl
 clear hpm h178 hsl
 generalize zdy l = sl at *
 refine zaU ?_
 refine zaT (zau 59 rfl rfl) ?_
 refine zaT (zkQ 73 (ys:=[[lcsI []]]) rfl rfl rfl (by simp; rfl) fun K vs h => ?_) ?_
 ·have h:RepL K vs [.v (.slice none 0 0)]:=h
  show RepL K vs [lcsI []]
  cases h with
  | cons h1 h =>
   cases h
   cases h1
   exact .cons .nil .nil
 refine zaT (zau 73 rfl rfl) ?_
 refine zai Tk Tryz.func137 ?_
 refine g_go Tk Tryz.func137 ?_
 refine zah ?_
 refine zak (fun i:Nat => [(5,.own 0 5 0 0),(17,.i (llsI (chsR (sl.take i) [[]]))),(74,.i (.sl 2 sl.length (sl.map chcI))),(75,ii sl.length),(76,ii i)])
  (fun i => [(5,.box (nexC ⟨xn,lcs⟩))]) (fun _ => O) 138
  (fun i => i ≤ sl.length) (fun i => sl.length - i) 0 (Nat.zero_le _) ⟨rfl,rfl,rfl,rfl,rfl,trivial⟩ rfl ⟨rfl,trivial⟩ rfl rfl ?_
 intro i hi ih
 have hi:i ≤ sl.length:=hi
 refine zai Tk Tryz.func137 ?_
 refine zaf Tk Tryz.func137 rfl (fun g1 => ?_) (fun g1 => ?_)
 ·have g1:i < sl.length:=by simpa using g1
  have gs:(sl.map chcI)[(i:Int).toNat]? = some (chcI sl[i]):=zam (f:=chcI) g1
  have hs1:chsR (sl.take (i + 1)) [[]] = (chsR (sl.take i) [[]]).flatMap fun b => sl[i].2.map fun s => b ++ [(sl[i].1,s)]:=by
   rw [List.take_succ_eq_append_getElem g1,zpD]
  have hlen1:(chsR (sl.take i) [[]]).length * sl[i].2.length ≤ 32:=by
   have h2:=zee (sl.take (i + 1)) [[]]
   have h3:=ziI hP (i + 1)
   rw [hs1] at h2
   have h4:((chsR (sl.take i) [[]]).flatMap fun b => sl[i].2.map fun s => b ++ [(sl[i].1,s)]).length = (chsR (sl.take i) [[]]).length * sl[i].2.length:=by
    generalize chsR (sl.take i) [[]] = Q
    induction Q with
    | nil => simp
    | cons a q ihq => rw [List.flatMap_cons,List.length_append,List.length_map,ihq,List.length_cons,Nat.add_mul]; omega
   rw [h4] at h2
   rw [h2]
   simp only [List.length_singleton,Nat.one_mul]
   omega
  have hmem:∀ b ∈ chsR (sl.take i) [[]],b.length ≤ 12:=by
   intro b hb
   have:=zlx (sl.take i) (all:=[[]]) (k:=0) (by simp) b hb
   rw [List.length_take] at this
   omega
  have hal:(chsR (sl.take i) [[]]).length ≤ 32:=by
   have h2:=zee (sl.take i) [[]]
   have h3:=ziI hP i
   rw [h2]
   simp only [List.length_singleton,Nat.one_mul]
   omega
  have hj1:ii (IntKind.i64.wrap ((i:Int) + 1)) = ii ((i + 1:Nat):Int):=congrArg ii (zay (n:=1000001) (by omega) (by decide))
  generalize chsR (sl.take i) [[]] = all at *
  generalize sl[i] = y at *
  obtain ⟨yc,st⟩:=y
  simp only at hs1 hlen1
  have hstl:all.length = 0 ∨ st.length ≤ 32:=by
   rcases Nat.eq_zero_or_pos all.length with h | h
   ·exact .inl h
   ·right
    exact Nat.le_trans (Nat.le_mul_of_pos_left _ h) hlen1
  refine zaj Tk Tryz.func137 (by exact ⟨by omega,by show (i:Int) < (sl.length:Int); omega⟩) ?_
  refine zao Tk Tryz.func137 (gs) ?_
  refine g_wk (zb1 20 103 124 1 rfl rfl rfl) ?_
  refine zah ?_
  refine zak (fun j:Nat => [(5,.own 0 5 0 0),(19,.own 0 19 0 0),(20,.osl 0 103),(74,.i (.sl 2 sl.length (sl.map chcI))),(75,ii sl.length),(76,ii i),(80,.i (llsI all)),(81,ii all.length),(82,ii j)])
   (fun j => [(5,.box (nexC ⟨xn,lcs⟩)),(19,.box [ii yc,ints st]),(103,olls ((all.take j).flatMap fun b => st.map fun s => b ++ [(yc,s)]))]) (fun _ => O) 138
   (fun j => j ≤ all.length) (fun j => all.length - j) 0 (Nat.zero_le _) ⟨rfl,rfl,rfl,rfl,rfl,rfl,rfl,rfl,rfl,trivial⟩ rfl ⟨rfl,rfl,rfl,trivial⟩ rfl rfl ?_
  intro j hj ih2
  have hj:j ≤ all.length:=hj
  refine zai Tk Tryz.func137 ?_
  refine zaf Tk Tryz.func137 rfl (fun g2 => ?_) (fun g2 => ?_)
  ·have g2:j < all.length:=by simpa using g2
   have gb:(all.map fun b => [lcsI b])[(j:Int).toNat]? = some [lcsI all[j]]:=zam (f:=fun b => [lcsI b]) g2
   have hb12:=hmem all[j] (List.getElem_mem g2)
   have hs2:(all.take (j + 1)).flatMap (fun b => st.map fun s => b ++ [(yc,s)]) = ((all.take j).flatMap fun b => st.map fun s => b ++ [(yc,s)]) ++ st.map fun s => all[j] ++ [(yc,s)]:=by
    rw [List.take_succ_eq_append_getElem g2,List.flatMap_append]
    simp
   have hacc:((all.take j).flatMap fun b => st.map fun s => b ++ [(yc,s)]).length = j * st.length:=by
    have:∀ Q:List (List Loc2),(Q.flatMap fun b => st.map fun s => b ++ [(yc,s)]).length = Q.length * st.length:=by
     intro Q
     induction Q with
     | nil => simp
     | cons a q ihq => rw [List.flatMap_cons,List.length_append,List.length_map,ihq,List.length_cons,Nat.add_mul]; omega
    rw [this,List.length_take,Nat.min_eq_left hj]
   have hj2:ii (IntKind.i64.wrap ((j:Int) + 1)) = ii ((j + 1:Nat):Int):=congrArg ii (zay (n:=1000001) (by omega) (by decide))
   have hbd:j * st.length ≤ 32:=Nat.le_trans (Nat.mul_le_mul_right _ (by omega)) hlen1
   generalize ((all.take j).flatMap fun b => st.map fun s => b ++ [(yc,s)]) = acc at *
   generalize all[j] = b at *
   refine zaj Tk Tryz.func137 (by exact ⟨by omega,by show (j:Int) < (all.length:Int); omega⟩) ?_
   refine zao Tk Tryz.func137 (gb) ?_
   refine zah ?_
   refine zak (fun k:Nat => [(5,.own 0 5 0 0),(19,.own 0 19 0 0),(20,.osl 0 103),(22,.i (lcsI b)),(74,.i (.sl 2 sl.length (sl.map chcI))),(75,ii sl.length),(76,ii i),(80,.i (llsI all)),(81,ii all.length),(82,ii j),(87,ints st),(88,ii st.length),(89,ii k)])
    (fun k => [(5,.box (nexC ⟨xn,lcs⟩)),(19,.box [ii yc,ints st]),(103,olls (acc ++ (st.take k).map fun s => b ++ [(yc,s)]))]) (fun _ => O) 138
    (fun k => k ≤ st.length) (fun k => st.length - k) 0 (Nat.zero_le _) ⟨rfl,rfl,rfl,rfl,rfl,rfl,rfl,rfl,rfl,rfl,rfl,rfl,rfl,trivial⟩ rfl ⟨rfl,rfl,by show some (olls acc) = some (olls (acc ++ [])); rw [List.append_nil],trivial⟩ rfl rfl ?_
   intro k hk ih3
   have hk:k ≤ st.length:=hk
   refine zai Tk Tryz.func137 ?_
   refine zaf Tk Tryz.func137 rfl (fun g3 => ?_) (fun g3 => ?_)
   ·have g3:k < st.length:=by simpa using g3
    have gk:(st.map fun x => [vi x])[(k:Int).toNat]? = some [vi st[k]]:=zam (f:=fun x => [vi x]) g3
    have hs3:acc ++ (st.take (k + 1)).map (fun s => b ++ [(yc,s)]) = (acc ++ (st.take k).map fun s => b ++ [(yc,s)]) ++ [b ++ [(yc,st[k])]]:=by
     rw [List.take_succ_eq_append_getElem g3,List.map_append,List.append_assoc]
     rfl
    have hll:(acc ++ (st.take k).map fun s => b ++ [(yc,s)]).length ≤ 64:=by
     rw [List.length_append,List.length_map,List.length_take]
     have:=hstl
     omega
    have hk2:ii (IntKind.i64.wrap ((k:Int) + 1)) = ii ((k + 1:Nat):Int):=congrArg ii (zay (n:=1000001) (by omega) (by decide))
    have hc:=fun O => zrJ O b (by omega)
    generalize (acc ++ (st.take k).map fun s => b ++ [(yc,s)]) = A2 at *
    generalize st[k] = s at *
    refine zaj Tk Tryz.func137 (by exact ⟨by omega,by show (k:Int) < (st.length:Int); omega⟩) ?_
    refine zao Tk Tryz.func137 (gk) ?_
    refine zaA Tk Tryz.func137 zaK rfl ?_
    refine zaY Tk (fun _ => hc _) rfl rfl rfl ?_
    refine zub Tk ⟨[(101,.osl 0 101),(95,.dead)],[(101,.arr 131 2 (b.length + 1) ((b.map zbB) ++ [[vi yc,vi s]]) true)],some 95⟩ rfl rfl ?_ ?_
    ·refine zls Tk (by exact ⟨by show (b.length + 1) * 16 ≤ 140737488355328; omega,by show b.length + 1 ≤ 9223372036854775807; omega⟩) ?_
     refine ztG Tk (p:=⟨[(101,.osl 0 101),(95,.dead)],[(101,.arr 131 2 (b.length + 1) ((b.map zbB) ++ [[vi yc,vi s]]) true)],some 95⟩) rfl rfl rfl ?_
     exact rfl
    refine zuc Tk ?_
    refine zls Tk (by exact ⟨by show (A2.length + 1) * 24 ≤ 140737488355328; omega,by show A2.length + 1 ≤ 9223372036854775807; omega⟩) ?_
    refine ztG Tk (p:=⟨[(103,.osl 0 103),(93,.dead),(20,.dead)],[(103,.arr 124 1 (A2.length + 1) ((A2.map fun b => [lcsI b]) ++ [[.sl 2 (b.length + 1) ((b.map zbB) ++ [[vi yc,vi s]])]]) true)],some 103⟩) rfl rfl rfl ?_
    refine zpx Tk Tryz.func137 (by kernel_rfl) (GM.h ?_)
    refine zah ?_
    refine ih3 (k + 1) _ _ g3 (by omega) ⟨rfl,rfl,rfl,rfl,rfl,rfl,rfl,rfl,rfl,rfl,rfl,rfl,hk2,trivial⟩ rfl ⟨rfl,rfl,?_,trivial⟩ rfl rfl
    rw [hs3]
    show some (Ob.arr 124 1 (A2.length + 1) ((A2.map fun b => [lcsI b]) ++ [[.sl 2 (b.length + 1) ((b.map zbB) ++ [[vi yc,vi s]])]]) true) = some (olls (A2 ++ [b ++ [(yc,s)]]))
    simp
   ·have g3:st.length ≤ k:=by simpa using g3
    rw [List.take_of_length_le g3]
    refine zah ?_
    refine ih2 (j + 1) _ _ g2 (by omega) ⟨rfl,rfl,rfl,rfl,rfl,rfl,rfl,rfl,hj2,trivial⟩ rfl ⟨rfl,rfl,?_,trivial⟩ rfl rfl
    rw [hs2]
    rfl
  ·have g2:all.length ≤ j:=by simpa using g2
   rw [List.take_of_length_le g2,← hs1]
   refine zaU ?_
   refine zaT (zau 103 rfl rfl) ?_
   refine zai Tk Tryz.func137 ?_
   refine g_go Tk Tryz.func137 ?_
   refine zah ?_
   exact ih (i + 1) _ _ g1 (by omega) ⟨rfl,rfl,rfl,rfl,hj1,trivial⟩ rfl ⟨rfl,trivial⟩ rfl rfl
 have g1:sl.length ≤ i:=by simpa using g1
 rw [List.take_of_length_le g1]
 have hall:=zee sl [[]]
 rw [List.length_singleton,Nat.one_mul] at hall
 clear ih g1 hi
 generalize chsR sl [[]] = all at *
 by_cases h5:all.length = 1
 ·obtain ⟨one,rfl⟩:∃ one,all = [one]:=by
   cases all with
   | nil => simp at h5
   | cons a r => cases r with
    | nil => exact ⟨a,rfl⟩
    | cons => simp at h5
  simp only at hR
  subst hR
  refine gcT Tk Tryz.func137 rfl ?_
  refine zaA Tk Tryz.func137 zaK rfl ?_
  refine zaE Tk (by exact ⟨by decide,by show (0:Int) < 1; decide⟩) ?_
  refine zaN Tk (rfl) ?_
  refine zaG Tk Tryz.func137 (by kernel_rfl) ?_
  refine zad Tk (r:=.tup [.i (zgR [⟨xn,one⟩]),ii 0]) rfl rfl rfl trivial rfl rfl ?_
  rfl
 ·have hR:(numX xn all 0,(0:Int)) = R:=by
   rw [← hR]
   cases all with
   | nil => rfl
   | cons a r => cases r with
    | nil => simp at h5
    | cons => rfl
  subst hR
  refine zaf Tk Tryz.func137 rfl (fun h6 => ?_) (fun h6 => ?_)
  ·exact absurd (beqT h6) (by omega)
  refine g_wk (zb1 25 135 126 2 rfl rfl rfl) ?_
  refine zah ?_
  refine zak (fun i:Nat => [(5,.own 0 5 0 0),(25,.osl 0 135),(118,.i (llsI all)),(119,ii all.length),(120,ii i)])
   (fun i => [(5,.box (nexC ⟨xn,lcs⟩)),(135,zoF (numX xn (all.take i) 0))]) (fun _ => O) 138
   (fun i => i ≤ all.length) (fun i => all.length - i) 0 (Nat.zero_le _) ⟨rfl,rfl,rfl,rfl,rfl,trivial⟩ rfl ⟨rfl,rfl,trivial⟩ rfl rfl ?_
  intro i hi ih
  have hi:i ≤ all.length:=hi
  refine zai Tk Tryz.func137 ?_
  refine zaf Tk Tryz.func137 rfl (fun g1 => ?_) (fun g1 => ?_)
  ·have g1:i < all.length:=by simpa using g1
   have gb:(all.map fun b => [lcsI b])[(i:Int).toNat]? = some [lcsI all[i]]:=zam (f:=fun b => [lcsI b]) g1
   have hs:numX xn (all.take (i + 1)) 0 = numX xn (all.take i) 0 ++ [⟨xn ++ ⟨#[95]⟩ ++ zd6 (i:Int),all[i]⟩]:=by
    rw [List.take_succ_eq_append_getElem g1,zh4,List.length_take,Nat.min_eq_left hi,Nat.zero_add]
   have hn:=zha xn (all.take i) 0
   rw [List.length_take] at hn
   have hit:=fun O => zgA hg (ty:=ty) (fr:=fr) O (i:Int) (by omega) (by omega)
   have hsz:=zbI (n:=(i:Int)) (by omega) (by omega)
   have hj1:ii (IntKind.i64.wrap ((i:Int) + 1)) = ii ((i + 1:Nat):Int):=congrArg ii (zay (n:=1000001) (by omega) (by decide))
   generalize numX xn (all.take i) 0 = X at *
   generalize all[i] = b at *
   generalize zd6 (i:Int) = T at *
   refine zaj Tk Tryz.func137 (by exact ⟨by omega,by show (i:Int) < (all.length:Int); omega⟩) ?_
   refine zao Tk Tryz.func137 (gb) ?_
   refine zaA Tk Tryz.func137 zaK rfl ?_
   refine zaE Tk (by show xn.size + 1 ≤ 9223372036854775807; omega) ?_
   refine zfn Tk hE (hit _) rfl rfl rfl rfl ?_
   refine zaE Tk (by rw [ByteArray.size_append]; show xn.size + 1 + T.size ≤ 9223372036854775807; omega) ?_
   refine zlq Tk Tryz.func137 ([10,11]) (by kernel_rfl) (by kernel_rfl) ?_
   refine zaj Tk Tryz.func137 (by exact ⟨by show (X.length + 1) * 40 ≤ 140737488355328; omega,by show X.length + 1 ≤ 9223372036854775807; omega⟩) ?_
   refine zah ?_
   refine ih (i + 1) _ _ g1 (by omega) ⟨rfl,rfl,rfl,rfl,hj1,trivial⟩ rfl ⟨rfl,?_,trivial⟩ rfl rfl
   rw [hs]
   show some (Ob.arr 126 2 (X.length + 1) (X.map xexI ++ [xexI ⟨xn ++ ⟨#[95]⟩ ++ T,b⟩]) true) = _
   simp [zoF]
  ·have g1:all.length ≤ i:=by simpa using g1
   rw [List.take_of_length_le g1]
   refine zbb (zau 135 rfl rfl) ?_
   refine zad Tk (r:=.tup [.i (zgR (numX xn all 0)),ii 0]) rfl rfl rfl trivial rfl rfl ?_
   rfl
end Go.AI


namespace Go.AI
open Go.Proofs
set_option maxRecDepth 20000
theorem zrx (m:Mdl) (og:List (List Sta)) (x:NEx) (most:Int) (hmost:most ≤ 32):(expX m og x most).1.length ≤ 40:=by
 unfold expX
 simp only
 generalize x.locals.map (chcR m og) = l
 cases hA:(l.any fun y => y.2.isEmpty) with
 | true => rw [if_pos rfl]; simp
 | false =>
  rw [if_neg (by decide)]
  by_cases h:chsN l 1 > most
  ·rw [if_pos h]; simp
  ·rw [if_neg h]
   have h1:=zpF (l:=l) (n:=1) hA (Nat.le_refl _) (by show chsN l 1 ≤ 32; omega)
   rw [Nat.one_mul,← ziJ (zgp l)] at h1
   have h2:=zee (zdy l) [[]]
   rw [List.length_singleton,Nat.one_mul] at h2
   generalize chsR (zdy l) [[]] = all at *
   cases all with
   | nil => simp [numX]
   | cons a r => cases r with
    | nil => simp
    | cons b q =>
     show (numX x.name (a :: b :: q) 0).length ≤ 40
     rw [zha]
     omega
def excX (m:Mdl) (og:List (List Sta)):List XEx × Plc × Int:=match zeR m og m.excs 0 [] [] with
 | .error (i,e) => ([],(5,(i:Int)),e)
 | .ok out => (out,(0,0),0)
abbrev excD (r:List XEx × Plc × Int):D:=.tup [.i (zgR r.1),.agg [ii r.2.1.1,ii r.2.1.2],ii r.2.2]
theorem ztJ {a b c:Int}:CoD (.tup [.i (.v (.slice none 0 0)),.agg [ii a,ii b],ii c]) (excD ([],(a,b),c)):=by
 repeat' (first | refine zcK ?_ | refine zcq ?_ | refine zc5 ?_ | refine CoDL.cons ?_ ?_ | exact CoDL.nil | exact zbn | refine zeJ ?_ | refine CoLL.cons ?_ ?_ | exact CoLL.nil | refine CoL.cons ?_ ?_ | exact CoL.nil | exact CoI.refl _ | exact CoL.refl _ | exact CoLL.refl _ | exact CoDL.refl _ | exact CoD.refl _)
theorem zoE (a b:List XEx):Ob.arr 126 2 (a.length + b.length) (a.map xexI ++ b.map xexI) true = zoF (a ++ b):=by simp
theorem ziD (O:List Heap) (b:List ByteArray) (s:ByteArray) (hl:b.length ≤ 1000000):zal Tryz.prog 124 [.i (.sl 1 b.length (b.map fun s => [strI s])),.i (strI s)] O (bb (hasB b s)) [] O:=zbL O b s (by simp only [zap]; omega)
theorem ziy {g:Nat} (hg:zdU g) {ty:TypeId} {fr:Nat × Nat} (O:List Heap) (m:Mdl) (og:List (List Sta)) (hm:szOk m) (hlen:m.excs.length ≤ 32) (hx:∀ x ∈ m.excs,x.locals.length ≤ 12 ∧ (∀ y ∈ x.locals,lcOk m og y) ∧ x.name.size ≤ 1000) :
  zbd g (ptab ty fr) Tryz.prog 56 [mdlD m,.i (zi9 og)] O (excD (excX m og)) [] O:=by
 have he:=fun O x (h:x ∈ m.excs) most (h2:most ≤ 32) => zpl hg (ty:=ty) (fr:=fr) O m x og most hm (hx x h).1 (hx x h).2.1 h2 (hx x h).2.2
 have hxl:=fun x most (h2:most ≤ 32) => zrx m og x most h2
 unfold excX
 generalize hK:zeR m og m.excs 0 [] [] = K
 clear hx
 have hex:∀ (x:NEx) (most:Int),∃ l e,expX m og x most = (l,e):=fun x most => ⟨_,_,rfl⟩
 have hun:∀ x r i seen out,zeR m og (x :: r) i seen out = if (expX m og x (32 - (out.length:Int))).2 ≠ 0 then .error (i,(expX m og x (32 - (out.length:Int))).2)
  else if (expX m og x (32 - (out.length:Int))).1.any (fun y => decide (y.name.size > 32)) = true then .error (i,7)
  else match dupX seen (expX m og x (32 - (out.length:Int))).1 with
   | .error _ => .error (i,8)
   | .ok seen' => zeR m og r (i + 1) seen' (out ++ (expX m og x (32 - (out.length:Int))).1):=fun x r i seen out => rfl
 have hnil:∀ i seen out,zeR m og [] i seen out = .ok out:=fun _ _ _ => rfl
 generalize expX m og = fX at *
 generalize zeR m og = fR at *
 obtain ⟨nm,evs,tpls,comps,reqs,l,cons⟩:=m
 simp only at hlen he hK
 refine zaJ [200050] Tk Tryz.func56 rfl Tryz.call56 Tryz.ntmps56 (Nat.le_of_ble_eq_true rfl) fun E hE => ?_
 refine zai Tk Tryz.func56 ?_
 refine g_wk (zb1 7 57 9 1 rfl rfl rfl) ?_
 refine g_wk (zb1 4 61 126 2 rfl rfl rfl) ?_
 refine zah ?_
 refine zak (fun x:Nat × List ByteArray × List XEx => [(1,.i (zi9 og)),(2,.own 0 2 0 0),(4,.osl 0 61),(5,.own 0 5 0 0),(7,.osl 0 57),(15,.i (zhb l)),(16,ii l.length),(17,ii x.1)])
  (fun x => [(2,.box (mdlC ⟨nm,evs,tpls,comps,reqs,l,cons⟩)),(5,plcN),(61,zoF x.2.2),(57,oss x.2.1)]) (fun _ => O) 65
  (fun x => x.1 ≤ l.length ∧ x.2.1.length ≤ 40 * x.1 ∧ x.2.2.length ≤ 40 * x.1 ∧ fR (l.drop x.1) x.1 x.2.1 x.2.2 = K) (fun x => l.length - x.1) (0,[],[]) ⟨Nat.zero_le _,Nat.le_refl _,Nat.le_refl _,hK⟩ ⟨rfl,rfl,rfl,rfl,rfl,rfl,rfl,rfl,trivial⟩ rfl ⟨rfl,rfl,rfl,rfl,trivial⟩ rfl rfl ?_
 clear hK
 rintro ⟨i,seen,out⟩ ⟨hi,hse,hou,hno⟩ ih
 simp only at hi hse hou hno
 refine zai Tk Tryz.func56 ?_
 refine zaf Tk Tryz.func56 rfl (fun g1 => ?_) (fun g1 => ?_)
 ·have g1:i < l.length:=by simpa using g1
  have gs:(l.map nexI)[(i:Int).toNat]? = some (nexI l[i]):=zam (f:=nexI) g1
  have hw:IntKind.i64.wrap (32 - (out.length:Int)) = 32 - (out.length:Int):=w64 (by omega) (by omega)
  have hc:=fun O => he O l[i] (List.getElem_mem g1) (32 - (out.length:Int)) (by omega)
  rw [← hw] at hc
  have hX:=hxl l[i] (32 - (out.length:Int)) (by omega)
  rw [List.drop_eq_getElem_cons g1,hun] at hno
  have hj1:ii (IntKind.i64.wrap ((i:Int) + 1)) = ii ((i + 1:Nat):Int):=congrArg ii (zay (n:=1000001) (by omega) (by decide))
  rw [← hw] at hno hX
  clear he hxl hun
  generalize l[i] = x at *
  obtain ⟨xl,xe,hx⟩:=hex x (IntKind.i64.wrap (32 - (out.length:Int)))
  rw [hx] at hc hX hno
  clear hx hex
  obtain ⟨xn,xlc⟩:=x
  simp only at hc hX hno
  have hany:=fun O => zjF O xl 139 (fun y => decide (y.name.size > 32)) (by simp only [zap]; omega) fun y _ => ztb _ y
  generalize (xl.any fun y => decide (y.name.size > 32)) = A at *
  refine zaj Tk Tryz.func56 (by exact ⟨by omega,by show (i:Int) < (l.length:Int); omega⟩) ?_
  refine zao Tk Tryz.func56 (gs) ?_
  refine zbf Tk Tryz.func56 hE (hc _) rfl rfl rfl rfl rfl rfl ?_
  refine zaf Tk Tryz.func56 rfl (fun c1 => ?_) (fun c1 => ?_)
  ·have c1:xe ≠ 0:=bneT c1
   rw [if_pos c1] at hno
   subst hno
   refine zav Tk (r:=.tup [.i (.v (.slice none 0 0)),.agg [ii 5,ii i],ii xe]) rfl rfl rfl trivial rfl rfl ?_
   exact ztJ
  have c1:¬ xe ≠ 0:=fun h => h (bneF c1)
  rw [if_neg c1] at hno
  refine zag Tk Tryz.func56 (hany _) rfl rfl rfl rfl rfl ?_
  refine zaf Tk Tryz.func56 rfl (fun c2 => ?_) (fun c2 => ?_)
  ·have c2:A = true:=c2
   rw [if_pos c2] at hno
   subst hno
   refine zav Tk (r:=.tup [.i (.v (.slice none 0 0)),.agg [ii 5,ii i],ii 7]) rfl rfl rfl trivial rfl rfl ?_
   exact ztJ
  have c2:¬ A = true:=zgc c2
  rw [if_neg c2] at hno
  clear hc hany
  generalize hD:dupX seen xl = Dp at hno
  refine zah ?_
  refine zak (fun x:Nat × List ByteArray => [(1,.i (zi9 og)),(2,.own 0 2 0 0),(4,.osl 0 61),(5,.own 0 5 0 0),(7,.osl 0 57),(8,ii i),(10,.i (zgR xl)),(15,.i (zhb l)),(16,ii l.length),(17,ii i),(41,.i (zgR xl)),(42,ii xl.length),(43,ii x.1)])
   (fun x => [(2,.box (mdlC ⟨nm,evs,tpls,comps,reqs,l,cons⟩)),(5,plcN),(61,zoF out),(57,oss x.2)]) (fun _ => O) 65
   (fun x => x.1 ≤ xl.length ∧ x.2.length = seen.length + x.1 ∧ dupX x.2 (xl.drop x.1) = Dp) (fun x => xl.length - x.1) (0,seen) ⟨Nat.zero_le _,rfl,hD⟩ ⟨rfl,rfl,rfl,rfl,rfl,rfl,rfl,rfl,rfl,rfl,rfl,rfl,rfl,trivial⟩ rfl ⟨rfl,rfl,rfl,rfl,trivial⟩ rfl rfl ?_
  clear hD
  rintro ⟨k,sk⟩ ⟨hk,hskl,hdk⟩ ih2
  simp only at hk hskl hdk
  refine zai Tk Tryz.func56 ?_
  refine zaf Tk Tryz.func56 rfl (fun g2 => ?_) (fun g2 => ?_)
  ·have g2:k < xl.length:=by simpa using g2
   have gk:(xl.map xexI)[(k:Int).toNat]? = some (xexI xl[k]):=zam (f:=xexI) g2
   have hk1:ii (IntKind.i64.wrap ((k:Int) + 1)) = ii ((k + 1:Nat):Int):=congrArg ii (zay (n:=1000001) (by omega) (by decide))
   rw [List.drop_eq_getElem_cons g2] at hdk
   simp only [dupX] at hdk
   generalize xl[k] = y at *
   obtain ⟨yn,yl⟩:=y
   simp only at hdk
   have hh:=ziD [] sk yn (by omega)
   generalize hasB sk yn = hb at *
   refine zaj Tk Tryz.func56 (by exact ⟨by omega,by show (k:Int) < (xl.length:Int); omega⟩) ?_
   refine zao Tk Tryz.func56 (gk) ?_
   refine zb8 Tk Tryz.func56 rfl rfl rfl rfl (zbl hh (zfk _) (.osl (.i .nil)) rfl (show 50 < 65 by decide) rfl rfl) ?_
   refine zaf Tk Tryz.func56 rfl (fun c3 => ?_) (fun c3 => ?_)
   ·have c3:hb = true:=c3
    rw [if_pos c3] at hdk
    subst hdk
    simp only at hno
    subst hno
    refine zav Tk (r:=.tup [.i (.v (.slice none 0 0)),.agg [ii 5,ii i],ii 8]) rfl rfl rfl trivial rfl rfl ?_
    exact ztJ
   have c3:¬ hb = true:=zgc c3
   rw [if_neg c3] at hdk
   refine zaj Tk Tryz.func56 (by exact ⟨by show (sk.length + 1) * 16 ≤ 140737488355328; omega,by show sk.length + 1 ≤ 9223372036854775807; omega⟩) ?_
   refine zah ?_
   exact ih2 (k + 1,sk ++ [yn]) _ _ ⟨g2,by simp only [List.length_append,List.length_singleton]; omega,hdk⟩ (by simp only; omega) ⟨rfl,rfl,rfl,rfl,rfl,rfl,rfl,rfl,rfl,rfl,rfl,rfl,hk1,trivial⟩ rfl ⟨rfl,rfl,rfl,congrArg some (zdf sk yn),trivial⟩ rfl rfl
  ·have g2:xl.length ≤ k:=by simpa using g2
   rw [List.drop_eq_nil_of_le g2] at hdk
   have hdk:Except.ok sk = Dp:=hdk
   subst hdk
   simp only at hno
   refine zaj Tk Tryz.func56 (by exact ⟨by show (out.length + xl.length) * 40 ≤ 140737488355328; omega,by show out.length + xl.length ≤ 9223372036854775807; omega⟩) ?_
   refine zah ?_
   exact ih (i + 1,sk,out ++ xl) _ _ ⟨g1,by simp only; omega,by simp only [List.length_append]; omega,hno⟩ (by simp only; omega) ⟨rfl,rfl,rfl,rfl,rfl,rfl,rfl,hj1,trivial⟩ rfl ⟨rfl,rfl,congrArg some (zoE out xl),rfl,trivial⟩ rfl rfl
 ·have g1:l.length ≤ i:=by simpa using g1
  rw [List.drop_eq_nil_of_le g1,hnil] at hno
  subst hno
  refine zbb (zau 61 rfl rfl) ?_
  refine zad Tk (r:=excD (out,(0,0),0)) rfl rfl rfl trivial rfl rfl ?_
  rfl
end Go.AI


namespace Go.AI
open Go.Proofs
set_option maxRecDepth 20000
abbrev zuk (l:List Ex):Ob:=.arr 184 4 l.length (exIs l) true
theorem zoJ (l:List Ex) (x:Ex):Ob.arr 184 4 (l.length + 1) (exIs l ++ [exI x]) true = zuk (l ++ [x]):=by simp [zhr]
theorem zrK (O:List Heap) (l:List Vr) (hl:l.length ≤ 1000000):zal Tryz.prog 131 [vrs l] O (vrs l) [] O:=by
 refine zaa Tk Tryz.func131 rfl Tryz.call131 Tryz.ntmps131 (Nat.le_of_ble_eq_true rfl) fun E => ?_
 refine zai Tk Tryz.func131 ?_
 refine zlj Tk Tryz.func131 rfl rfl fun b hb => ?_
 refine zaf Tk Tryz.func131 rfl (fun h1 => ?_) (fun h1 => ?_)
 ·have hl0:l = []:=List.eq_nil_of_length_eq_zero (hb h1)
  subst hl0
  refine zav Tk (r:=.i (.v (.slice none 0 0))) rfl rfl rfl trivial rfl rfl ?_
  exact zc5 zbn
 ·refine zaj Tk Tryz.func131 (by exact ⟨by show (0 + l.length) * 40 ≤ 140737488355328; omega,by show 0 + l.length ≤ 9223372036854775807; omega⟩) ?_
  refine zbb (zeA (l:=[(2,.osl 0 7)]) (Hv:=[(7,.arr 115 4 (0 + l.length) ([] ++ l.map vrI) true)]) ⟨rfl,trivial⟩ rfl ⟨rfl,trivial⟩ rfl rfl) ?_
  rw [Nat.zero_add,List.nil_append]
  refine zbb (zau 7 rfl rfl) ?_
  refine zad Tk (r:=vrs l) rfl rfl rfl trivial rfl rfl ?_
  rfl
theorem ziG {n:Int}:∀ (N:Nat) (x:Ex),SizeOf.sizeOf x < N → wfE n x → ∀ O,zal Tryz.prog 134 [exA x] O (exA x) [] O:=by
 intro N
 induction N with
 | zero => intro x h; omega
 | succ N ihN =>
  intro x hs hwf O
  obtain ⟨op,v,ix,args⟩:=x
  simp only [wfE] at hwf
  obtain ⟨hform,hwf⟩:=hwf
  obtain ⟨ha,hb,-,-⟩:=zbW hform
  have hch:∀ e ∈ args,∀ O,zal Tryz.prog 134 [exA e] O (exA e) [] O:=by
   intro e he O
   refine ihN e ?_ (zdV hwf e he) O
   have:=List.sizeOf_lt_of_mem he
   simp only [Ex.mk.sizeOf_spec] at hs
   omega
  have hlen3:args.length ≤ 3:=by have:=zhA op; omega
  clear ihN hs
  show zal Tryz.prog 134 [.agg [ii op,ii v,ii ix,exs args]] O (.agg [ii op,ii v,ii ix,exs args]) [] O
  refine zaa Tk Tryz.func134 rfl Tryz.call134 Tryz.ntmps134 (Nat.le_of_ble_eq_true rfl) fun E => ?_
  refine zai Tk Tryz.func134 ?_
  refine g_wk (za0 3 20 184 4 (pre:=[ii op,ii v,ii ix]) (post:=[]) rfl rfl rfl) ?_
  refine zah ?_
  refine zak (fun i:Nat => [(2,.own 0 2 0 0),(3,.own 0 3 0 0),(9,exs args),(10,ii args.length),(11,ii i)]) (fun i => [(3,.box [ii op,ii v,ii ix,.osl 0 20]),(20,zuk (args.take i)),(2,.box [ii 0,ii 0,ii 0,.i (.v (.slice none 0 0))])]) (fun _ => O) 24
   (fun i => i ≤ args.length) (fun i => args.length - i) 0 (Nat.zero_le _) ⟨rfl,rfl,rfl,rfl,rfl,trivial⟩ rfl ⟨rfl,rfl,rfl,trivial⟩ rfl rfl ?_
  intro i hi ih
  have hi:i ≤ args.length:=hi
  refine zai Tk Tryz.func134 ?_
  refine zaf Tk Tryz.func134 rfl (fun g1 => ?_) (fun g1 => ?_)
  ·have g1:i < args.length:=by simpa using g1
   have hg:=ze2 g1
   have hc:=hch _ (List.getElem_mem g1)
   have ht:args.take (i + 1) = args.take i ++ [args[i]]:=List.take_succ_eq_append_getElem g1
   have htl:(args.take i).length = i:=by rw [List.length_take]; omega
   generalize args[i] = e at *
   generalize args.take i = l at *
   obtain ⟨eo,ev,ex,ea⟩:=e
   refine zaj Tk Tryz.func134 (by exact ⟨by omega,by show (i:Int) < (args.length:Int); omega⟩) ?_
   refine zao Tk Tryz.func134 (hg) ?_
   refine zaA Tk Tryz.func134 zaK rfl ?_
   refine zaY Tk (fun _ => hc _) rfl rfl rfl ?_
   refine zlq Tk Tryz.func134 ([5,6,7]) (by kernel_rfl) (by kernel_rfl) ?_
   refine zaj Tk Tryz.func134 (by exact ⟨by show (l.length + 1) * 48 ≤ 140737488355328; omega,by show l.length + 1 ≤ 9223372036854775807; omega⟩) ?_
   refine zah ?_
   refine ih (i + 1) _ _ g1 (by omega) ⟨rfl,rfl,rfl,rfl,congrArg ii (zay (n:=16) (by omega) (by decide)),trivial⟩ rfl ⟨rfl,by rw [ht]; exact congrArg some (zoJ l ⟨eo,ev,ex,ea⟩),rfl,trivial⟩ rfl rfl
  ·have g1:args.length ≤ i:=by simpa using g1
   rw [List.take_of_length_le g1]
   refine zbb (zau 20 rfl rfl) ?_
   refine zbb (zb2 rfl) ?_
   refine zad Tk (r:=.agg [ii op,ii v,ii ix,exs args]) rfl rfl rfl trivial rfl rfl ?_
   rfl
end Go.AI


namespace Go.Proofs
open Go.RowKit Go.Shelf
attribute [local go_sem] Oper.semAt_some
def zdx {α:Type} (f:Nat → α) (k:Nat):List α:=(List.range k).map f
theorem zgm {α:Type} (f:Nat → α) (k:Nat):zdx f (k + 1) = zdx f k ++ [f k]:=by simp [zdx,List.range_succ]
theorem zhF {α:Type} (f:Nat → α) (k:Nat):(zdx f k).length = k:=by simp [zdx]
theorem zn5 (zs:List Int):zdx (fun j => zs[j]?.getD 0) zs.length = zs:=by
 apply List.ext_getElem
 ·simp [zdx]
 ·intro i h1 h2
  simp [zdx,h2]
set_option maxRecDepth 100000 in
theorem zqE (F:Fence) (n:Nat) (h7:F.fn 173) (hro:F.round = none) (hn:1 ≤ n) (l Bs Bo n₀ b off len cap:Nat) (zs:List Int) (hreach:len * 8 ≤ 140737488351232) (hb:b < n₀) (J Jx:List Int → World → Prop)
  (hY:∀ pre x W,J pre W → pre.length < len → YieldAt F (n - 1) Tryz.prog l #[.int .i64 x] W fun e W' =>
   (e = .returned (.bool true) ∧ J (pre ++ [x]) W' ∧ Below n₀ W W') ∨ (e = .returned (.bool false) ∧ Jx (pre ++ [x]) W'))
  (W:World) (hBs:W.cell? ⟨Bs,Bo,none⟩ = some (.slice (some ⟨b,off,none⟩) len cap)) (hc:∀ j,j < len → W.cell? ⟨b,off + j,none⟩ = some (.int .i64 (zs[j]?.getD 0))) (h0:J [] W) :
  CallsIn F n Tryz.prog 173 #[.func (.yield l) #[] #[],.pointer (some ⟨Bs,Bo,none⟩)] W fun e W' => (∃ v,e = .returned v) ∧
   ((∃ ys,ys = zdx (fun j => zs[j]?.getD 0) len ∧ J ys W') ∨ (∃ pre,(∃ k,k ≤ len ∧ pre = zdx (fun j => zs[j]?.getD 0) k) ∧ Jx pre W')):=by
 refine callsIn_of_wp Tryz.func173 rfl h7 ?_ hro
 simp only [Tryz.ntmps173,List.size_toArray,List.length_cons,List.length_nil,Nat.reduceAdd,Nat.reduceSub,Array.replicate_succ,Array.replicate_zero,List.push_toArray,List.append_toArray,List.nil_append,List.cons_append]
 gi_wp2
 gi_loopw [7] (fun i wr => ∃ k:Nat,k ≤ len ∧ i = .int .i64 k ∧ J (zdx (fun j => zs[j]?.getD 0) k) wr ∧ Below n₀ W wr)
  (fun i _ => len - (intOf i).toNat)
 case atStart => exact ⟨0,Nat.zero_le _,rfl,h0,Below.refl _ _⟩
 case round =>
  obtain ⟨k,hk,rfl,hJs,hnx⟩:=hrel
  have hcx:k < len → wr.cell? ⟨b,off + k,none⟩ = some (.int .i64 (zs[k]?.getD 0)):=fun h => (hnx.cell (p:=⟨b,off + k,none⟩) hb).trans (hc k h)
  by_cases hlt:k < len
  ·obtain ⟨fn,tmps,assign,body,hy,hR⟩:=hY _ (zs[k]?.getD 0) wr hJs (by rw [zhF]; exact hlt)
   have hcx':=hcx hlt
   gi_wp2
   refine hR.mono ?_
   rintro e W3 (⟨rfl,hJ3,hk3⟩ | ⟨rfl,hJx3⟩)
   ·gi_wp2
    go_roundw
    case rel => exact ⟨k + 1,by omega,by simp,by rw [zgm]; exact hJ3,hnx.trans hk3⟩
    case measure => simp [intOf]; omega
   ·gi_wp2
    refine bodyPost_ret (results_none rfl _ _ _) rfl ?_
    exact ⟨⟨_,rfl⟩,.inr ⟨_,⟨k + 1,by omega,(zgm _ _).symm⟩,hJx3⟩⟩
  ·obtain rfl:k = len:=by omega
   gi_wp2
   go_end0
   exact ⟨⟨_,rfl⟩,.inl ⟨_,rfl,hJs⟩⟩
theorem zmB (zs:List Int) {k:Nat} (hk:k ≤ zs.length):zdx (fun j => zs[j]?.getD 0) k = zs.take k:=by
 apply List.ext_getElem
 ·simp [zdx,hk]
 ·intro i h1 h2
  have:i < zs.length:=by simp [zdx] at h1; omega
  simp [zdx,this]
def IntsM (n₀:Nat) (W:World) (sv:Value) (zs:List Int):Prop:=
 (∃ a cap,sv = .slice a 0 cap ∧ zs = []) ∨ ∃ b off cap,sv = .slice (some ⟨b,off,none⟩) zs.length cap ∧ b < n₀ ∧ ∀ j,j < zs.length → W.cell? ⟨b,off + j,none⟩ = some (.int .i64 (zs[j]?.getD 0))
theorem IntsM.below {n₀:Nat} {A B:World} (h:Below n₀ A B) {sv:Value} {zs:List Int}:IntsM n₀ A sv zs → IntsM n₀ B sv zs
 | .inl e => .inl e
 | .inr ⟨b,off,cap,e,hb,hc⟩ => .inr ⟨b,off,cap,e,hb,fun j hj => (h.cell (p:=⟨b,off + j,none⟩) hb).trans (hc j hj)⟩
set_option maxRecDepth 100000 in
theorem zhE (F:Fence) (n:Nat) (h7:F.fn 173) (hro:F.round = none) (l Bs Bo:Nat) (a:Option Addr) (cap:Nat) (J:List Int → World → Prop) (W:World) (hBs:W.cell? ⟨Bs,Bo,none⟩ = some (.slice a 0 cap)) (h0:J [] W) :
  CallsIn F n Tryz.prog 173 #[.func (.yield l) #[] #[],.pointer (some ⟨Bs,Bo,none⟩)] W fun e W' => (∃ v,e = .returned v) ∧ J [] W':=by
 refine callsIn_of_wp Tryz.func173 rfl h7 ?_ hro
 simp only [Tryz.ntmps173,List.size_toArray,List.length_cons,List.length_nil,Nat.reduceAdd,Nat.reduceSub,Array.replicate_succ,Array.replicate_zero,List.push_toArray,List.append_toArray,List.nil_append,List.cons_append]
 gi_wp2
 gi_loopw [7] (fun i wr => i = .int .i64 0 ∧ J [] wr) (fun _ _ => 0)
 case atStart => exact ⟨rfl,h0⟩
 case round =>
  obtain ⟨rfl,hJs⟩:=hrel
  gi_wp2
  go_end0
  exact ⟨⟨_,rfl⟩,hJs⟩
theorem zgU (F:Fence) (n:Nat) (h7:F.fn 173) (hro:F.round = none) (hn:1 ≤ n) (Bs Bo n₀:Nat) (sv:Value) (zs:List Int) (hreach:zs.length * 8 ≤ 140737488351232) (w:World) (hBs:Bs < w.heap.size) (hn₀:n₀ ≤ w.heap.size)
  (hc:w.cell? ⟨Bs,Bo,none⟩ = some sv) (hI:IntsM n₀ w sv zs) :
  SeqStopsK F n Tryz.prog 173 #[.pointer (some ⟨Bs,Bo,none⟩)] (fun x:Int => #[Value.int .i64 x]) (Below n₀) (fun ys => ys = zs) (fun pre => pre <+: zs) zs.length w:=fun l J Jx W hW _ _ hY h0 => by
 have hc':=(hW.cell (p:=⟨Bs,Bo,none⟩) hBs).trans hc
 rcases hI.below (hW.mono hn₀) with ⟨a,cap,rfl,rfl⟩ | ⟨b,off,cap,rfl,hb,hcs⟩
 ·exact (zhE F n h7 hro l Bs Bo a cap J W hc' h0).mono fun e W' ⟨he,hj⟩ => ⟨he,.inl ⟨_,rfl,hj⟩⟩
 ·refine (zqE F n h7 hro hn l Bs Bo n₀ b off zs.length cap zs hreach hb J Jx hY W hc' hcs h0).mono ?_
  rintro e W' ⟨he,⟨ys,rfl,hj⟩ | ⟨pre,⟨k,hk,rfl⟩,hj⟩⟩
  ·exact ⟨he,.inl ⟨_,zn5 zs,hj⟩⟩
  ·exact ⟨he,.inr ⟨_,by rw [zmB zs hk]; exact List.take_prefix _ _,hj⟩⟩
theorem zmy (F:Fence) (n:Nat) (h5:F.fn 133) (hro:F.round = none) (a:Option Addr) (len cap:Nat) (w:World) :
  CallsIn F n Tryz.prog 133 #[.slice a len cap] w fun e w' => e = .returned (.func (.func 173) #[] #[.pointer (some ⟨w.heap.size,0,none⟩)]) ∧ w' = w.alloc (.cells #[.slice a len cap] 55):=by
 refine callsIn_of_wp Tryz.func133 rfl h5 ?_ hro
 simp only [Tryz.ntmps133,List.size_toArray,List.length_cons,List.length_nil,Nat.reduceAdd,Nat.reduceSub,Array.replicate_succ,Array.replicate_zero,List.push_toArray,List.append_toArray,List.nil_append,List.cons_append]
 gi_wp2
 go_ret
 exact ⟨rfl,rfl⟩
theorem zsp (a:Option Addr) (len cap:Nat) (w:World) :
  Calls Tryz.prog 133 #[.slice a len cap] w fun e w' => e = .returned (.func (.func 173) #[] #[.pointer (some ⟨w.heap.size,0,none⟩)]) ∧ w' = w.alloc (.cells #[.slice a len cap] 55):=
 callsIn_wide.1 (zmy Fence.wide 1 trivial rfl a len cap w)
theorem zuB:(Tryz.prog.info? 3).map (fun i => (i.zero,i.size,i.bytes)) = some (some (.int .i64 0),1,8):=by kernel_rfl
set_option maxRecDepth 100000 in
theorem zhB (F:Fence) (n:Nat) (h3:F.fn 226) (h5:F.fn 173) (hro:F.round = none) (hn:3 ≤ n) (Bs Bo:Nat) (sv:Value) (xs:List Int) (hlen:xs.length ≤ maxLen) (hbytes:xs.length * 8 ≤ 140737488351232) (w:World) (hBs:Bs < w.heap.size) (hc0:w.cell? ⟨Bs,Bo,none⟩ = some sv) (hL:IntsM w.heap.size w sv xs) :
  CallsIn F n Tryz.prog 226 #[.slice none 0 0,.func (.func 173) #[] #[.pointer (some ⟨Bs,Bo,none⟩)]] w fun e W' => ∃ v,e = .returned v ∧ W'.ownsRow w.heap.size 3 1 v xs.length (xs.map (Value.int .i64)) ∧ (v = .slice none 0 0 ↔ xs = []) ∧ Below w.heap.size w W':=by
 have h1:1 ≤ n:=by omega
 obtain ⟨i0,hi,hz0,hz1,hz2⟩:=info_parts zuB
 refine callsIn_of_wp_marks Tryz.func226 rfl h3 ?_ hro
 simp only [Tryz.ntmps226,List.size_toArray,List.length_cons,List.length_nil,Nat.reduceAdd,Nat.reduceSub,Array.replicate_succ,Array.replicate_zero,List.push_toArray,List.append_toArray,List.nil_append,List.cons_append]
 gi_wp2
 have bO:=Boxed.new w 55 (.slice none 0 0)
 have hB0:Below w.heap.size w (w.alloc (.cells #[.slice none 0 0] 55)):=(Below.refl _ w).alloc (Nat.le_refl _) _
 refine wpIn_rangeFunc_ownG hro h1 (gf:=173) (lb:=#[.pointer (some ⟨Bs,Bo,none⟩)]) rfl h5 (enters_of Tryz.func173 (by kernel_rfl) rfl)
  (zgU F (n - 1) h5 hro (by omega) Bs Bo w.heap.size sv xs hbytes _ (by simp; omega) (by simp) ((hB0.cell (p:=⟨Bs,Bo,none⟩) hBs).trans hc0) (hL.below hB0)) belowK_t (belowK_b (by simp)) (Below.refl _ _) (fun _ => rfl)
  (fun pre W => (∃ v,Boxed W w.heap.size 55 v ∧ W.ownsRow w.heap.size 3 1 v pre.length (pre.map (Value.int .i64)) ∧ (v = .slice none 0 0 ↔ pre = [])) ∧ Below w.heap.size w W)
  (fun _ _ _ => False)
  (OwnFrom.and (Own.from (holdsRow_own w.heap.size w.heap.size 55 3 1 (fun pre => pre.length) (fun pre => pre.map (Value.int .i64)) (fun pre v => v = .slice none 0 0 ↔ pre = [])) _) (ownFrom_below (Nat.le_refl _) (by simp)))
  (fun _ _ _ _ _ hs _ _ => hs)
  ⟨⟨_,bO,World.ownsRow_nil _ _ _ _,by simp⟩,hB0⟩
  (fun x => { tmps:=#[.slice none 0 0,.func (.func 173) #[] #[.pointer (some ⟨Bs,Bo,none⟩)],.pointer (some ⟨w.heap.size,0,none⟩),undef,.slice none 0 0,.int .i64 x,.func (.func 173) #[] #[.pointer (some ⟨Bs,Bo,none⟩)],.int .i64 x,undef,undef,undef,undef,undef],defers:=[] }) ?assign ?body ?done ?stop
 case assign =>
  intro l x W K hK
  gi_wp2
  exact hK
 case body =>
  rintro l pre x W ⟨⟨v,hv,hrow,hnil⟩,hB⟩ hlt
  have hc:=hv.cell
  gi_wp2_with (gi_at_builtin; refine wpListIn_append_own _ rfl _ _ 55 rfl w.heap.size 3 i0 (.int .i64 0) 1 8 Tryz.underlying55 hi hz0 hz1 hz2 rfl (by decide) _ _ _ rfl (hrow.alloc _) ⟨W.heap.size,0,none⟩ 1 1 [.int .i64 x] rfl rfl (cell_one_new _ _ _) (by simp [Value.oneCell']) (by omega) (by omega) (by have:=hB.size; simp; omega) ?_; intro v' w1 hown' hgrow _; obtain ⟨g',cap',rfl⟩:=ownsRow_succ hown'; obtain ⟨hv1,hv2,hr2,hk2,hb2⟩:=hv.appended (by decide) hrow hB.size (Nat.le_refl _) hown' hgrow; have hc1:=hv1.cell; have hf1:=hv1.frozen)
  exact ⟨hk2.from _,hb2,⟨_,hv2,by simpa using hr2,by simp⟩,hB.trans hb2⟩
 case done =>
  rintro D ys W hD rfl ⟨⟨v,hv,hrow,hnil⟩,hB⟩ hK
  have hc:=hv.cell
  gi_wp2
  refine ⟨by simp,.inl ⟨_,_,rfl,run_takeDeferred hK,?_⟩⟩
  exact ⟨_,results_tmp rfl _ _ _,v,rfl,ownsRow_putObj hrow _ hK rfl,hnil,hB.trans (belowK_b (w:=w) (Nat.le_refl _) W D _ _ (by simp at hD; omega) hK rfl rfl)⟩
 case stop =>
  rintro D c pre W _ _ h _
  exact h.elim
theorem znp (Bs Bo:Nat) (sv:Value) (xs:List Int) (hlen:xs.length ≤ maxLen) (hbytes:xs.length * 8 ≤ 140737488351232) (w:World) (hBs:Bs < w.heap.size) (hc0:w.cell? ⟨Bs,Bo,none⟩ = some sv) (hL:IntsM w.heap.size w sv xs) :
  Calls Tryz.prog 226 #[.slice none 0 0,.func (.func 173) #[] #[.pointer (some ⟨Bs,Bo,none⟩)]] w fun e W' => ∃ v,e = .returned v ∧ W'.ownsRow w.heap.size 3 1 v xs.length (xs.map (Value.int .i64)) ∧ (v = .slice none 0 0 ↔ xs = []) ∧ Below w.heap.size w W':=
 callsIn_wide.1 (zhB Fence.wide 3 trivial trivial rfl (Nat.le_refl _) Bs Bo sv xs hlen hbytes w hBs hc0 hL)
end Go.Proofs


namespace Go.AI
open Go.Proofs
set_option maxRecDepth 20000
theorem ziP (O:List Heap) (l:List Int) (hl:l.length ≤ 1000000):zal Tryz.prog 226 [.i (.v (.slice none 0 0)),.fn (.func 173) [] [.i (.ptr 1 [[zcO l]] 0 0)]] O (.osl 0 207) [(207,zbP l)] O:=by
 intro E K ρ w vs hw hrep
 obtain ⟨b,o,sv,rfl,hsv,hKb⟩:∃ b o sv,vs = [.slice none 0 0,.func (.func 173) #[] #[.pointer (some ⟨b,o,none⟩)]] ∧ Rep K sv (zcO l) ∧ K b o = some sv:=by
  cases hrep with
  | cons r1 rs =>
   cases rs with
   | cons r2 rs =>
    cases rs
    have e1:=zaD r1
    subst e1
    cases r2 with
    | fn h1 h2 =>
     cases h1
     cases h2 with
     | cons h3 h4 =>
      cases h4
      cases h3 with
      | i h3 =>
       cases h3 with
       | ptr p1 p2 p3 =>
        rename_i b o cs
        cases p1 with
        | cons q1 q2 =>
         cases q2
         exact ⟨b,o,_,rfl,q1,by simpa using p3 0 _ rfl⟩
 obtain ⟨ρ1,hρ1,hI⟩:=zcx hw
 have hc0:=hw.holds _ _ _ hKb
 have hlt:∀ {b o:Nat} {x:Value},w.cell? ⟨b,o,none⟩ = some x → b < w.heap.size:=by
  intro b o x h
  rcases Nat.lt_or_ge b w.heap.size with h' | h'
  ·exact h'
  ·simp [World.cell?,Array.getElem?_eq_none h'] at h
 have hIn:IntsM w.heap.size w sv l:=by
  cases l with
  | nil =>
   cases hsv with
   | nil => exact .inl ⟨_,_,rfl,rfl⟩
   | sl a1 a2 a3 a4 a5 => exact .inl ⟨_,_,rfl,rfl⟩
  | cons x r =>
   cases hsv with
   | sl a1 a2 a3 a4 a5 =>
    have e:=zfu a1
    refine .inr ⟨_,_,_,rfl,hlt (hw.holds _ _ _ (a3 0 (.int .i64 x) (by rw [e]; rfl))),fun j hj => ?_⟩
    refine hw.holds _ _ _ (a3 j _ ?_)
    rw [e,List.getElem?_map,List.getElem?_eq_getElem hj]
    rfl
 refine .inl ⟨Tryz.call226 _ _,?_⟩
 refine (znp b o sv l (by simp only [maxLen]; omega) (by omega) w (hlt hc0) hc0 hIn).mono ?_
 rintro e w' ⟨v,rfl,hrow,_,hB⟩
 obtain ⟨lc,hv,hown,hbk⟩:∃ lc:Loc,v = .slice lc.base l.length lc.cap ∧ OwnAt K (upd ρ1 207 lc) (shape (addS ([] :: O) [(207,zbP l)])) w' lc (zbP l) ∧ (zat lc (zbP l) → w.heap.size ≤ lc.block):=by
  rcases hrow.2 with ⟨rfl,h0⟩ | ⟨g,cap,cur,rfl,hg,hgb,h1,h2,h3,h4⟩
  ·have hl0:l = []:=List.eq_nil_of_length_eq_zero h0
   subst hl0
   exact ⟨⟨0,0,none⟩,rfl,⟨by simp,rfl,Nat.le_refl _,Nat.zero_le _,.inl ⟨rfl,rfl⟩⟩,fun h => absurd rfl h⟩
  ·refine ⟨⟨g,cap,some ⟨g,0,none⟩⟩,rfl,⟨fun d hd => by obtain ⟨x,_,rfl⟩:=List.mem_map.1 hd; rfl,by simp,h1,h2,.inr ⟨rfl,cur,hgb,h3,?_,fun _ o => hw.K_fresh hg,fun o _ => hw.K_fresh hg,fun h => by cases h⟩⟩,fun _ => hg⟩
   rw [h4]
   exact zfI l
 have hgrow:Grow K ρ1 ([] :: O) w [(207,zbP l)] K (upd ρ1 207 lc) w':=by
  refine ⟨K.le_refl,fun _ _ _ h => .inl h,hB.size,fun k hk => hB.block k hk,⟨hB.tape,hB.os,hB.output⟩,?_,?_,?_,?_⟩
  ·intro dep nm h
   refine zaw _ _ _ ?_
   rcases h with h | h
   ·exact .inl h
   ·refine .inr fun e => ?_
    subst e
    simp [zac] at h
  ·intro b o x h
   have h1:=hw.holds _ _ _ h
   rw [World.cell?,hB.block _ (hlt h1)]
   exact h1
  ·intro nm ob h
   rw [zac] at h
   split at h
   ·rename_i e
    subst e
    cases h
    rw [zaB]
    exact ⟨hown,hbk⟩
   ·simp [look] at h
  ·intro nm ob nm' ob' h h' _ _ _
   rw [zac] at h h'
   split at h
   ·split at h'
    ·rename_i e1 e2; rw [← e1,← e2]
    ·simp [look] at h'
   ·simp [look] at h
 obtain ⟨hI2,hst⟩:=HInv.grow (S:=[] :: O) rfl hI (fun _ _ _ e => e) (fun _ h => by simp [look]) hgrow
 refine ⟨_,rfl,K,upd ρ1 207 lc,hI2,?_⟩
 rw [hv]
 have:=RepD.osl (K:=K) (ρ:=upd ρ1 207 lc) (sh:=shape ([(207,zbP l)] :: O)) (dep:=0) (nm:=207) (es:=1) (len:=l.length) (by simp [shape,zab,zac,Ob.sh])
 rwa [zaB] at this
theorem znk (O:List Heap) (l:List Int) (hl:l.length ≤ 1000000):zal Tryz.prog 171 [.fn (.func 173) [] [.i (.ptr 1 [[zcO l]] 0 0)]] O (.osl 0 207) [(207,zbP l)] O:=by
 have h:=fun O => ziP O l hl
 refine zaa Tk Tryz.func171 rfl Tryz.call171 Tryz.ntmps171 (Nat.le_of_ble_eq_true rfl) fun E => ?_
 refine zai Tk Tryz.func171 ?_
 refine zag Tk Tryz.func171 (h _) rfl rfl rfl rfl rfl ?_
 exact ⟨zar (hT:=Tk) (r:=.osl 0 207) rfl rfl rfl ⟨⟨_,rfl,rfl⟩,trivial⟩ (zfp _ _ _) rfl rfl⟩
theorem zoj (O:List Heap) (l:List Int) (hl:l.length ≤ 1000000):zal Tryz.prog 132 [.fn (.func 173) [] [.i (.ptr 1 [[zcO l]] 0 0)]] O (ints (zcB l)) [] O:=by
 have h:=fun O => znk O l hl
 refine zaO [2] Tk Tryz.func132 rfl Tryz.call132 Tryz.ntmps132 (Nat.le_of_ble_eq_true rfl) fun E => ?_
 refine zai Tk Tryz.func132 ?_
 refine zag Tk Tryz.func132 (h _) rfl rfl rfl rfl rfl ?_
 refine zaU ?_
 by_cases h0:l = []
 ·subst h0
  have h2:=fun O => zsx O
  refine zaT (zau 207 rfl rfl) ?_
  refine zai Tk Tryz.func132 ?_
  refine g_go Tk Tryz.func132 ?_
  refine zag Tk Tryz.func132 (h2 _) rfl rfl rfl rfl rfl ?_
  refine zad Tk (r:=ints []) rfl rfl rfl trivial rfl rfl ?_
  rw [show zcB [] = [] from List.eq_nil_of_length_eq_zero (by rw [zfi]; rfl)]
 ·have h2:=fun O d ho => zt4 O d 207 l (List.length_pos_iff.2 h0) (by omega) ho
  refine zai Tk Tryz.func132 ?_
  refine g_go Tk Tryz.func132 ?_
  refine zag Tk Tryz.func132 (h2 _ 0 rfl) rfl rfl rfl (za1 (ob:=zbP l) rfl (by simp [Ob.sh,zfi])) rfl ?_
  refine zbb (zau 207 rfl rfl) ?_
  refine zad Tk (r:=ints (zcB l)) rfl rfl rfl trivial rfl rfl ?_
  rfl
theorem zqX {K:Kn} {v:Value} {es n:Nat} {xs:List (List I)} (h:Rep K v (.sl es n xs)):∃ a len cap,v = .slice a len cap:=by
 cases h with
 | nil => exact ⟨_,_,_,rfl⟩
 | sl => exact ⟨_,_,_,rfl⟩
theorem zn4 (O:List Heap) (l:List Int):zal Tryz.prog 133 [ints l] O (.fn (.func 173) [] [.i (.ptr 1 [[zcO l]] 0 0)]) [] O:=by
 intro E K ρ w vs hw hrep
 obtain ⟨sv,rfl,hsv⟩:∃ sv,vs = [sv] ∧ Rep K sv (zcO l):=by
  cases hrep with
  | cons r rs =>
   cases rs
   cases r with
   | i r => exact ⟨_,rfl,r⟩
 obtain ⟨a,len,cap,rfl⟩:∃ a len cap,sv = .slice a len cap:=zqX hsv
 refine .inl ⟨Tryz.call133 _ _,(zsp a len cap w).mono ?_⟩
 rintro e w' ⟨rfl,rfl⟩
 obtain ⟨ρ1,hρ1,hI⟩:=zcx hw
 obtain ⟨K',hg,hr⟩:=zio hI (cs:=#[.slice a len cap]) (es:=1) (n:=1) (xs:=[[zcO l]]) (ty:=55) (by simp) rfl (.cons hsv .nil)
 obtain ⟨hI2,hst⟩:=HInv.grow (S:=[] :: O) rfl hI (fun _ _ _ e => e) (fun _ h => by simp [look] at h) hg
 refine ⟨_,rfl,K',ρ1,hI2,.fn (first:=[]) .nil (.cons (.i ?_) .nil)⟩
 cases hr with
 | sl a1 a2 a3 a4 a5 =>
  have:=Rep.ptr (i:=0) (off:=0) a1 a2 a3
  simpa using this
end Go.AI


namespace Go.AI
open Go.Proofs
set_option maxRecDepth 20000
theorem zhJ {x:Ex} {n k:Int} (h:zbo x n k = 0):wfE n x:=by
 unfold zbo at h
 by_cases h1:(zbU x n).2 = 0 ∧ (zbU x n).1 ≠ k
 ·rw [if_pos h1] at h; cases h
 ·rw [if_neg h1] at h
  exact zeZ x n 1 0 (ziK h).1
theorem zfa {n:Int}:∀ {l:List Upd} {p:Int},p < n → zcf n (some p) l = 0 → (l.length:Int) ≤ n - 1 - p ∧ ∀ u ∈ l,zbo u.x n 1 = 0
 | [],p,hp,_ => ⟨by simp; omega,by simp⟩
 | u :: r,p,hp,h => by
  simp only [zcf] at h
  by_cases h1:u.v < 0 ∨ u.v ≥ n
  ·rw [if_pos h1] at h; cases h
  rw [if_neg h1] at h
  by_cases h2:(some p).any (fun x => decide (u.v ≤ x)) = true
  ·rw [if_pos h2] at h; cases h
  rw [if_neg h2] at h
  by_cases h3:zbo u.x n 1 ≠ 0
  ·rw [if_pos h3] at h; exact absurd h h3
  rw [if_neg h3] at h
  have h2:¬ u.v ≤ p:=by simpa using h2
  obtain ⟨h4,h5⟩:=zfa (by omega) h
  refine ⟨by rw [List.length_cons]; omega,fun x hx => ?_⟩
  rcases List.mem_cons.1 hx with rfl | hx
  ·exact Classical.byContradiction h3
  ·exact h5 x hx
theorem zmC {n:Int} (hn:0 ≤ n) {l:List Upd} (h:zcf n none l = 0):(l.length:Int) ≤ n ∧ ∀ u ∈ l,zbo u.x n 1 = 0:=by
 cases l with
 | nil => exact ⟨by simpa using hn,by simp⟩
 | cons u r =>
  simp only [zcf] at h
  by_cases h1:u.v < 0 ∨ u.v ≥ n
  ·rw [if_pos h1] at h; cases h
  rw [if_neg h1] at h
  rw [if_neg (by simp)] at h
  by_cases h3:zbo u.x n 1 ≠ 0
  ·rw [if_pos h3] at h; exact absurd h h3
  rw [if_neg h3] at h
  obtain ⟨h4,h5⟩:=zfa (by omega) h
  refine ⟨by rw [List.length_cons]; omega,fun x hx => ?_⟩
  rcases List.mem_cons.1 hx with rfl | hx
  ·exact Classical.byContradiction h3
  ·exact h5 x hx
abbrev zoG (l:List Upd):Ob:=.arr 189 5 l.length (l.map updI) true
abbrev zmw:List D:=[.i (.v (.slice none 0 0)),ii 0,ii 0,.i (.v (.slice none 0 0)),.i (.v (.slice none 0 0)),.i (.v (.slice none 0 0))]
structure mchOk (m:Mdl) (x:Ins) (t:Tpl):Prop where
 tp:zcN m x = some t
 mem:t ∈ m.tpls
 right:extRight t.mach
 len:x.evs.length = t.evs.length
 alpha:t.mach.alpha = (List.range t.evs.length).map (fun k => ((k:Nat):Int))
 mvl:t.mach.moves.length ≤ 19
abbrev evI (m:Mdl) (x:Ins):List Int:=x.evs.map fun s => fndI (m.evs.map (·.name)) s
def mvEv (evs:List Int) (y:Mv):Mv:={ y with ev:=evs.getD y.ev.toNat 0 }
theorem zh9 (O:List Heap) (m:Mdl) (x:Ins) (t:Tpl) (hm:mdlOk m) (hx:x.evs.length ≤ 1000000) (h:mchOk m x t):zal Tryz.prog 55 [mdlD m,insD x] O (extD (mchE m x t)) [] O:=by
 have hf:=fun O => zdv O m 2 x.tpl hm.toszOk
 rw [show namK m 2 = m.tpls.map (·.name) from rfl] at hf
 have hf1:=fun O s => zdv O m 1 s hm.toszOk
 rw [show namK m 1 = m.evs.map (·.name) from rfl] at hf1
 have htp:=h.tp
 unfold zcN at htp
 rcases zfU Tpl.name m.tpls x.tpl with ⟨h1,_⟩ | ⟨k,t',h1,h2,h3⟩
 ·rw [h1] at htp; cases htp
 rw [h2] at htp
 cases htp
 rw [h3,zea] at hf
 clear h2 h3
 have hkl:k < m.tpls.length:=(List.getElem?_eq_some_iff.1 h1).1
 have gt:(m.tpls.map tplI)[(k:Int).toNat]? = some (tplI t):=by rw [Int.toNat_natCast,List.getElem?_map,h1]; rfl
 clear h1
 have hok:=(hm.tpk t h.mem).mo
 have hr:=h.right
 have hvl:t.mach.vars.length ≤ 16:=by
  have:=hr.vars
  unfold zbr at this
  by_cases hc:t.mach.vars.length > 16
  ·rw [if_pos hc] at this; cases this
  ·omega
 have hmk:t.mach.marked.length ≤ 1000:=by
  have:=zeg (n:=t.mach.locs) (by have:=hr.locs; omega) hr.marked
  have:=hr.locs
  omega
 have hmvl:=h.mvl
 have hevb:∀ y ∈ t.mach.moves,0 ≤ y.ev ∧ y.ev < (x.evs.length:Int):=by
  intro y hy
  have:=(hr.mv y hy).ev
  rw [h.alpha] at this
  simp only [List.mem_map,List.mem_range] at this
  obtain ⟨j,hj,e⟩:=this
  rw [h.len]
  omega
 have hcl:∀ y ∈ t.mach.moves,(∀ O,zal Tryz.prog 134 [exA y.g] O (exA y.g) [] O) ∧ y.us.length ≤ 1000 ∧ ∀ u ∈ y.us,∀ O,zal Tryz.prog 134 [exA u.x] O (exA u.x) [] O:=by
  intro y hy
  have hy:=hr.mv y hy
  obtain ⟨h4,h5⟩:=zmC (by omega) hy.us
  exact ⟨fun O => ziG _ y.g (Nat.lt_succ_self _) (zhJ hy.g) O,by omega,fun u hu O => ziG _ u.x (Nat.lt_succ_self _) (zhJ (h5 u hu)) O⟩
 have h86:=fun O => zlv O t.mach.marked (by simp only [big]; omega)
 have h131:=fun O => zrK O t.mach.vars (by omega)
 have h135:=fun O d nm l hl ho => zsz O d nm l hl ho
 clear hok hr h
 have hxe:∀ s,fndI (m.evs.map (·.name)) s = fnd0 (nmIx (m.evs.map (·.name)) s):=fun s => rfl
 generalize hR:mchE m x t = R
 unfold mchE at hR
 simp only [zsw] at hR
 change (⟨zcB (evI m x),t.mach.locs,t.mach.init,t.mach.marked,t.mach.vars,zcS (t.mach.moves.map (mvEv (evI m x)))⟩:Ext) = R at hR
 obtain ⟨tn,tl,te,⟨al,lo,ini,mk,vr,mo⟩⟩:=t
 simp only at gt hvl hmk hmvl hevb hcl h86 h131 hR
 refine zaO [200062,21] Tk Tryz.func55 rfl Tryz.call55 Tryz.ntmps55 (Nat.le_of_ble_eq_true rfl) fun E => ?_
 refine zai Tk Tryz.func55 ?_
 refine zag Tk Tryz.func55 (hf _) rfl rfl rfl rfl rfl ?_
 refine zaj Tk Tryz.func55 (by exact ⟨by omega,by show (k:Int) < (m.tpls.length:Int); omega⟩) ?_
 refine zao Tk Tryz.func55 (gt) ?_
 refine zaA Tk Tryz.func55 zaK rfl ?_
 refine zaY Tk (fun _ => h86 _) rfl rfl rfl ?_
 refine zaY Tk (fun _ => h131 _) rfl rfl rfl ?_
 refine zhS Tk rfl rfl rfl ?_
 refine zaG Tk Tryz.func55 (by kernel_rfl) ?_
 refine g_wk (zb1 9 59 3 1 rfl rfl rfl) ?_
 refine zah ?_
 refine zak (fun i:Nat => [(2,.own 0 2 0 0),(4,.own 0 4 0 0),(7,.own 0 7 0 0),(8,.own 0 8 0 0),(9,.osl 0 59),(44,ssD x.evs),(45,ii x.evs.length),(46,ii i)])
  (fun i => [(2,.box (mdlC m)),(4,.box zmw),(7,.box (extC ⟨al,lo,ini,mk,vr,mo⟩)),(8,.box [.i (.v (.slice none 0 0)),ii lo,ii ini,ints mk,vrs vr,.i (.v (.slice none 0 0))]),(59,zbP ((evI m x).take i))]) (fun _ => O) 115
  (fun i => i ≤ x.evs.length) (fun i => x.evs.length - i) 0 (Nat.zero_le _) ⟨rfl,rfl,rfl,rfl,rfl,rfl,rfl,rfl,trivial⟩ rfl ⟨rfl,rfl,rfl,rfl,rfl,trivial⟩ rfl rfl ?_
 intro i hi ih
 have hi:i ≤ x.evs.length:=hi
 have hel:(evI m x).length = x.evs.length:=by simp [evI]
 refine zai Tk Tryz.func55 ?_
 refine zaf Tk Tryz.func55 rfl (fun g1 => ?_) (fun g1 => ?_)
 ·have g1:i < x.evs.length:=by simpa using g1
  have gs:(x.evs.map fun s => [strI s])[(i:Int).toNat]? = some [strI x.evs[i]]:=zam (f:=fun s => [strI s]) g1
  have ht:(evI m x).take (i + 1) = (evI m x).take i ++ [fnd0 (nmIx (m.evs.map (·.name)) x.evs[i])]:=by
   rw [List.take_succ_eq_append_getElem (by rw [hel]; exact g1)]
   simp [evI,hxe]
  have hl:((evI m x).take i).length = i:=by rw [List.length_take,hel]; omega
  have hf2:=fun O => hf1 O x.evs[i]
  generalize (evI m x).take i = L at *
  generalize nmIx (m.evs.map (·.name)) x.evs[i] = q at *
  generalize x.evs[i] = s at *
  refine zaj Tk Tryz.func55 (by exact ⟨by omega,by show (i:Int) < (x.evs.length:Int); omega⟩) ?_
  refine zao Tk Tryz.func55 (gs) ?_
  refine zag Tk Tryz.func55 (hf2 _) rfl rfl rfl rfl rfl ?_
  refine zaj Tk Tryz.func55 (by exact ⟨by show (L.length + 1) * 8 ≤ 140737488355328; omega,by show L.length + 1 ≤ 9223372036854775807; omega⟩) ?_
  refine zah ?_
  refine ih (i + 1) _ _ g1 (by omega) ⟨rfl,rfl,rfl,rfl,rfl,rfl,rfl,congrArg ii (zay (n:=1000001) (by omega) (by decide)),trivial⟩ rfl ⟨rfl,rfl,rfl,rfl,?_,trivial⟩ rfl rfl
  rw [ht]
  exact congrArg some (zcu L _)
 have g1:x.evs.length ≤ i:=by simpa using g1
 rw [List.take_of_length_le (by rw [hel]; exact g1)]
 clear ih g1 hi
 rw [← hel] at hevb hx
 generalize evI m x = evs at *
 have h133:=fun O => zn4 O evs
 have h132:=fun O => zoj O evs hx
 generalize zcB evs = sal at *
 refine ztA Tk Tryz.func55 rfl rfl (zau 59 rfl rfl) ?_
 refine zag Tk Tryz.func55 (h133 _) rfl rfl rfl rfl rfl ?_
 refine zag Tk Tryz.func55 (h132 _) rfl rfl rfl rfl rfl ?_
 refine g_wk (za0 8 108 187 8 (pre:=[ints sal,ii lo,ii ini,ints mk,vrs vr]) (post:=[]) rfl rfl rfl) ?_
 refine zah ?_
 refine zak (fun i:Nat => [(4,.own 0 4 0 0),(8,.own 0 8 0 0),(9,ints evs),(66,mvs mo),(67,ii mo.length),(68,ii i)])
  (fun i => [(4,.box zmw),(8,.box [ints sal,ii lo,ii ini,ints mk,vrs vr,.osl 0 108]),(108,zcE ((mo.take i).map (mvEv evs)))]) (fun _ => O) 115
  (fun i => i ≤ mo.length) (fun i => mo.length - i) 0 (Nat.zero_le _) ⟨rfl,rfl,rfl,rfl,rfl,rfl,trivial⟩ rfl ⟨rfl,rfl,rfl,trivial⟩ rfl rfl ?_
 intro i hi ih
 have hi:i ≤ mo.length:=hi
 refine zai Tk Tryz.func55 ?_
 refine zaf Tk Tryz.func55 rfl (fun g1 => ?_) (fun g1 => ?_)
 ·have g1:i < mo.length:=by simpa using g1
  have gs:(mo.map mvI)[(i:Int).toNat]? = some (mvI mo[i]):=zam (f:=mvI) g1
  have ht:=zba (mvEv evs) g1
  have hl:((mo.take i).map (mvEv evs)).length = i:=by rw [List.length_map,List.length_take]; omega
  have he:=hevb mo[i] (List.getElem_mem g1)
  obtain ⟨hcg,hul,hcu⟩:=hcl mo[i] (List.getElem_mem g1)
  have hj1:ii (IntKind.i64.wrap ((i:Int) + 1)) = ii ((i + 1:Nat):Int):=congrArg ii (zay (n:=1000001) (by omega) (by decide))
  clear hevb hcl
  generalize (mo.take i).map (mvEv evs) = L at *
  generalize mo[i] = y at *
  obtain ⟨yf,ye,yt,yg,us⟩:=y
  simp only at he hcg hul hcu
  have hy:mvEv evs ⟨yf,ye,yt,yg,us⟩ = ⟨yf,evs.getD ye.toNat 0,yt,yg,us⟩:=rfl
  rw [hy] at ht
  clear hy
  have ge:(evs.map fun x => [vi x])[ye.toNat]? = some [vi (evs.getD ye.toNat 0)]:=by
   rw [List.getElem?_map,List.getD_eq_getElem?_getD,List.getElem?_eq_getElem (by omega)]
   rfl
  generalize evs.getD ye.toNat 0 = ev' at *
  obtain ⟨go,gv,gi,ga⟩:=yg
  refine zaj Tk Tryz.func55 (by exact ⟨by omega,by show (i:Int) < (mo.length:Int); omega⟩) ?_
  refine zao Tk Tryz.func55 (gs) ?_
  refine zaA Tk Tryz.func55 zaK rfl ?_
  refine zaE Tk (by exact ⟨he.1,by show ye < (evs.length:Int); exact he.2⟩) ?_
  refine zaN Tk (ge) ?_
  refine zaY Tk (fun _ => hcg _) rfl rfl rfl ?_
  refine zhS Tk rfl rfl rfl ?_
  refine zaG Tk Tryz.func55 (by kernel_rfl) ?_
  refine g_wk (za0 16 101 189 5 (pre:=[ii yf,ii ev',ii yt,ii go,ii gv,ii gi,exs ga]) (post:=[]) rfl rfl rfl) ?_
  refine zah ?_
  refine zak (fun j:Nat => [(4,.own 0 4 0 0),(8,.own 0 8 0 0),(9,ints evs),(16,.own 0 16 0 0),(66,mvs mo),(67,ii mo.length),(68,ii i),(86,upds us),(87,ii us.length),(88,ii j)])
   (fun j => [(4,.box zmw),(8,.box [ints sal,ii lo,ii ini,ints mk,vrs vr,.osl 0 108]),(108,zcE L),(16,.box [ii yf,ii ev',ii yt,ii go,ii gv,ii gi,exs ga,.osl 0 101]),(101,zoG (us.take j))]) (fun _ => O) 115
   (fun j => j ≤ us.length) (fun j => us.length - j) 0 (Nat.zero_le _) ⟨rfl,rfl,rfl,rfl,rfl,rfl,rfl,rfl,rfl,rfl,trivial⟩ rfl ⟨rfl,rfl,rfl,rfl,rfl,trivial⟩ rfl rfl ?_
  intro j hj ih2
  have hj:j ≤ us.length:=hj
  refine zai Tk Tryz.func55 ?_
  refine zaf Tk Tryz.func55 rfl (fun g2 => ?_) (fun g2 => ?_)
  ·have g2:j < us.length:=by simpa using g2
   have gu:(us.map updI)[(j:Int).toNat]? = some (updI us[j]):=zam (f:=updI) g2
   have htu:us.take (j + 1) = us.take j ++ [us[j]]:=List.take_succ_eq_append_getElem g2
   have hlu:(us.take j).length = j:=by rw [List.length_take]; omega
   have hcu1:=hcu us[j] (List.getElem_mem g2)
   generalize us.take j = U at *
   generalize us[j] = u at *
   obtain ⟨uv,⟨uo,uvl,ui,ua⟩⟩:=u
   simp only at hcu1
   refine zaj Tk Tryz.func55 (by exact ⟨by omega,by show (j:Int) < (us.length:Int); omega⟩) ?_
   refine zao Tk Tryz.func55 (gu) ?_
   refine zaA Tk Tryz.func55 zaK rfl ?_
   refine zaY Tk (fun _ => hcu1 _) rfl rfl rfl ?_
   refine zlq Tk Tryz.func55 ([9,10,11]) (by kernel_rfl) (by kernel_rfl) ?_
   refine zaj Tk Tryz.func55 (by exact ⟨by show (U.length + 1) * 56 ≤ 140737488355328; omega,by show U.length + 1 ≤ 9223372036854775807; omega⟩) ?_
   refine zah ?_
   refine ih2 (j + 1) _ _ g2 (by omega) ⟨rfl,rfl,rfl,rfl,rfl,rfl,rfl,rfl,rfl,congrArg ii (zay (n:=1000001) (by omega) (by decide)),trivial⟩ rfl ⟨rfl,rfl,rfl,rfl,?_,trivial⟩ rfl rfl
   rw [htu]
   show some (Ob.arr 189 5 (U.length + 1) (U.map updI ++ [updI ⟨uv,⟨uo,uvl,ui,ua⟩⟩]) true) = some (zoG (U ++ [⟨uv,⟨uo,uvl,ui,ua⟩⟩]))
   simp [zoG]
  ·have g2:us.length ≤ j:=by simpa using g2
   rw [List.take_of_length_le g2]
   refine zaU ?_
   refine zaT (zau 101 rfl rfl) ?_
   refine zaT (zb2 rfl) ?_
   refine zai Tk Tryz.func55 ?_
   refine g_go Tk Tryz.func55 ?_
   refine zaj Tk Tryz.func55 (by exact ⟨by show (L.length + 1) * 96 ≤ 140737488355328; omega,by show L.length + 1 ≤ 9223372036854775807; omega⟩) ?_
   refine zah ?_
   refine ih (i + 1) _ _ g1 (by omega) ⟨rfl,rfl,rfl,rfl,rfl,hj1,trivial⟩ rfl ⟨rfl,rfl,?_,trivial⟩ rfl rfl
   rw [ht]
   show some (Ob.arr 187 8 (L.length + 1) (L.map mvI ++ [mvI ⟨yf,ev',yt,⟨go,gv,gi,ga⟩,us⟩]) true) = some (zcE (L ++ [⟨yf,ev',yt,⟨go,gv,gi,ga⟩,us⟩]))
   simp [zcE]
 ·have g1:mo.length ≤ i:=by simpa using g1
  rw [List.take_of_length_le g1]
  have hls:(mo.map (mvEv evs)).length ≤ 19:=by rw [List.length_map]; exact hmvl
  generalize mo.map (mvEv evs) = L at *
  have h135':=fun O d ho => h135 O d 108 L hls ho
  refine zag Tk Tryz.func55 (h135' _ 0 rfl) rfl rfl rfl (za1 (ob:=zcE L) rfl (by simp [Ob.sh,zdX])) rfl ?_
  refine zbb (zau 108 rfl rfl) ?_
  refine zbb (zb2 rfl) ?_
  refine zad Tk (r:=extD ⟨sal,lo,ini,mk,vr,zcS L⟩) rfl rfl rfl trivial rfl rfl ?_
  exact congrArg extD hR
end Go.AI


namespace Go.AI
open Go.Proofs
set_option maxRecDepth 100000
def yesX:Ex:=.mk 6 0 0 [.mk 0 0 0 [],.mk 0 0 0 []]
def machX:Ext:=⟨[0,1],2,0,[0],[],[⟨0,0,1,yesX,[]⟩,⟨1,1,0,yesX,[]⟩]⟩
def zrR:Ext:=⟨[0],1,0,[0],[⟨⟨#[110]⟩,0,2,0⟩],[⟨0,0,0,.mk 8 0 0 [.mk 1 0 0 [],.mk 0 2 0 []],[⟨0,.mk 2 0 0 [.mk 1 0 0 [],.mk 0 1 0 []]⟩]⟩]⟩
def shopM:Mdl:=
 { name:=⟨#[115,104,111,112]⟩,evs:=[⟨⟨#[98]⟩,false,false,false,0⟩,⟨⟨#[97]⟩,true,false,false,0⟩],tpls:=[⟨⟨#[109,97,99,104,105,110,101]⟩,[⟨#[105,100,108,101]⟩,⟨#[98,117,115,121]⟩],[⟨#[98,101,103,105,110]⟩,⟨#[101,110,100]⟩],machX⟩,⟨⟨#[115,116,111,114,101]⟩,[⟨#[105,116]⟩],[⟨#[112,117,116]⟩],zrR⟩],comps:=[⟨⟨#[109,49]⟩,⟨#[109,97,99,104,105,110,101]⟩,[⟨#[97]⟩,⟨#[98]⟩]⟩,⟨⟨#[98,117,102,102,101,114]⟩,⟨#[115,116,111,114,101]⟩,[⟨#[98]⟩]⟩],reqs:=[],excs:=[⟨⟨#[120]⟩,[(⟨#[98,117,102,102,101,114]⟩,⟨#[105,116]⟩),(⟨#[109,49]⟩,⟨#[98,117,115,121]⟩)]⟩],cons:=[] }
def zuT:Cel:=⟨shopM.evs,[⟨⟨#[109,49]⟩,⟨[0,1],2,[0],[(0,1,1),(1,0,0)]⟩⟩,⟨⟨#[98,117,102,102,101,114]⟩,⟨[0],3,[0,1,2],[(0,0,1),(1,0,2)]⟩⟩],[],[⟨⟨#[120,95,48]⟩,[(0,1),(1,0)]⟩,⟨⟨#[120,95,49]⟩,[(0,1),(1,1)]⟩,⟨⟨#[120,95,50]⟩,[(0,1),(1,2)]⟩],[]⟩
theorem zot:celR shopM = (zuT,(0,0),0):=by kernel_rfl
end Go.AI


namespace Go.AI
open Go.Proofs
set_option maxRecDepth 100000
def tplX:Tpl:=⟨⟨#[109,97,99,104,105,110,101]⟩,[⟨#[105,100,108,101]⟩,⟨#[98,117,115,121]⟩],[⟨#[98,101,103,105,110]⟩,⟨#[101,110,100]⟩],machX⟩
def zgb (c:UInt8) (i:Nat):ByteArray:=⟨#[c]⟩ ++ zd6 (i:Int)
def limT (n:Nat):Mdl:={ shopM with tpls:=shopM.tpls ++ (List.range (n - 2)).map fun i => { tplX with name:=zgb 116 (i + 2) } }
def limX (n:Nat):Mdl:={ shopM with excs:=shopM.excs ++ (List.range (n - 1)).map fun i => ⟨zgb 120 (i + 1),(shopM.excs.head?.map NEx.locals).getD []⟩ }
def limC (n:Nat):Mdl:={ shopM with cons:=(List.range n).map fun i => ⟨zgb 99 i,[(⟨#[109,49]⟩,1)],0⟩ }
theorem zti:mdlE (limT 15) = ((0,0),0):=by kernel_rfl
theorem zth:mdlE (limT 16) = ((0,0),0):=by kernel_rfl
theorem ztg:mdlE (limT 17) = ((2,16),3):=by kernel_rfl
theorem ztf:mdlE (limX 31) = ((0,0),0):=by kernel_rfl
theorem zte:mdlE (limX 32) = ((0,0),0):=by kernel_rfl
theorem ztd:mdlE (limX 33) = ((5,32),3):=by kernel_rfl
theorem ztl:mdlE (limC 31) = ((0,0),0):=by kernel_rfl
theorem ztk:mdlE (limC 32) = ((0,0),0):=by kernel_rfl
theorem ztj:mdlE (limC 33) = ((6,32),3):=by kernel_rfl
def labT:List Vr → List Int → ByteArray → ByteArray
 | v :: r,n :: s,acc => labT r s (acc ++ (⟨#[32]⟩ ++ v.name ++ ⟨#[61]⟩ ++ zd6 n))
 | _,_,acc => acc
def zct (m:Mdl) (at_:Plc):Except Int Ins:=
 if at_.1 = 3 then (if at_.2 < 0 then .error 10 else match m.comps[at_.2.toNat]? with | none => .error 10 | some x => .ok x)
 else if at_.1 = 4 then (if at_.2 < 0 then .error 10 else match m.reqs[at_.2.toNat]? with | none => .error 10 | some x => .ok x)
 else .error 11
def labR (m:Mdl) (at_:Plc) (s:Sta):ByteArray × Int:=
 if (mdlE m).2 ≠ 0 then (⟨#[]⟩,(mdlE m).2) else match zct m at_ with
 | .error e => (⟨#[]⟩,e)
 | .ok x => if ckS (mchR m x) s ≠ 0 then (⟨#[]⟩,ckS (mchR m x) s) else
  match zcN m x with
  | none => (⟨#[]⟩,0)
  | some t => (labT (mchR m x).vars s.vals (t.locs.getD s.loc.toNat ⟨#[]⟩),0)
theorem zmN:labR shopM (3,1) ⟨0,[2]⟩ = (⟨#[105,116,32,110,61,50]⟩,0):=by kernel_rfl
end Go.AI


namespace Go.AI
open Go.Proofs
set_option maxRecDepth 20000
theorem ztO {m:Mdl} (h:(chkT m).2 = 0):∀ t ∈ m.tpls,tplE t = 0:=by
 unfold chkT at h
 by_cases h2:m.tpls.length > 16
 ·rw [if_pos h2] at h; simp at h
 rw [if_neg h2] at h
 exact zdn (zeF (fun _ _ h => zbp h) h).1
theorem zrN {m:Mdl} (h:(chkI m).2 = 0):∀ c ∈ m.reqs,insE m c = 0:=by
 unfold chkI at h
 by_cases h2:m.comps.length = 0
 ·rw [if_pos h2] at h; simp at h
 rw [if_neg h2] at h
 by_cases h3:m.comps.length > 8
 ·rw [if_pos h3] at h; simp at h
 rw [if_neg h3] at h
 by_cases h4:m.comps.length + m.reqs.length > 12
 ·rw [if_pos h4] at h; simp at h
 rw [if_neg h4] at h
 obtain ⟨_,h5⟩:=zeF (fun _ _ h => zbp h) h
 rw [h5] at h
 have h6:=zdn (zeF (fun _ _ h => zbp h) h).1
 intro c hc
 have:=h6 c hc
 unfold reqE at this
 by_cases h7:insE m c ≠ 0
 ·rw [if_pos h7] at this; exact absurd this h7
 ·exact Classical.byContradiction h7
theorem zpp:∀ {l b:List Evt} {i j:Nat} {e:Int},evsP b l i = some (j,e) → e ≠ 0
 | [],_,_,_,_,h => by simp [evsP] at h
 | x :: r,b,i,j,e,h => by
  simp only [evsP] at h
  by_cases h1:zjS (b ++ [x]) ≠ 0
  ·rw [if_pos h1] at h
   simp only [Option.some.injEq,Prod.mk.injEq] at h
   rw [← h.2]; exact h1
  ·rw [if_neg h1] at h
   exact zpp h
theorem zdh {m:Mdl} (h:(mdlE m).2 = 0):zaM m.name = true ∧ evsP [] m.evs 0 = none ∧ (chkT m).2 = 0 ∧ (chkI m).2 = 0 ∧ (chkC m).2 = 0 ∧ mdlE m = ((0,0),0):=by
 have e:=zoM m
 rw [e] at h ⊢
 by_cases h1:zaM m.name = false
 ·rw [if_pos h1] at h; simp at h
 rw [if_neg h1] at h ⊢
 obtain ⟨h2,h3⟩:=zeF (fun _ _ h => zpp h) h
 rw [h3] at h ⊢
 by_cases h4:(chkT m).2 ≠ 0
 ·rw [if_pos h4] at h; exact absurd h h4
 rw [if_neg h4] at h ⊢
 by_cases h5:(chkI m).2 ≠ 0
 ·rw [if_pos h5] at h; exact absurd h h5
 rw [if_neg h5] at h ⊢
 exact ⟨by simpa using h1,h2,by simpa using h4,by simpa using h5,h,zpI h⟩
theorem zmD {t:Tpl} (h:tplE t = 0):(t.locs.length:Int) = t.mach.locs ∧ nmsE [] t.locs = 0 ∧ nmsE [] t.evs = 0 ∧ t.mach.alpha = (List.range t.evs.length).map (fun k => ((k:Nat):Int)) ∧ chk t.mach = 0:=by
 unfold tplE at h
 by_cases h1:(t.locs.length:Int) ≠ t.mach.locs
 ·rw [if_pos h1] at h; cases h
 rw [if_neg h1] at h
 by_cases h2:nmsE [] t.locs ≠ 0
 ·rw [if_pos h2] at h; exact absurd h h2
 rw [if_neg h2] at h
 by_cases h3:nmsE [] t.evs ≠ 0
 ·rw [if_pos h3] at h; exact absurd h h3
 rw [if_neg h3] at h
 by_cases h4:t.mach.alpha.length ≠ t.evs.length
 ·rw [if_pos h4] at h; cases h
 rw [if_neg h4] at h
 by_cases h5:t.mach.alpha ≠ (List.range t.evs.length).map (fun k => ((k:Nat):Int))
 ·rw [if_pos h5] at h; cases h
 rw [if_neg h5] at h
 exact ⟨by simpa using h1,by simpa using h2,by simpa using h3,by simpa using h5,h⟩
theorem ze7 {m:Mdl} (hmv:∀ t ∈ m.tpls,t.mach.moves.length ≤ 19) (h:(mdlE m).2 = 0) {x:Ins} (hx:x ∈ m.comps ∨ x ∈ m.reqs):∃ t,mchOk m x t ∧ mchR m x = mchE m x t ∧ (t.locs.length:Int) = t.mach.locs ∧ nmsE [] t.locs = 0 ∧ zfK m [] x.evs = 0:=by
 obtain ⟨_,_,h3,h4,_⟩:=zdh h
 have hi:insE m x = 0:=by
  rcases hx with hx | hx
  ·exact zpH h4 x hx
  ·exact zrN h4 x hx
 obtain ⟨t,t1,t2,t3,t4⟩:=zlg hi
 obtain ⟨u1,u2,u3,u4,u5⟩:=zmD (ztO h3 t t2)
 exact ⟨t,⟨t1,t2,zf0 u5,t3,u4,hmv t t2⟩,by unfold mchR; rw [t1],u1,u2,t4⟩
abbrev zIns:Ins:=⟨⟨#[]⟩,⟨#[]⟩,[]⟩
def zge (m:Mdl) (p:Plc):Ins × Int:=match zct m p with
 | .ok x => (x,0)
 | .error e => (zIns,e)
theorem zpz {e:Int}:CoD (.tup [.agg [sD ⟨#[]⟩,sD ⟨#[]⟩,.i (.v (.slice none 0 0))],ii e]) (.tup [insD zIns,ii e]):=by
 repeat' (first | refine zcK ?_ | refine zcq ?_ | refine zc5 ?_ | refine CoDL.cons ?_ ?_ | exact CoDL.nil | exact zbn | refine zeJ ?_ | refine CoLL.cons ?_ ?_ | exact CoLL.nil | refine CoL.cons ?_ ?_ | exact CoL.nil | exact CoI.refl _ | exact CoL.refl _ | exact CoLL.refl _ | exact CoDL.refl _ | exact CoD.refl _)
theorem zgB (O:List Heap) (m:Mdl) (p:Plc) (hm:szOk m):zal Tryz.prog 61 [mdlD m,.agg [ii p.1,ii p.2]] O (.tup [insD (zge m p).1,ii (zge m p).2]) [] O:=by
 have hc:=hm.co
 have hq:=hm.rq
 obtain ⟨a,b⟩:=p
 simp only
 generalize hR:zge m (a,b) = R
 unfold zge zct at hR
 simp only at hR
 obtain ⟨nm,evs,tpls,comps,reqs,excs,cons⟩:=m
 simp only at hR hc hq
 refine zaa Tk Tryz.func61 rfl Tryz.call61 Tryz.ntmps61 (Nat.le_of_ble_eq_true rfl) fun E => ?_
 refine zai Tk Tryz.func61 ?_
 refine zaf Tk Tryz.func61 rfl (fun c1 => ?_) (fun c1 => ?_)
 ·have c1:a = 3:=beqT c1
  rw [if_pos c1] at hR
  refine zaL Tk Tryz.func61 rfl (fun c2 => ?_) (fun c2 => ?_)
  ·have c2:b < 0:=of_decide_eq_true c2
   rw [if_pos c2] at hR
   simp only at hR
   subst hR
   refine gcT Tk Tryz.func61 rfl ?_
   refine zav Tk (r:=.tup [.agg [sD ⟨#[]⟩,sD ⟨#[]⟩,.i (.v (.slice none 0 0))],ii 10]) rfl rfl rfl trivial rfl rfl ?_
   exact zpz
  have c2:¬ b < 0:=of_decide_eq_false c2
  rw [if_neg c2] at hR
  refine zaf Tk Tryz.func61 rfl (fun c3 => ?_) (fun c3 => ?_)
  ·have c3:b ≥ (comps.length:Int):=of_decide_eq_true c3
   rw [List.getElem?_eq_none (by omega)] at hR
   simp only at hR
   subst hR
   refine zav Tk (r:=.tup [.agg [sD ⟨#[]⟩,sD ⟨#[]⟩,.i (.v (.slice none 0 0))],ii 10]) rfl rfl rfl trivial rfl rfl ?_
   exact zpz
  have c3:¬ b ≥ (comps.length:Int):=of_decide_eq_false c3
  have hb:b.toNat < comps.length:=by omega
  rw [List.getElem?_eq_getElem hb] at hR
  simp only at hR
  have gx:(comps.map insI)[b.toNat]? = some (insI comps[b.toNat]):=by simp [hb]
  generalize comps[b.toNat] = x at *
  subst hR
  refine zaj Tk Tryz.func61 (by exact ⟨by omega,by show b < (comps.length:Int); omega⟩) ?_
  refine zao Tk Tryz.func61 (gx) ?_
  refine zad Tk (r:=.tup [insD x,ii 0]) rfl rfl rfl trivial rfl rfl ?_
  rfl
 have c1:¬ a = 3:=beqF c1
 rw [if_neg c1] at hR
 refine zaf Tk Tryz.func61 rfl (fun c4 => ?_) (fun c4 => ?_)
 ·have c4:a = 4:=beqT c4
  rw [if_pos c4] at hR
  refine zaL Tk Tryz.func61 rfl (fun c2 => ?_) (fun c2 => ?_)
  ·have c2:b < 0:=of_decide_eq_true c2
   rw [if_pos c2] at hR
   simp only at hR
   subst hR
   refine gcT Tk Tryz.func61 rfl ?_
   refine zav Tk (r:=.tup [.agg [sD ⟨#[]⟩,sD ⟨#[]⟩,.i (.v (.slice none 0 0))],ii 10]) rfl rfl rfl trivial rfl rfl ?_
   exact zpz
  have c2:¬ b < 0:=of_decide_eq_false c2
  rw [if_neg c2] at hR
  refine zaf Tk Tryz.func61 rfl (fun c3 => ?_) (fun c3 => ?_)
  ·have c3:b ≥ (reqs.length:Int):=of_decide_eq_true c3
   rw [List.getElem?_eq_none (by omega)] at hR
   simp only at hR
   subst hR
   refine zav Tk (r:=.tup [.agg [sD ⟨#[]⟩,sD ⟨#[]⟩,.i (.v (.slice none 0 0))],ii 10]) rfl rfl rfl trivial rfl rfl ?_
   exact zpz
  have c3:¬ b ≥ (reqs.length:Int):=of_decide_eq_false c3
  have hb:b.toNat < reqs.length:=by omega
  rw [List.getElem?_eq_getElem hb] at hR
  simp only at hR
  have gx:(reqs.map insI)[b.toNat]? = some (insI reqs[b.toNat]):=by simp [hb]
  generalize reqs[b.toNat] = x at *
  subst hR
  refine zaj Tk Tryz.func61 (by exact ⟨by omega,by show b < (reqs.length:Int); omega⟩) ?_
  refine zao Tk Tryz.func61 (gx) ?_
  refine zad Tk (r:=.tup [insD x,ii 0]) rfl rfl rfl trivial rfl rfl ?_
  rfl
 have c4:¬ a = 4:=beqF c4
 rw [if_neg c4] at hR
 simp only at hR
 subst hR
 refine zav Tk (r:=.tup [.agg [sD ⟨#[]⟩,sD ⟨#[]⟩,.i (.v (.slice none 0 0))],ii 11]) rfl rfl rfl trivial rfl rfl ?_
 exact zpz
def mchA (m:Mdl) (p:Plc):Ext × Int:=if (mdlE m).2 ≠ 0 then (zExt,(mdlE m).2) else match zct m p with
 | .error e => (zExt,e)
 | .ok x => (mchR m x,0)
theorem zel {m:Mdl} {p:Plc} {x:Ins} (h:zct m p = .ok x):x ∈ m.comps ∨ x ∈ m.reqs:=by
 unfold zct at h
 by_cases h1:p.1 = 3
 ·rw [if_pos h1] at h
  by_cases h2:p.2 < 0
  ·rw [if_pos h2] at h; cases h
  rw [if_neg h2] at h
  cases h3:m.comps[p.2.toNat]? with
  | none => rw [h3] at h; cases h
  | some y => rw [h3] at h; cases h; exact .inl (List.mem_of_getElem? h3)
 rw [if_neg h1] at h
 by_cases h1:p.1 = 4
 ·rw [if_pos h1] at h
  by_cases h2:p.2 < 0
  ·rw [if_pos h2] at h; cases h
  rw [if_neg h2] at h
  cases h3:m.reqs[p.2.toNat]? with
  | none => rw [h3] at h; cases h
  | some y => rw [h3] at h; cases h; exact .inr (List.mem_of_getElem? h3)
 rw [if_neg h1] at h; cases h
theorem zem {m:Mdl} {p:Plc} {e:Int} (h:zct m p = .error e):e ≠ 0:=by
 unfold zct at h
 by_cases h1:p.1 = 3
 ·rw [if_pos h1] at h
  by_cases h2:p.2 < 0
  ·rw [if_pos h2] at h; cases h; decide
  rw [if_neg h2] at h
  cases h3:m.comps[p.2.toNat]? with
  | none => rw [h3] at h; cases h; decide
  | some y => rw [h3] at h; cases h
 rw [if_neg h1] at h
 by_cases h1:p.1 = 4
 ·rw [if_pos h1] at h
  by_cases h2:p.2 < 0
  ·rw [if_pos h2] at h; cases h; decide
  rw [if_neg h2] at h
  cases h3:m.reqs[p.2.toNat]? with
  | none => rw [h3] at h; cases h; decide
  | some y => rw [h3] at h; cases h
 rw [if_neg h1] at h; cases h; decide
theorem zsc {e:Int}:CoD (.tup [.agg zmw,ii e]) (.tup [extD zExt,ii e]):=by
 repeat' (first | refine zcK ?_ | refine zcq ?_ | refine zc5 ?_ | refine CoDL.cons ?_ ?_ | exact CoDL.nil | exact zbn | refine zeJ ?_ | refine CoLL.cons ?_ ?_ | exact CoLL.nil | refine CoL.cons ?_ ?_ | exact CoL.nil | exact CoI.refl _ | exact CoL.refl _ | exact CoLL.refl _ | exact CoDL.refl _ | exact CoD.refl _)
theorem zjj {m:Mdl} (hm:mdlOk m) {x:Ins} (hx:x ∈ m.comps ∨ x ∈ m.reqs):x.evs.length ≤ 1000000:=by
 rcases hx with h | h
 ·exact (hm.cok x h).el
 ·exact (hm.rqk x h).el
theorem zqx (O:List Heap) (m:Mdl) (p:Plc) (hm:mdlOk m) (hmv:∀ t ∈ m.tpls,t.mach.moves.length ≤ 19):zal Tryz.prog 18 [mdlD m,.agg [ii p.1,ii p.2]] O (.tup [extD (mchA m p).1,ii (mchA m p).2]) [] O:=by
 have h14:=fun O => zf3 O m hm
 have h61:=fun O => zgB O m p hm.toszOk
 have hv:=fun h x hx => ze7 hmv h (x:=x) hx
 have h55:=fun x (hx:x ∈ m.comps ∨ x ∈ m.reqs) t ht O => zh9 O m x t hm (zjj hm hx) ht
 generalize hR:mchA m p = R
 unfold mchA at hR
 generalize mdlE m = E0 at *
 obtain ⟨⟨e1,e2⟩,e3⟩:=E0
 simp only at hv hR
 obtain ⟨a,b⟩:=p
 simp only at h61 ⊢
 refine zaa Tk Tryz.func18 rfl Tryz.call18 Tryz.ntmps18 (Nat.le_of_ble_eq_true rfl) fun E => ?_
 refine zai Tk Tryz.func18 ?_
 refine zag Tk Tryz.func18 (h14 _) rfl rfl rfl rfl rfl ?_
 refine zaf Tk Tryz.func18 rfl (fun c1 => ?_) (fun c1 => ?_)
 ·have c1:e3 ≠ 0:=bneT c1
  rw [if_pos c1] at hR
  subst hR
  refine zav Tk (r:=.tup [.agg zmw,ii e3]) rfl rfl rfl trivial rfl rfl ?_
  exact zsc
 have c1:e3 = 0:=bneF c1
 rw [if_neg (fun h => h c1)] at hR
 cases hp:zct m (a,b) with
 | error e =>
  have he:=zem hp
  rw [hp] at hR
  simp only at hR
  subst hR
  rw [show zge m (a,b) = (zIns,e) from by unfold zge; rw [hp]] at h61
  refine zag Tk Tryz.func18 (h61 _) rfl rfl rfl rfl rfl ?_
  refine zaf Tk Tryz.func18 rfl (fun _ => ?_) (fun h => absurd h (by simpa using he))
  refine zav Tk (r:=.tup [.agg zmw,ii e]) rfl rfl rfl trivial rfl rfl ?_
  exact zsc
 | ok x =>
  have hx:=zel hp
  rw [hp] at hR
  simp only at hR
  subst hR
  rw [show zge m (a,b) = (x,0) from by unfold zge; rw [hp]] at h61
  obtain ⟨t,ht,he,_⟩:=hv c1 x hx
  have h:=h55 x hx t ht
  rw [← he] at h
  generalize mchR m x = X at *
  refine zag Tk Tryz.func18 (h61 _) rfl rfl rfl rfl rfl ?_
  refine gcF Tk Tryz.func18 rfl ?_
  refine zag Tk Tryz.func18 (h _) rfl rfl rfl rfl rfl ?_
  refine zad Tk (r:=.tup [extD X,ii 0]) rfl rfl rfl trivial rfl rfl ?_
  rfl
end Go.AI
