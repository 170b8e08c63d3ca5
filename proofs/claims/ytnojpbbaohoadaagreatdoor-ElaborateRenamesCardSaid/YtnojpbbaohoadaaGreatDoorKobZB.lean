/- The layer of abstract runs, part 28. -/
import Derived.Test.YtnojpbbaohoadaaGreatDoorKobZA
import Derived.RangeFuncBox
import Derived.RangeFuncLeaves
import Derived.Shelf.Abstract
import Derived.WalkKit
import Derived.OwnWalkIn
import Derived.TacticsInMore
import Derived.LoopNIn
import Derived.LoopIn
import Derived.Maps.AppendAt
import Derived.KernelRfl
set_option linter.unusedSimpArgs false
set_option linter.unusedVariables false
set_option linter.all false
set_option maxHeartbeats 4000000
namespace Go.Proofs
open Go.RowKit Go.Shelf
attribute [local go_sem] Oper.semAt_some
def zek {α:Type} (f:Nat→α) (k:Nat):List α:=(List.range k).map f
theorem zhy {α:Type} (f:Nat→α) (k:Nat):zek f (k+1)=zek f k++[f k]:=by simp[zek,List.range_succ]
theorem zja {α:Type} (f:Nat→α) (k:Nat):(zek f k).length=k:=by simp[zek]
theorem zqG (zs:List Int):zek (fun j=>zs[j]?.getD 0) zs.length=zs:=by
 apply List.ext_getElem
 ·simp[zek]
 ·intro i h1 h2
  simp[zek,h2]
set_option maxRecDepth 100000 in
theorem ztN (F:Fence) (n:Nat) (h7:F.fn 173) (hro:F.round=none) (hn:1≤n) (l Bs Bo n₀ b off len cap:Nat) (zs:List Int) (hreach:len * 8≤140737488351232) (hb:b<n₀) (J Jx:List Int→World→Prop)
  (hY:∀ pre x W,J pre W→pre.length<len→YieldAt F (n - 1) Tryz.prog l #[.int .i64 x] W fun e W'=>
   (e = .returned (.bool true)∧J (pre++[x]) W' ∧ Below n₀ W W')∨(e = .returned (.bool false)∧Jx (pre++[x]) W'))
  (W:World) (hBs:W.cell? ⟨Bs,Bo,none⟩=some (.slice (some ⟨b,off,none⟩) len cap)) (hc:∀ j,j<len→W.cell? ⟨b,off+j,none⟩=some (.int .i64 (zs[j]?.getD 0))) (h0:J [] W) :
  CallsIn F n Tryz.prog 173 #[.func (.yield l) #[] #[],.pointer (some ⟨Bs,Bo,none⟩)] W fun e W'=>(∃ v,e = .returned v) ∧
   ((∃ ys,ys=zek (fun j=>zs[j]?.getD 0) len∧J ys W')∨(∃ pre,(∃ k,k≤len∧pre=zek (fun j=>zs[j]?.getD 0) k)∧Jx pre W')):=by
 refine callsIn_of_wp Tryz.func173 rfl h7 ?_ hro
 simp only[Tryz.ntmps173,List.size_toArray,List.length_cons,List.length_nil,Nat.reduceAdd,Nat.reduceSub,Array.replicate_succ,Array.replicate_zero,List.push_toArray,List.append_toArray,List.nil_append,List.cons_append]
 gi_wp2
 gi_loopw [7] (fun i wr=>∃ k:Nat,k≤len∧i = .int .i64 k∧J (zek (fun j=>zs[j]?.getD 0) k) wr∧Below n₀ W wr)
  (fun i _=>len - (intOf i).toNat)
 case atStart=>exact⟨0,Nat.zero_le _,rfl,h0,Below.refl _ _⟩
 case round=>
  obtain⟨k,hk,rfl,hJs,hnx⟩:=hrel
  have hcx:k<len→wr.cell? ⟨b,off+k,none⟩=some (.int .i64 (zs[k]?.getD 0)):=fun h=>(hnx.cell (p:=⟨b,off+k,none⟩) hb).trans (hc k h)
  by_cases hlt:k<len
  ·obtain⟨fn,tmps,assign,body,hy,hR⟩:=hY _ (zs[k]?.getD 0) wr hJs (by rw[zja];exact hlt)
   have hcx':=hcx hlt
   gi_wp2
   refine hR.mono ?_
   rintro e W3 (⟨rfl,hJ3,hk3⟩ | ⟨rfl,hJx3⟩)
   ·gi_wp2
    go_roundw
    case rel=>exact⟨k+1,by omega,by simp,by rw[zhy];exact hJ3,hnx.trans hk3⟩
    case measure=>simp[intOf];omega
   ·gi_wp2
    refine bodyPost_ret (results_none rfl _ _ _) rfl ?_
    exact⟨⟨_,rfl⟩,.inr ⟨_,⟨k+1,by omega,(zhy _ _).symm⟩,hJx3⟩⟩
  ·obtain rfl:k=len:=by omega
   gi_wp2
   go_end0
   exact⟨⟨_,rfl⟩,.inl ⟨_,rfl,hJs⟩⟩
theorem zoT (zs:List Int) {k:Nat} (hk:k≤zs.length):zek (fun j=>zs[j]?.getD 0) k=zs.take k:=by
 apply List.ext_getElem
 ·simp[zek,hk]
 ·intro i h1 h2
  have:i<zs.length:=by simp[zek] at h1;omega
  simp[zek,this]
def IntsM (n₀:Nat) (W:World) (sv:Value) (zs:List Int):Prop:=
 (∃ a cap,sv = .slice a 0 cap∧zs=[])∨∃ b off cap,sv = .slice (some ⟨b,off,none⟩) zs.length cap∧b<n₀∧∀ j,j<zs.length→W.cell? ⟨b,off+j,none⟩=some (.int .i64 (zs[j]?.getD 0))
theorem IntsM.below {n₀:Nat} {A B:World} (h:Below n₀ A B) {sv:Value} {zs:List Int}:IntsM n₀ A sv zs→IntsM n₀ B sv zs
 | .inl e=>.inl e
 | .inr ⟨b,off,cap,e,hb,hc⟩=>.inr ⟨b,off,cap,e,hb,fun j hj=>(h.cell (p:=⟨b,off+j,none⟩) hb).trans (hc j hj)⟩
set_option maxRecDepth 100000 in
theorem zi9 (F:Fence) (n:Nat) (h7:F.fn 173) (hro:F.round=none) (l Bs Bo:Nat) (a:Option Addr) (cap:Nat) (J:List Int→World→Prop) (W:World) (hBs:W.cell? ⟨Bs,Bo,none⟩=some (.slice a 0 cap)) (h0:J [] W) :
  CallsIn F n Tryz.prog 173 #[.func (.yield l) #[] #[],.pointer (some ⟨Bs,Bo,none⟩)] W fun e W'=>(∃ v,e = .returned v)∧J [] W':=by
 refine callsIn_of_wp Tryz.func173 rfl h7 ?_ hro
 simp only[Tryz.ntmps173,List.size_toArray,List.length_cons,List.length_nil,Nat.reduceAdd,Nat.reduceSub,Array.replicate_succ,Array.replicate_zero,List.push_toArray,List.append_toArray,List.nil_append,List.cons_append]
 gi_wp2
 gi_loopw [7] (fun i wr=>i = .int .i64 0∧J [] wr) (fun _ _=>0)
 case atStart=>exact⟨rfl,h0⟩
 case round=>
  obtain⟨rfl,hJs⟩:=hrel
  gi_wp2
  go_end0
  exact⟨⟨_,rfl⟩,hJs⟩
theorem zie (F:Fence) (n:Nat) (h7:F.fn 173) (hro:F.round=none) (hn:1≤n) (Bs Bo n₀:Nat) (sv:Value) (zs:List Int) (hreach:zs.length * 8≤140737488351232) (w:World) (hBs:Bs<w.heap.size) (hn₀:n₀≤w.heap.size)
  (hc:w.cell? ⟨Bs,Bo,none⟩=some sv) (hI:IntsM n₀ w sv zs) :
  SeqStopsK F n Tryz.prog 173 #[.pointer (some ⟨Bs,Bo,none⟩)] (fun x:Int=>#[Value.int .i64 x]) (Below n₀) (fun ys=>ys=zs) (fun pre=>pre <+: zs) zs.length w:=fun l J Jx W hW _ _ hY h0=>by
 have hc':=(hW.cell (p:=⟨Bs,Bo,none⟩) hBs).trans hc
 rcases hI.below (hW.mono hn₀) with ⟨a,cap,rfl,rfl⟩ | ⟨b,off,cap,rfl,hb,hcs⟩
 ·exact (zi9 F n h7 hro l Bs Bo a cap J W hc' h0).mono fun e W' ⟨he,hj⟩=>⟨he,.inl ⟨_,rfl,hj⟩⟩
 ·refine (ztN F n h7 hro hn l Bs Bo n₀ b off zs.length cap zs hreach hb J Jx hY W hc' hcs h0).mono ?_
  rintro e W' ⟨he,⟨ys,rfl,hj⟩ | ⟨pre,⟨k,hk,rfl⟩,hj⟩⟩
  ·exact⟨he,.inl ⟨_,zqG zs,hj⟩⟩
  ·exact⟨he,.inr ⟨_,by rw[zoT zs hk];exact List.take_prefix _ _,hj⟩⟩
theorem zoP (F:Fence) (n:Nat) (h5:F.fn 133) (hro:F.round=none) (a:Option Addr) (len cap:Nat) (w:World) :
  CallsIn F n Tryz.prog 133 #[.slice a len cap] w fun e w'=>e = .returned (.func (.func 173) #[] #[.pointer (some ⟨w.heap.size,0,none⟩)])∧w' = w.alloc (.cells #[.slice a len cap] 55):=by
 refine callsIn_of_wp Tryz.func133 rfl h5 ?_ hro
 simp only[Tryz.ntmps133,List.size_toArray,List.length_cons,List.length_nil,Nat.reduceAdd,Nat.reduceSub,Array.replicate_succ,Array.replicate_zero,List.push_toArray,List.append_toArray,List.nil_append,List.cons_append]
 gi_wp2
 go_ret
 exact⟨rfl,rfl⟩
theorem zvZ (a:Option Addr) (len cap:Nat) (w:World) :
  Calls Tryz.prog 133 #[.slice a len cap] w fun e w'=>e = .returned (.func (.func 173) #[] #[.pointer (some ⟨w.heap.size,0,none⟩)])∧w' = w.alloc (.cells #[.slice a len cap] 55):=
 callsIn_wide.1 (zoP Fence.wide 1 trivial rfl a len cap w)
theorem zyj:(Tryz.prog.info? 3).map (fun i=>(i.zero,i.size,i.bytes))=some (some (.int .i64 0),1,8):=by kernel_rfl
set_option maxRecDepth 100000 in
theorem zi6 (F:Fence) (n:Nat) (h3:F.fn 226) (h5:F.fn 173) (hro:F.round=none) (hn:3≤n) (Bs Bo:Nat) (sv:Value) (xs:List Int) (hlen:xs.length≤maxLen) (hbytes:xs.length * 8≤140737488351232) (w:World) (hBs:Bs<w.heap.size) (hc0:w.cell? ⟨Bs,Bo,none⟩=some sv) (hL:IntsM w.heap.size w sv xs) :
  CallsIn F n Tryz.prog 226 #[.slice none 0 0,.func (.func 173) #[] #[.pointer (some ⟨Bs,Bo,none⟩)]] w fun e W'=>∃ v,e = .returned v∧W'.ownsRow w.heap.size 3 1 v xs.length (xs.map (Value.int .i64))∧(v = .slice none 0 0 ↔ xs=[])∧Below w.heap.size w W':=by
 have h1:1≤n:=by omega
 obtain⟨i0,hi,hz0,hz1,hz2⟩:=info_parts zyj
 refine callsIn_of_wp_marks Tryz.func226 rfl h3 ?_ hro
 simp only[Tryz.ntmps226,List.size_toArray,List.length_cons,List.length_nil,Nat.reduceAdd,Nat.reduceSub,Array.replicate_succ,Array.replicate_zero,List.push_toArray,List.append_toArray,List.nil_append,List.cons_append]
 gi_wp2
 have bO:=Boxed.new w 55 (.slice none 0 0)
 have hB0:Below w.heap.size w (w.alloc (.cells #[.slice none 0 0] 55)):=(Below.refl _ w).alloc (Nat.le_refl _) _
 refine wpIn_rangeFunc_ownG hro h1 (gf:=173) (lb:=#[.pointer (some ⟨Bs,Bo,none⟩)]) rfl h5 (enters_of Tryz.func173 (by kernel_rfl) rfl)
  (zie F (n - 1) h5 hro (by omega) Bs Bo w.heap.size sv xs hbytes _ (by simp;omega) (by simp) ((hB0.cell (p:=⟨Bs,Bo,none⟩) hBs).trans hc0) (hL.below hB0)) belowK_t (belowK_b (by simp)) (Below.refl _ _) (fun _=>rfl)
  (fun pre W=>(∃ v,Boxed W w.heap.size 55 v∧W.ownsRow w.heap.size 3 1 v pre.length (pre.map (Value.int .i64))∧(v = .slice none 0 0 ↔ pre=[]))∧Below w.heap.size w W)
  (fun _ _ _=>False)
  (OwnFrom.and (Own.from (holdsRow_own w.heap.size w.heap.size 55 3 1 (fun pre=>pre.length) (fun pre=>pre.map (Value.int .i64)) (fun pre v=>v = .slice none 0 0 ↔ pre=[])) _) (ownFrom_below (Nat.le_refl _) (by simp)))
  (fun _ _ _ _ _ hs _ _=>hs)
  ⟨⟨_,bO,World.ownsRow_nil _ _ _ _,by simp⟩,hB0⟩
  (fun x=>{ tmps:=#[.slice none 0 0,.func (.func 173) #[] #[.pointer (some ⟨Bs,Bo,none⟩)],.pointer (some ⟨w.heap.size,0,none⟩),undef,.slice none 0 0,.int .i64 x,.func (.func 173) #[] #[.pointer (some ⟨Bs,Bo,none⟩)],.int .i64 x,undef,undef,undef,undef,undef],defers:=[] }) ?assign ?body ?done ?stop
 case assign=>
  intro l x W K hK
  gi_wp2
  exact hK
 case body=>
  rintro l pre x W ⟨⟨v,hv,hrow,hnil⟩,hB⟩ hlt
  have hc:=hv.cell
  gi_wp2_with (gi_at_builtin;refine wpListIn_append_own _ rfl _ _ 55 rfl w.heap.size 3 i0 (.int .i64 0) 1 8 Tryz.underlying55 hi hz0 hz1 hz2 rfl (by decide) _ _ _ rfl (hrow.alloc _) ⟨W.heap.size,0,none⟩ 1 1 [.int .i64 x] rfl rfl (cell_one_new _ _ _) (by simp[Value.oneCell']) (by omega) (by omega) (by have:=hB.size;simp;omega) ?_;intro v' w1 hown' hgrow _;obtain⟨g',cap',rfl⟩:=ownsRow_succ hown';obtain⟨hv1,hv2,hr2,hk2,hb2⟩:=hv.appended (by decide) hrow hB.size (Nat.le_refl _) hown' hgrow;have hc1:=hv1.cell;have hf1:=hv1.frozen)
  exact⟨hk2.from _,hb2,⟨_,hv2,by simpa using hr2,by simp⟩,hB.trans hb2⟩
 case done=>
  rintro D ys W hD rfl ⟨⟨v,hv,hrow,hnil⟩,hB⟩ hK
  have hc:=hv.cell
  gi_wp2
  refine⟨by simp,.inl ⟨_,_,rfl,run_takeDeferred hK,?_⟩⟩
  exact⟨_,results_tmp rfl _ _ _,v,rfl,ownsRow_putObj hrow _ hK rfl,hnil,hB.trans (belowK_b (w:=w) (Nat.le_refl _) W D _ _ (by simp at hD;omega) hK rfl rfl)⟩
 case stop=>
  rintro D c pre W _ _ h _
  exact h.elim
theorem zpV (Bs Bo:Nat) (sv:Value) (xs:List Int) (hlen:xs.length≤maxLen) (hbytes:xs.length * 8≤140737488351232) (w:World) (hBs:Bs<w.heap.size) (hc0:w.cell? ⟨Bs,Bo,none⟩=some sv) (hL:IntsM w.heap.size w sv xs) :
  Calls Tryz.prog 226 #[.slice none 0 0,.func (.func 173) #[] #[.pointer (some ⟨Bs,Bo,none⟩)]] w fun e W'=>∃ v,e = .returned v∧W'.ownsRow w.heap.size 3 1 v xs.length (xs.map (Value.int .i64))∧(v = .slice none 0 0 ↔ xs=[])∧Below w.heap.size w W':=
 callsIn_wide.1 (zi6 Fence.wide 3 trivial trivial rfl (Nat.le_refl _) Bs Bo sv xs hlen hbytes w hBs hc0 hL)
end Go.Proofs
namespace Go.AI
open Go.Proofs
set_option maxRecDepth 20000
theorem zkr (O:List Heap) (l:List Int) (hl:l.length≤1000000):zan Tryz.prog 226 [.i (.v (.slice none 0 0)),.fn (.func 173) [] [.i (.ptr 1 [[zdo l]] 0 0)]] O (.osl 0 207) [(207,zbV l)] O:=by
 intro E K ρ w vs hw hrep
 obtain⟨b,o,sv,rfl,hsv,hKb⟩:∃ b o sv,vs=[.slice none 0 0,.func (.func 173) #[] #[.pointer (some ⟨b,o,none⟩)]]∧Rep K sv (zdo l)∧K b o=some sv:=by
  cases hrep with
  | cons r1 rs=>
   cases rs with
   | cons r2 rs=>
    cases rs
    have e1:=zaQ r1
    subst e1
    cases r2 with
    | fn h1 h2=>
     cases h1
     cases h2 with
     | cons h3 h4=>
      cases h4
      cases h3 with
      | i h3=>
       cases h3 with
       | ptr p1 p2 p3=>
        rename_i b o cs
        cases p1 with
        | cons q1 q2=>
         cases q2
         exact⟨b,o,_,rfl,q1,by simpa using p3 0 _ rfl⟩
 obtain⟨ρ1,hρ1,hI⟩:=zc5 hw
 have hc0:=hw.holds _ _ _ hKb
 have hlt:∀ {b o:Nat} {x:Value},w.cell? ⟨b,o,none⟩=some x→b<w.heap.size:=by
  intro b o x h
  rcases Nat.lt_or_ge b w.heap.size with h' | h'
  ·exact h'
  ·simp[World.cell?,Array.getElem?_eq_none h'] at h
 have hIn:IntsM w.heap.size w sv l:=by
  cases l with
  | nil=>
   cases hsv with
   | nil=>exact .inl ⟨_,_,rfl,rfl⟩
   | sl a1 a2 a3 a4 a5=>exact .inl ⟨_,_,rfl,rfl⟩
  | cons x r=>
   cases hsv with
   | sl a1 a2 a3 a4 a5=>
    have e:=zgz a1
    refine .inr ⟨_,_,_,rfl,hlt (hw.holds _ _ _ (a3 0 (.int .i64 x) (by rw[e];rfl))),fun j hj=>?_⟩
    refine hw.holds _ _ _ (a3 j _ ?_)
    rw[e,List.getElem?_map,List.getElem?_eq_getElem hj]
    rfl
 refine .inl ⟨Tryz.call226 _ _,?_⟩
 refine (zpV b o sv l (by simp only[maxLen];omega) (by omega) w (hlt hc0) hc0 hIn).mono ?_
 rintro e w' ⟨v,rfl,hrow,_,hB⟩
 obtain⟨lc,hv,hown,hbk⟩:∃ lc:Loc,v = .slice lc.base l.length lc.cap∧OwnAt K (upd ρ1 207 lc) (shape (addS ([]::O) [(207,zbV l)])) w' lc (zbV l)∧(zaD lc (zbV l)→w.heap.size≤lc.block):=by
  rcases hrow.2 with ⟨rfl,h0⟩ | ⟨g,cap,cur,rfl,hg,hgb,h1,h2,h3,h4⟩
  ·have hl0:l=[]:=List.eq_nil_of_length_eq_zero h0
   subst hl0
   exact⟨⟨0,0,none⟩,rfl,⟨by simp,rfl,Nat.le_refl _,Nat.zero_le _,.inl ⟨rfl,rfl⟩⟩,fun h=>absurd rfl h⟩
  ·refine⟨⟨g,cap,some ⟨g,0,none⟩⟩,rfl,⟨fun d hd=>by obtain⟨x,_,rfl⟩:=List.mem_map.1 hd;rfl,by simp,h1,h2,.inr ⟨rfl,cur,hgb,h3,?_,fun _ o=>hw.K_fresh hg,fun o _=>hw.K_fresh hg,fun h=>by cases h⟩⟩,fun _=>hg⟩
   rw[h4]
   exact zgR l
 have hgrow:Grow K ρ1 ([]::O) w [(207,zbV l)] K (upd ρ1 207 lc) w':=by
  refine⟨K.le_refl,fun _ _ _ h=>.inl h,hB.size,fun k hk=>hB.block k hk,⟨hB.tape,hB.os,hB.output⟩,?_,?_,?_,?_⟩
  ·intro dep nm h
   refine zaL _ _ _ ?_
   rcases h with h | h
   ·exact .inl h
   ·refine .inr fun e=>?_
    subst e
    simp[zac] at h
  ·intro b o x h
   have h1:=hw.holds _ _ _ h
   rw[World.cell?,hB.block _ (hlt h1)]
   exact h1
  ·intro nm ob h
   rw[zac] at h
   split at h
   ·rename_i e
    subst e
    cases h
    rw[zaP]
    exact⟨hown,hbk⟩
   ·simp[look] at h
  ·intro nm ob nm' ob' h h' _ _ _
   rw[zac] at h h'
   split at h
   ·split at h'
    ·rename_i e1 e2;rw[← e1,← e2]
    ·simp[look] at h'
   ·simp[look] at h
 obtain⟨hI2,hst⟩:=HInv.grow (S:=[]::O) rfl hI (fun _ _ _ e=>e) (fun _ h=>by simp[look]) hgrow
 refine⟨_,rfl,K,upd ρ1 207 lc,hI2,?_⟩
 rw[hv]
 have:=RepD.osl (K:=K) (ρ:=upd ρ1 207 lc) (sh:=shape ([(207,zbV l)]::O)) (dep:=0) (nm:=207) (es:=1) (len:=l.length) (by simp[shape,zab,zac,Ob.sh])
 rwa [zaP] at this
theorem zpO (O:List Heap) (l:List Int) (hl:l.length≤1000000):zan Tryz.prog 171 [.fn (.func 173) [] [.i (.ptr 1 [[zdo l]] 0 0)]] O (.osl 0 207) [(207,zbV l)] O:=by
 have h:=fun O=>zkr O l hl
 refine zaa Tk Tryz.func171 rfl Tryz.call171 Tryz.ntmps171 (Nat.le_of_ble_eq_true rfl) fun E=>?_
 refine zag Tk Tryz.func171 ?_
 refine zak Tk Tryz.func171 (h _) rfl rfl rfl rfl rfl ?_
 exact⟨zaA (hT:=Tk) (r:=.osl 0 207) rfl rfl rfl ⟨⟨_,rfl,rfl⟩,trivial⟩ (zgu _ _ _) rfl rfl⟩
theorem zqV (O:List Heap) (l:List Int) (hl:l.length≤1000000):zan Tryz.prog 132 [.fn (.func 173) [] [.i (.ptr 1 [[zdo l]] 0 0)]] O (ints (zc9 l)) [] O:=by
 have h:=fun O=>zpO O l hl
 refine zaR [2] Tk Tryz.func132 rfl Tryz.call132 Tryz.ntmps132 (Nat.le_of_ble_eq_true rfl) fun E=>?_
 refine zag Tk Tryz.func132 ?_
 refine zak Tk Tryz.func132 (h _) rfl rfl rfl rfl rfl ?_
 refine zax ?_
 by_cases h0:l=[]
 ·subst h0
  have h2:=fun O=>zwb O
  refine zas (zap 207 rfl rfl) ?_
  refine zag Tk Tryz.func132 ?_
  refine g_go Tk Tryz.func132 ?_
  refine zak Tk Tryz.func132 (h2 _) rfl rfl rfl rfl rfl ?_
  refine zah Tk (r:=ints []) rfl rfl rfl trivial rfl rfl ?_
  rw[show zc9 []=[] from List.eq_nil_of_length_eq_zero (by rw[zgn];rfl)]
 ·have h2:=fun O d ho=>zxN O d 207 l (List.length_pos_iff.2 h0) (by omega) ho
  refine zag Tk Tryz.func132 ?_
  refine g_go Tk Tryz.func132 ?_
  refine zak Tk Tryz.func132 (h2 _ 0 rfl) rfl rfl rfl (zbc (ob:=zbV l) rfl (by simp[Ob.sh,zgn])) rfl ?_
  refine za8 (zap 207 rfl rfl) ?_
  refine zah Tk (r:=ints (zc9 l)) rfl rfl rfl trivial rfl rfl ?_
  rfl
theorem zt6 {K:Kn} {v:Value} {es n:Nat} {xs:List (List I)} (h:Rep K v (.sl es n xs)):∃ a len cap,v = .slice a len cap:=by
 cases h with
 | nil=>exact⟨_,_,_,rfl⟩
 | sl=>exact⟨_,_,_,rfl⟩
theorem zqF (O:List Heap) (l:List Int):zan Tryz.prog 133 [ints l] O (.fn (.func 173) [] [.i (.ptr 1 [[zdo l]] 0 0)]) [] O:=by
 intro E K ρ w vs hw hrep
 obtain⟨sv,rfl,hsv⟩:∃ sv,vs=[sv]∧Rep K sv (zdo l):=by
  cases hrep with
  | cons r rs=>
   cases rs
   cases r with
   | i r=>exact⟨_,rfl,r⟩
 obtain⟨a,len,cap,rfl⟩:∃ a len cap,sv = .slice a len cap:=zt6 hsv
 refine .inl ⟨Tryz.call133 _ _,(zvZ a len cap w).mono ?_⟩
 rintro e w' ⟨rfl,rfl⟩
 obtain⟨ρ1,hρ1,hI⟩:=zc5 hw
 obtain⟨K',hg,hr⟩:=zjZ hI (cs:=#[.slice a len cap]) (es:=1) (n:=1) (xs:=[[zdo l]]) (ty:=55) (by simp) rfl (.cons hsv .nil)
 obtain⟨hI2,hst⟩:=HInv.grow (S:=[]::O) rfl hI (fun _ _ _ e=>e) (fun _ h=>by simp[look] at h) hg
 refine⟨_,rfl,K',ρ1,hI2,.fn (first:=[]) .nil (.cons (.i ?_) .nil)⟩
 cases hr with
 | sl a1 a2 a3 a4 a5=>
  have:=Rep.ptr (i:=0) (off:=0) a1 a2 a3
  simpa using this
theorem zqC {c:Cx} {s:St} (t k:Nat) (h:look s.σ t=some (.i (.v (.func (.func k) #[] #[])))):Wk c s { σ:=(t,.fn (.func k) [] [])::s.σ,S:=s.S,n:=s.n }:=by
 have h2:s.get t = .i (.v (.func (.func k) #[] #[])):=by unfold St.get;rw[h]
 exact zyx t (s:=s) (c:=c) (d:=.fn (.func k) [] []) (by rw[h2];exact zxs)
theorem zbH {α:Type} {nm:α→ByteArray} {err:α→Int}:∀ {l:List α} {b:List ByteArray} {i j:Nat} {e:Int},zaU nm err b l i=some (j,e)→e≠0
 | [],_,_,_,_,h=>by simp[zaU] at h
 | x::r,b,i,j,e,h=>by
  simp only[zaU] at h
  by_cases h1:nmE b (nm x)≠0
  ·rw[if_pos h1] at h
   simp only[Option.some.injEq,Prod.mk.injEq] at h
   rw[← h.2];exact h1
  ·rw[if_neg h1] at h
   by_cases h2:err x≠0
   ·rw[if_pos h2] at h
    simp only[Option.some.injEq,Prod.mk.injEq] at h
    rw[← h.2];exact h2
   ·rw[if_neg h2] at h
    exact zbH h
theorem zd7 {α:Type} {nm:α→ByteArray} {err:α→Int}:∀ {l:List α} {b:List ByteArray} {i:Nat},zaU nm err b l i=none→∀ x∈l,err x=0
 | [],_,_,_,x,hx=>by simp at hx
 | y::r,b,i,h,x,hx=>by
  simp only[zaU] at h
  by_cases h1:nmE b (nm y)≠0
  ·rw[if_pos h1] at h;cases h
  ·rw[if_neg h1] at h
   by_cases h2:err y≠0
   ·rw[if_pos h2] at h;cases h
   ·rw[if_neg h2] at h
    rcases List.mem_cons.1 hx with rfl | hx
    ·exact Classical.byContradiction h2
    ·exact zd7 h x hx
theorem zri {k:Int} {o:Option (Nat × Int)} (h:∀ j e,o=some (j,e)→e≠0) (z:Plc × Int):plc k o z id=if (plc k o ((0,0),0) id:Plc × Int).2≠0 then plc k o ((0,0),0) id else z:=by
 cases o with
 | none=>rfl
 | some x=>
  obtain⟨j,e⟩:=x
  have:=h j e rfl
  rw[if_pos (show (plc k (some (j,e)) ((0,0),0) id:Plc × Int).2≠0 from this)]
  rfl
theorem zrG (m:Mdl):mdlE m=if zaT m.name=false then ((0,0),7) else plc 1 (evsP [] m.evs 0) (if (chkT m).2≠0 then chkT m else if (chkI m).2≠0 then chkI m else chkC m) id:=by
 unfold mdlE
 congr 1
 congr 1
 unfold chkT
 by_cases h1:m.tpls.length>16
 ·rw[if_pos h1,if_pos h1];rfl
 rw[if_neg h1,if_neg h1,zri (fun _ _ h=>zbH h)]
 congr 1
 unfold chkI
 by_cases h2:m.comps.length=0
 ·rw[if_pos h2,if_pos h2];rfl
 rw[if_neg h2,if_neg h2]
 by_cases h3:m.comps.length>8
 ·rw[if_pos h3,if_pos h3];rfl
 rw[if_neg h3,if_neg h3]
 by_cases h4:m.comps.length+m.reqs.length>12
 ·rw[if_pos h4,if_pos h4];rfl
 rw[if_neg h4,if_neg h4]
 have e:(if m.excs.length>32 then (((5,32),3):Plc × Int) else plc 5 (zaU NEx.name (excE m) [] m.excs 0) (if m.cons.length>32 then ((6,32),3) else plc 6 (zaU NCn.name (conE m) [] m.cons 0) ((0,0),0) id) id)=chkC m:=rfl
 rw[e]
 generalize hq:zaU Ins.name (insE m) [] m.comps 0=o3
 generalize hr:zaU Ins.name (reqE m) (m.comps.map (·.name)) m.reqs 0=o4
 cases o3 with
 | some x=>
  obtain⟨j,e⟩:=x
  have:=zbH hq
  rw[if_pos (show (plc 3 (some (j,e)) (plc 4 o4 ((0,0),0) id) id:Plc × Int).2≠0 from this)]
  rfl
 | none=>
  have e3:∀ z:Plc × Int,plc 3 none z id=z:=fun z=>rfl
  simp only[e3]
  exact zri (fun _ _ h=>zbH (hr.trans h)) _
theorem zsG {m:Mdl} (h:(chkI m).2=0):∀ c∈m.comps,insE m c=0:=by
 unfold chkI at h
 by_cases h2:m.comps.length=0
 ·rw[if_pos h2] at h;simp at h
 rw[if_neg h2] at h
 by_cases h3:m.comps.length>8
 ·rw[if_pos h3] at h;simp at h
 rw[if_neg h3] at h
 by_cases h4:m.comps.length+m.reqs.length>12
 ·rw[if_pos h4] at h;simp at h
 rw[if_neg h4] at h
 generalize hq:zaU Ins.name (insE m) [] m.comps 0=o3 at h
 cases o3 with
 | some x=>
  obtain⟨j,e⟩:=x
  exact absurd h (zbH hq)
 | none=>exact zd7 hq
theorem zng {m:Mdl} {x:Ins} (h:insE m x=0):∃ t,zbS m x=some t∧t∈m.tpls∧x.evs.length=t.evs.length∧zc4 m [] x.evs=0:=by
 unfold insE at h
 unfold zbS
 cases ht:m.tpls.find? (fun t=>sB t.name x.tpl) with
 | none=>rw[ht] at h;cases h
 | some t=>
  rw[ht] at h
  simp only at h
  by_cases h1:x.evs.length≠t.evs.length
  ·rw[if_pos h1] at h;cases h
  ·rw[if_neg h1] at h
   exact⟨t,rfl,List.mem_of_find?_eq_some ht,Classical.byContradiction h1,h⟩
theorem zfG {k:Int} {o:Option (Nat × Int)} (h:∀ j e,o=some (j,e)→e≠0) {z:Plc × Int} (h2:(plc k o z id:Plc × Int).2=0):o=none∧(plc k o z id:Plc × Int)=z:=by
 cases o with
 | none=>exact⟨rfl,rfl⟩
 | some x=>obtain⟨j,e⟩:=x;exact absurd h2 (h j e rfl)
theorem zsH {m:Mdl} (h:(chkC m).2=0):chkC m=((0,0),0):=by
 unfold chkC at h ⊢
 by_cases h2:m.excs.length>32
 ·rw[if_pos h2] at h;simp at h
 rw[if_neg h2] at h ⊢
 obtain⟨h4,h5⟩:=zfG (fun _ _ h=>zbH h) h
 rw[h5] at h ⊢
 by_cases h3:m.cons.length>32
 ·rw[if_pos h3] at h;simp at h
 rw[if_neg h3] at h ⊢
 exact (zfG (fun _ _ h=>zbH h) h).2
abbrev fns3:D:=.i (.sl 1 3 [[.v (.func (.func 47) #[] #[])],[.v (.func (.func 48) #[] #[])],[.v (.func (.func 49) #[] #[])]])
theorem ztF (O:List Heap) (m:Mdl) (hm:mdlOk m):zan Tryz.prog 14 [mdlD m] O (plcD (mdlE m)) [] O:=by
 have h0:=fun O=>ze1 O m.name hm.nm
 have h47:=fun O=>zfX O m hm
 have h48:=fun O=>zfZ O m hm
 have h49:(chkI m).2=0→∀ O,zan Tryz.prog 49 [mdlD m] O (plcD (chkC m)) [] O:=fun h O=>zfz O m hm fun c hc=>by
  obtain⟨t,h1,h2,_⟩:=zng (zsG h c hc)
  exact⟨t,h1,(hm.tpk t h2).ll⟩
 have hC0:=fun h=>zsH (m:=m) h
 have hev:=hm.ev
 have hen:=hm.evn
 rw[zrG]
 generalize chkT m=cT at *
 generalize chkI m=cI at *
 generalize chkC m=cC at *
 generalize hV:(if cT.2≠0 then cT else if cI.2≠0 then cI else cC)=V
 obtain⟨nm,l,tpls,comps,reqs,excs,cons⟩:=m
 simp only at h0 hev hen ⊢
 generalize zaT nm=nb at *
 generalize hR:evsP [] l 0=R
 refine zaR [13] Tk Tryz.func14 rfl Tryz.call14 Tryz.ntmps14 (Nat.le_of_ble_eq_true rfl) fun E=>?_
 refine zag Tk Tryz.func14 ?_
 refine zak Tk Tryz.func14 (h0 _) rfl rfl rfl rfl rfl ?_
 refine zai Tk Tryz.func14 rfl (fun c1=>?_) (fun c1=>?_)
 ·have c1:nb=false:=by simpa using c1
  rw[if_pos c1]
  refine zah Tk (r:=plcD ((0,0),7)) rfl rfl rfl trivial rfl rfl ?_
  rfl
 have c1:¬ nb=false:=by simpa using c1
 rw[if_neg c1]
 refine zae ?_
 refine zaj (fun i:Nat=>[(1,.own 0 1 0 0),(2,.own 0 2 0 0),(16,.i (za3 l)),(17,ii l.length),(18,ii i)]) (fun i=>[(1,.box (mdlC ⟨nm,l,tpls,comps,reqs,excs,cons⟩)),(2,plcN)]) (fun _=>O) 51
  (fun i=>i≤l.length∧evsP (l.take i) (l.drop i) i=R) (fun i=>l.length - i) 0 ⟨Nat.zero_le _,hR⟩ ⟨rfl,rfl,rfl,rfl,rfl,trivial⟩ rfl ⟨rfl,rfl,trivial⟩ rfl rfl ?_
 clear hR
 rintro i ⟨hi,hno⟩ ih
 refine zag Tk Tryz.func14 ?_
 refine zai Tk Tryz.func14 rfl (fun g1=>?_) (fun g1=>?_)
 ·have g1:i<l.length:=by simpa using g1
  have hw:IntKind.i64.wrap ((i:Int)+1)=((i+1:Nat):Int):=zaB (n:=1000001) (by omega) (by decide)
  have ht:l.take (i+1)=l.take i++[l[i]]:=List.take_succ_eq_append_getElem g1
  have hA:∀ O,zan Tryz.prog 46 [.i (.sl 5 (IntKind.i64.wrap ((i:Int)+1)).toNat ((l.map evtI).take (IntKind.i64.wrap ((i:Int)+1)).toNat))] O (ii (zlu (l.take (i+1)))) [] O:=fun O=>by
   rw[hw,Int.toNat_natCast,← zgl evtI 5 g1]
   exact zxA O (l.take (i+1)) (by rw[List.length_take];omega) fun x hx=>hen x (List.mem_of_mem_take hx)
  rw[List.drop_eq_getElem_cons g1] at hno
  simp only[evsP,← ht] at hno
  generalize zlu (l.take (i+1))=e1 at *
  refine zaf Tk Tryz.func14 (by exact⟨by rw[hw];omega,by rw[hw];show ((i+1:Nat):Int)≤(l.length:Int);omega⟩) ?_
  refine zak Tk Tryz.func14 (hA _) rfl rfl rfl rfl rfl ?_
  refine zai Tk Tryz.func14 rfl (fun c2=>?_) (fun c2=>?_)
  ·have c2:e1≠0:=bneT c2
   rw[if_pos c2] at hno
   subst hno
   refine zah Tk (r:=plcD ((1,i),e1)) rfl rfl rfl trivial rfl rfl ?_
   rfl
  have c2:¬ e1≠0:=fun h=>h (bneF c2)
  rw[if_neg c2] at hno
  refine zae ?_
  exact ih (i+1) _ _ ⟨g1,hno⟩ (by omega) ⟨rfl,rfl,rfl,rfl,congrArg ii hw,trivial⟩ rfl ⟨rfl,rfl,trivial⟩ rfl rfl
 have g1:l.length≤i:=by simpa using g1
 rw[List.drop_eq_nil_of_le g1] at hno
 have hno:none=R:=hno
 subst hno
 have e0:plc 1 none V id=V:=rfl
 rw[e0]
 clear e0 ih
 obtain⟨⟨t1,t2⟩,t3⟩:=cT
 obtain⟨⟨i1,i2⟩,i3⟩:=cI
 obtain⟨⟨k1,k2⟩,k3⟩:=cC
 simp only at h47 h48 h49 hV hC0
 refine zae ?_
 refine zag Tk Tryz.func14 ?_
 refine gcT Tk Tryz.func14 rfl ?_
 refine zaf Tk Tryz.func14 (by decide) ?_
 refine zaq Tk Tryz.func14 (rfl) ?_
 refine zax ?_
 refine zas (zqC 7 47 rfl) ?_
 refine zag Tk Tryz.func14 ?_
 refine g_go Tk Tryz.func14 ?_
 refine zak Tk Tryz.func14 (h47 _) rfl rfl rfl rfl rfl ?_
 refine zai Tk Tryz.func14 rfl (fun c3=>?_) (fun c3=>?_)
 ·have c3:t3≠0:=bneT c3
  rw[if_pos c3] at hV
  subst hV
  refine zah Tk (r:=plcD ((t1,t2),t3)) rfl rfl rfl trivial rfl rfl ?_
  rfl
 have c3:¬ t3≠0:=fun h=>h (bneF c3)
 rw[if_neg c3] at hV
 refine zae ?_
 refine zas (zcW (l:=[(1,.own 0 1 0 0),(2,.own 0 2 0 0),(33,fns3),(34,ii 3),(35,ii 1)]) (Hv:=[(1,.box (mdlC ⟨nm,l,tpls,comps,reqs,excs,cons⟩)),(2,plcN)]) ⟨rfl,rfl,rfl,rfl,rfl,trivial⟩ rfl ⟨rfl,rfl,trivial⟩ rfl rfl) ?_
 refine zag Tk Tryz.func14 ?_
 refine gcT Tk Tryz.func14 rfl ?_
 refine zaf Tk Tryz.func14 (by decide) ?_
 refine zaq Tk Tryz.func14 (rfl) ?_
 refine zax ?_
 refine zas (zqC 7 48 rfl) ?_
 refine zag Tk Tryz.func14 ?_
 refine g_go Tk Tryz.func14 ?_
 refine zak Tk Tryz.func14 (h48 _) rfl rfl rfl rfl rfl ?_
 refine zai Tk Tryz.func14 rfl (fun c4=>?_) (fun c4=>?_)
 ·have c4:i3≠0:=bneT c4
  rw[if_pos c4] at hV
  subst hV
  refine zah Tk (r:=plcD ((i1,i2),i3)) rfl rfl rfl trivial rfl rfl ?_
  rfl
 have c4:i3=0:=bneF c4
 rw[if_neg (fun h=>h c4)] at hV
 subst hV
 refine zae ?_
 refine zas (zcW (l:=[(1,.own 0 1 0 0),(2,.own 0 2 0 0),(33,fns3),(34,ii 3),(35,ii 2)]) (Hv:=[(1,.box (mdlC ⟨nm,l,tpls,comps,reqs,excs,cons⟩)),(2,plcN)]) ⟨rfl,rfl,rfl,rfl,rfl,trivial⟩ rfl ⟨rfl,rfl,trivial⟩ rfl rfl) ?_
 refine zag Tk Tryz.func14 ?_
 refine gcT Tk Tryz.func14 rfl ?_
 refine zaf Tk Tryz.func14 (by decide) ?_
 refine zaq Tk Tryz.func14 (rfl) ?_
 refine zax ?_
 refine zas (zqC 7 49 rfl) ?_
 refine zag Tk Tryz.func14 ?_
 refine g_go Tk Tryz.func14 ?_
 refine zak Tk Tryz.func14 (h49 c4 _) rfl rfl rfl rfl rfl ?_
 refine zai Tk Tryz.func14 rfl (fun c5=>?_) (fun c5=>?_)
 ·refine zah Tk (r:=plcD ((k1,k2),k3)) rfl rfl rfl trivial rfl rfl ?_
  rfl
 have c5:k3=0:=bneF c5
 refine zae ?_
 refine zas (zcW (l:=[(1,.own 0 1 0 0),(2,.own 0 2 0 0),(33,fns3),(34,ii 3),(35,ii 3)]) (Hv:=[(1,.box (mdlC ⟨nm,l,tpls,comps,reqs,excs,cons⟩)),(2,plcN)]) ⟨rfl,rfl,rfl,rfl,rfl,trivial⟩ rfl ⟨rfl,rfl,trivial⟩ rfl rfl) ?_
 refine zag Tk Tryz.func14 ?_
 refine gcF Tk Tryz.func14 rfl ?_
 obtain⟨⟨rfl,rfl⟩,rfl⟩:(k1=0∧k2=0)∧k3=0:=by simpa using hC0 c5
 refine zah Tk (r:=plcD ((0,0),0)) rfl rfl rfl trivial rfl rfl ?_
 rfl
theorem zjf {x:Ex} {n k:Int} (h:zbk x n k=0):wfE n x:=by
 unfold zbk at h
 by_cases h1:(zb3 x n).2=0∧(zb3 x n).1≠k
 ·rw[if_pos h1] at h;cases h
 ·rw[if_neg h1] at h
  exact zf6 x n 1 0 (zkm h).1
theorem zgi {n:Int}:∀ {l:List Upd} {p:Int},p<n→zcx n (some p) l=0→(l.length:Int)≤n - 1 - p∧∀ u∈l,zbk u.x n 1=0
 | [],p,hp,_=>⟨by simp;omega,by simp⟩
 | u::r,p,hp,h=>by
  simp only[zcx] at h
  by_cases h1:u.v<0∨u.v ≥ n
  ·rw[if_pos h1] at h;cases h
  rw[if_neg h1] at h
  by_cases h2:(some p).any (fun x=>decide (u.v≤x))=true
  ·rw[if_pos h2] at h;cases h
  rw[if_neg h2] at h
  by_cases h3:zbk u.x n 1≠0
  ·rw[if_pos h3] at h;exact absurd h h3
  rw[if_neg h3] at h
  have h2:¬ u.v≤p:=by simpa using h2
  obtain⟨h4,h5⟩:=zgi (by omega) h
  refine⟨by rw[List.length_cons];omega,fun x hx=>?_⟩
  rcases List.mem_cons.1 hx with rfl | hx
  ·exact Classical.byContradiction h3
  ·exact h5 x hx
theorem zoU {n:Int} (hn:0≤n) {l:List Upd} (h:zcx n none l=0):(l.length:Int)≤n∧∀ u∈l,zbk u.x n 1=0:=by
 cases l with
 | nil=>exact⟨by simpa using hn,by simp⟩
 | cons u r=>
  simp only[zcx] at h
  by_cases h1:u.v<0∨u.v ≥ n
  ·rw[if_pos h1] at h;cases h
  rw[if_neg h1] at h
  rw[if_neg (by simp)] at h
  by_cases h3:zbk u.x n 1≠0
  ·rw[if_pos h3] at h;exact absurd h h3
  rw[if_neg h3] at h
  obtain⟨h4,h5⟩:=zgi (by omega) h
  refine⟨by rw[List.length_cons];omega,fun x hx=>?_⟩
  rcases List.mem_cons.1 hx with rfl | hx
  ·exact Classical.byContradiction h3
  ·exact h5 x hx
abbrev zrp (l:List Upd):Ob:=.arr 189 5 l.length (l.map updI) true
abbrev zoN:List D:=[.i (.v (.slice none 0 0)),ii 0,ii 0,.i (.v (.slice none 0 0)),.i (.v (.slice none 0 0)),.i (.v (.slice none 0 0))]
structure mchOk (m:Mdl) (x:Ins) (t:Tpl):Prop where
 tp:zbS m x=some t
 mem:t∈m.tpls
 right:extRight t.mach
 len:x.evs.length=t.evs.length
 alpha:t.mach.alpha=(List.range t.evs.length).map (fun k=>((k:Nat):Int))
 mvl:t.mach.moves.length≤19
abbrev evI (m:Mdl) (x:Ins):List Int:=x.evs.map fun s=>fndI (m.evs.map (·.name)) s
def mvEv (evs:List Int) (y:Mv):Mv:={ y with ev:=evs.getD y.ev.toNat 0 }
theorem zjJ (O:List Heap) (m:Mdl) (x:Ins) (t:Tpl) (hm:mdlOk m) (hx:x.evs.length≤1000000) (h:mchOk m x t):zan Tryz.prog 55 [mdlD m,insD x] O (extD (mchE m x t)) [] O:=by
 have hf:=fun O=>zei O m 2 x.tpl hm.toszOk
 rw[show namK m 2=m.tpls.map (·.name) from rfl] at hf
 have hf1:=fun O s=>zei O m 1 s hm.toszOk
 rw[show namK m 1=m.evs.map (·.name) from rfl] at hf1
 have htp:=h.tp
 unfold zbS at htp
 rcases zfK Tpl.name m.tpls x.tpl with ⟨h1,_⟩ | ⟨k,t',h1,h2,h3⟩
 ·rw[h1] at htp;cases htp
 rw[h2] at htp
 cases htp
 rw[h3,ze6] at hf
 clear h2 h3
 have hkl:k<m.tpls.length:=(List.getElem?_eq_some_iff.1 h1).1
 have gt:(m.tpls.map tplI)[(k:Int).toNat]? = some (tplI t):=by rw[Int.toNat_natCast,List.getElem?_map,h1];rfl
 clear h1
 have hok:=(hm.tpk t h.mem).mo
 have hr:=h.right
 have hvl:t.mach.vars.length≤16:=by
  have:=hr.vars
  unfold zbx at this
  by_cases hc:t.mach.vars.length>16
  ·rw[if_pos hc] at this;cases this
  ·omega
 have hmk:t.mach.marked.length≤1000:=by
  have:=zfd (n:=t.mach.locs) (by have:=hr.locs;omega) hr.marked
  have:=hr.locs
  omega
 have hmvl:=h.mvl
 have hevb:∀ y∈t.mach.moves,0≤y.ev∧y.ev<(x.evs.length:Int):=by
  intro y hy
  have:=(hr.mv y hy).ev
  rw[h.alpha] at this
  simp only[List.mem_map,List.mem_range] at this
  obtain⟨j,hj,e⟩:=this
  rw[h.len]
  omega
 have hcl:∀ y∈t.mach.moves,(∀ O,zan Tryz.prog 134 [exA y.g] O (exA y.g) [] O)∧y.us.length≤1000∧∀ u∈y.us,∀ O,zan Tryz.prog 134 [exA u.x] O (exA u.x) [] O:=by
  intro y hy
  have hy:=hr.mv y hy
  obtain⟨h4,h5⟩:=zoU (by omega) hy.us
  exact⟨fun O=>zki _ y.g (Nat.lt_succ_self _) (zjf hy.g) O,by omega,fun u hu O=>zki _ u.x (Nat.lt_succ_self _) (zjf (h5 u hu)) O⟩
 have h86:=fun O=>znA O t.mach.marked (by simp only[big];omega)
 have h131:=fun O=>zvd O t.mach.vars (by omega)
 have h135:=fun O d nm l hl ho=>zwd O d nm l hl ho
 clear hok hr h
 have hxe:∀ s,fndI (m.evs.map (·.name)) s=fnd0 (nmIx (m.evs.map (·.name)) s):=fun s=>rfl
 generalize hR:mchE m x t=R
 unfold mchE at hR
 simp only[zwa] at hR
 change (⟨zc9 (evI m x),t.mach.locs,t.mach.init,t.mach.marked,t.mach.vars,zdu (t.mach.moves.map (mvEv (evI m x)))⟩:Ext)=R at hR
 obtain⟨tn,tl,te,⟨al,lo,ini,mk,vr,mo⟩⟩:=t
 simp only at gt hvl hmk hmvl hevb hcl h86 h131 hR
 refine zaR [200062,21] Tk Tryz.func55 rfl Tryz.call55 Tryz.ntmps55 (Nat.le_of_ble_eq_true rfl) fun E=>?_
 refine zag Tk Tryz.func55 ?_
 refine zak Tk Tryz.func55 (hf _) rfl rfl rfl rfl rfl ?_
 refine zaf Tk Tryz.func55 (by exact⟨by omega,by show (k:Int)<(m.tpls.length:Int);omega⟩) ?_
 refine zaq Tk Tryz.func55 (gt) ?_
 refine zaw Tk Tryz.func55 zaG rfl ?_
 refine za2 Tk (fun _=>h86 _) rfl rfl rfl ?_
 refine za2 Tk (fun _=>h131 _) rfl rfl rfl ?_
 refine zcY Tk rfl rfl rfl ?_
 refine zaH Tk Tryz.func55 (by kernel_rfl) ?_
 refine g_wk (zb2 9 59 3 1 rfl rfl rfl) ?_
 refine zae ?_
 refine zaj (fun i:Nat=>[(2,.own 0 2 0 0),(4,.own 0 4 0 0),(7,.own 0 7 0 0),(8,.own 0 8 0 0),(9,.osl 0 59),(44,ssD x.evs),(45,ii x.evs.length),(46,ii i)])
  (fun i=>[(2,.box (mdlC m)),(4,.box zoN),(7,.box (extC ⟨al,lo,ini,mk,vr,mo⟩)),(8,.box [.i (.v (.slice none 0 0)),ii lo,ii ini,ints mk,vrs vr,.i (.v (.slice none 0 0))]),(59,zbV ((evI m x).take i))]) (fun _=>O) 115
  (fun i=>i≤x.evs.length) (fun i=>x.evs.length - i) 0 (Nat.zero_le _) ⟨rfl,rfl,rfl,rfl,rfl,rfl,rfl,rfl,trivial⟩ rfl ⟨rfl,rfl,rfl,rfl,rfl,trivial⟩ rfl rfl ?_
 intro i hi ih
 have hi:i≤x.evs.length:=hi
 have hel:(evI m x).length=x.evs.length:=by simp[evI]
 refine zag Tk Tryz.func55 ?_
 refine zai Tk Tryz.func55 rfl (fun g1=>?_) (fun g1=>?_)
 ·have g1:i<x.evs.length:=by simpa using g1
  have gs:(x.evs.map fun s=>[strI s])[(i:Int).toNat]? = some [strI x.evs[i]]:=zam (f:=fun s=>[strI s]) g1
  have ht:(evI m x).take (i+1)=(evI m x).take i++[fnd0 (nmIx (m.evs.map (·.name)) x.evs[i])]:=by
   rw[List.take_succ_eq_append_getElem (by rw[hel];exact g1)]
   simp[evI,hxe]
  have hl:((evI m x).take i).length=i:=by rw[List.length_take,hel];omega
  have hf2:=fun O=>hf1 O x.evs[i]
  generalize (evI m x).take i=L at *
  generalize nmIx (m.evs.map (·.name)) x.evs[i]=q at *
  generalize x.evs[i]=s at *
  refine zaf Tk Tryz.func55 (by exact⟨by omega,by show (i:Int)<(x.evs.length:Int);omega⟩) ?_
  refine zaq Tk Tryz.func55 (gs) ?_
  refine zak Tk Tryz.func55 (hf2 _) rfl rfl rfl rfl rfl ?_
  refine zaf Tk Tryz.func55 (by exact⟨by show (L.length+1) * 8≤140737488355328;omega,by show L.length+1≤9223372036854775807;omega⟩) ?_
  refine zae ?_
  refine ih (i+1) _ _ g1 (by omega) ⟨rfl,rfl,rfl,rfl,rfl,rfl,rfl,congrArg ii (zaB (n:=1000001) (by omega) (by decide)),trivial⟩ rfl ⟨rfl,rfl,rfl,rfl,?_,trivial⟩ rfl rfl
  rw[ht]
  exact congrArg some (zcz L _)
 have g1:x.evs.length≤i:=by simpa using g1
 rw[List.take_of_length_le (by rw[hel];exact g1)]
 clear ih g1 hi
 rw[← hel] at hevb hx
 generalize evI m x=evs at *
 have h133:=fun O=>zqF O evs
 have h132:=fun O=>zqV O evs hx
 generalize zc9 evs=sal at *
 refine zxi Tk Tryz.func55 rfl rfl (zap 59 rfl rfl) ?_
 refine zak Tk Tryz.func55 (h133 _) rfl rfl rfl rfl rfl ?_
 refine zak Tk Tryz.func55 (h132 _) rfl rfl rfl rfl rfl ?_
 refine g_wk (zay 8 108 187 8 (pre:=[ints sal,ii lo,ii ini,ints mk,vrs vr]) (post:=[]) rfl rfl rfl) ?_
 refine zae ?_
 refine zaj (fun i:Nat=>[(4,.own 0 4 0 0),(8,.own 0 8 0 0),(9,ints evs),(66,mvs mo),(67,ii mo.length),(68,ii i)])
  (fun i=>[(4,.box zoN),(8,.box [ints sal,ii lo,ii ini,ints mk,vrs vr,.osl 0 108]),(108,zdc ((mo.take i).map (mvEv evs)))]) (fun _=>O) 115
  (fun i=>i≤mo.length) (fun i=>mo.length - i) 0 (Nat.zero_le _) ⟨rfl,rfl,rfl,rfl,rfl,rfl,trivial⟩ rfl ⟨rfl,rfl,rfl,trivial⟩ rfl rfl ?_
 intro i hi ih
 have hi:i≤mo.length:=hi
 refine zag Tk Tryz.func55 ?_
 refine zai Tk Tryz.func55 rfl (fun g1=>?_) (fun g1=>?_)
 ·have g1:i<mo.length:=by simpa using g1
  have gs:(mo.map mvI)[(i:Int).toNat]? = some (mvI mo[i]):=zam (f:=mvI) g1
  have ht:=zaM (mvEv evs) g1
  have hl:((mo.take i).map (mvEv evs)).length=i:=by rw[List.length_map,List.length_take];omega
  have he:=hevb mo[i] (List.getElem_mem g1)
  obtain⟨hcg,hul,hcu⟩:=hcl mo[i] (List.getElem_mem g1)
  have hj1:ii (IntKind.i64.wrap ((i:Int)+1))=ii ((i+1:Nat):Int):=congrArg ii (zaB (n:=1000001) (by omega) (by decide))
  clear hevb hcl
  generalize (mo.take i).map (mvEv evs)=L at *
  generalize mo[i]=y at *
  obtain⟨yf,ye,yt,yg,us⟩:=y
  simp only at he hcg hul hcu
  have hy:mvEv evs ⟨yf,ye,yt,yg,us⟩=⟨yf,evs.getD ye.toNat 0,yt,yg,us⟩:=rfl
  rw[hy] at ht
  clear hy
  have ge:(evs.map fun x=>[vi x])[ye.toNat]? = some [vi (evs.getD ye.toNat 0)]:=by
   rw[List.getElem?_map,List.getD_eq_getElem?_getD,List.getElem?_eq_getElem (by omega)]
   rfl
  generalize evs.getD ye.toNat 0=ev' at *
  obtain⟨go,gv,gi,ga⟩:=yg
  refine zaf Tk Tryz.func55 (by exact⟨by omega,by show (i:Int)<(mo.length:Int);omega⟩) ?_
  refine zaq Tk Tryz.func55 (gs) ?_
  refine zaw Tk Tryz.func55 zaG rfl ?_
  refine zar Tk (by exact⟨he.1,by show ye<(evs.length:Int);exact he.2⟩) ?_
  refine zaF Tk (ge) ?_
  refine za2 Tk (fun _=>hcg _) rfl rfl rfl ?_
  refine zcY Tk rfl rfl rfl ?_
  refine zaH Tk Tryz.func55 (by kernel_rfl) ?_
  refine g_wk (zay 16 101 189 5 (pre:=[ii yf,ii ev',ii yt,ii go,ii gv,ii gi,exs ga]) (post:=[]) rfl rfl rfl) ?_
  refine zae ?_
  refine zaj (fun j:Nat=>[(4,.own 0 4 0 0),(8,.own 0 8 0 0),(9,ints evs),(16,.own 0 16 0 0),(66,mvs mo),(67,ii mo.length),(68,ii i),(86,upds us),(87,ii us.length),(88,ii j)])
   (fun j=>[(4,.box zoN),(8,.box [ints sal,ii lo,ii ini,ints mk,vrs vr,.osl 0 108]),(108,zdc L),(16,.box [ii yf,ii ev',ii yt,ii go,ii gv,ii gi,exs ga,.osl 0 101]),(101,zrp (us.take j))]) (fun _=>O) 115
   (fun j=>j≤us.length) (fun j=>us.length - j) 0 (Nat.zero_le _) ⟨rfl,rfl,rfl,rfl,rfl,rfl,rfl,rfl,rfl,rfl,trivial⟩ rfl ⟨rfl,rfl,rfl,rfl,rfl,trivial⟩ rfl rfl ?_
  intro j hj ih2
  have hj:j≤us.length:=hj
  refine zag Tk Tryz.func55 ?_
  refine zai Tk Tryz.func55 rfl (fun g2=>?_) (fun g2=>?_)
  ·have g2:j<us.length:=by simpa using g2
   have gu:(us.map updI)[(j:Int).toNat]? = some (updI us[j]):=zam (f:=updI) g2
   have htu:us.take (j+1)=us.take j++[us[j]]:=List.take_succ_eq_append_getElem g2
   have hlu:(us.take j).length=j:=by rw[List.length_take];omega
   have hcu1:=hcu us[j] (List.getElem_mem g2)
   generalize us.take j=U at *
   generalize us[j]=u at *
   obtain⟨uv,⟨uo,uvl,ui,ua⟩⟩:=u
   simp only at hcu1
   refine zaf Tk Tryz.func55 (by exact⟨by omega,by show (j:Int)<(us.length:Int);omega⟩) ?_
   refine zaq Tk Tryz.func55 (gu) ?_
   refine zaw Tk Tryz.func55 zaG rfl ?_
   refine za2 Tk (fun _=>hcu1 _) rfl rfl rfl ?_
   refine zfa Tk Tryz.func55 ([9,10,11]) (by kernel_rfl) (by kernel_rfl) ?_
   refine zaf Tk Tryz.func55 (by exact⟨by show (U.length+1) * 56≤140737488355328;omega,by show U.length+1≤9223372036854775807;omega⟩) ?_
   refine zae ?_
   refine ih2 (j+1) _ _ g2 (by omega) ⟨rfl,rfl,rfl,rfl,rfl,rfl,rfl,rfl,rfl,congrArg ii (zaB (n:=1000001) (by omega) (by decide)),trivial⟩ rfl ⟨rfl,rfl,rfl,rfl,?_,trivial⟩ rfl rfl
   rw[htu]
   show some (Ob.arr 189 5 (U.length+1) (U.map updI++[updI ⟨uv,⟨uo,uvl,ui,ua⟩⟩]) true)=some (zrp (U++[⟨uv,⟨uo,uvl,ui,ua⟩⟩]))
   simp[zrp]
  ·have g2:us.length≤j:=by simpa using g2
   rw[List.take_of_length_le g2]
   refine zax ?_
   refine zas (zap 101 rfl rfl) ?_
   refine zas (zaZ rfl) ?_
   refine zag Tk Tryz.func55 ?_
   refine g_go Tk Tryz.func55 ?_
   refine zaf Tk Tryz.func55 (by exact⟨by show (L.length+1) * 96≤140737488355328;omega,by show L.length+1≤9223372036854775807;omega⟩) ?_
   refine zae ?_
   refine ih (i+1) _ _ g1 (by omega) ⟨rfl,rfl,rfl,rfl,rfl,hj1,trivial⟩ rfl ⟨rfl,rfl,?_,trivial⟩ rfl rfl
   rw[ht]
   show some (Ob.arr 187 8 (L.length+1) (L.map mvI++[mvI ⟨yf,ev',yt,⟨go,gv,gi,ga⟩,us⟩]) true)=some (zdc (L++[⟨yf,ev',yt,⟨go,gv,gi,ga⟩,us⟩]))
   simp[zdc]
 ·have g1:mo.length≤i:=by simpa using g1
  rw[List.take_of_length_le g1]
  have hls:(mo.map (mvEv evs)).length≤19:=by rw[List.length_map];exact hmvl
  generalize mo.map (mvEv evs)=L at *
  have h135':=fun O d ho=>h135 O d 108 L hls ho
  refine zak Tk Tryz.func55 (h135' _ 0 rfl) rfl rfl rfl (zbc (ob:=zdc L) rfl (by simp[Ob.sh,zeQ])) rfl ?_
  refine za8 (zap 108 rfl rfl) ?_
  refine za8 (zaZ rfl) ?_
  refine zah Tk (r:=extD ⟨sal,lo,ini,mk,vr,zdu L⟩) rfl rfl rfl trivial rfl rfl ?_
  exact congrArg extD hR
theorem zxv {m:Mdl} (h:(chkT m).2=0):∀ t∈m.tpls,tplE t=0:=by
 unfold chkT at h
 by_cases h2:m.tpls.length>16
 ·rw[if_pos h2] at h;simp at h
 rw[if_neg h2] at h
 exact zd7 (zfG (fun _ _ h=>zbH h) h).1
theorem zvg {m:Mdl} (h:(chkI m).2=0):∀ c∈m.reqs,insE m c=0:=by
 unfold chkI at h
 by_cases h2:m.comps.length=0
 ·rw[if_pos h2] at h;simp at h
 rw[if_neg h2] at h
 by_cases h3:m.comps.length>8
 ·rw[if_pos h3] at h;simp at h
 rw[if_neg h3] at h
 by_cases h4:m.comps.length+m.reqs.length>12
 ·rw[if_pos h4] at h;simp at h
 rw[if_neg h4] at h
 obtain⟨_,h5⟩:=zfG (fun _ _ h=>zbH h) h
 rw[h5] at h
 have h6:=zd7 (zfG (fun _ _ h=>zbH h) h).1
 intro c hc
 have:=h6 c hc
 unfold reqE at this
 by_cases h7:insE m c≠0
 ·rw[if_pos h7] at this;exact absurd this h7
 ·exact Classical.byContradiction h7
theorem zsp:∀ {l b:List Evt} {i j:Nat} {e:Int},evsP b l i=some (j,e)→e≠0
 | [],_,_,_,_,h=>by simp[evsP] at h
 | x::r,b,i,j,e,h=>by
  simp only[evsP] at h
  by_cases h1:zlu (b++[x])≠0
  ·rw[if_pos h1] at h
   simp only[Option.some.injEq,Prod.mk.injEq] at h
   rw[← h.2];exact h1
  ·rw[if_neg h1] at h
   exact zsp h
theorem zdY {m:Mdl} (h:(mdlE m).2=0):zaT m.name=true∧evsP [] m.evs 0=none∧(chkT m).2=0∧(chkI m).2=0∧(chkC m).2=0∧mdlE m=((0,0),0):=by
 have e:=zrG m
 rw[e] at h ⊢
 by_cases h1:zaT m.name=false
 ·rw[if_pos h1] at h;simp at h
 rw[if_neg h1] at h ⊢
 obtain⟨h2,h3⟩:=zfG (fun _ _ h=>zsp h) h
 rw[h3] at h ⊢
 by_cases h4:(chkT m).2≠0
 ·rw[if_pos h4] at h;exact absurd h h4
 rw[if_neg h4] at h ⊢
 by_cases h5:(chkI m).2≠0
 ·rw[if_pos h5] at h;exact absurd h h5
 rw[if_neg h5] at h ⊢
 exact⟨by simpa using h1,h2,by simpa using h4,by simpa using h5,h,zsH h⟩
theorem zoX {t:Tpl} (h:tplE t=0):(t.locs.length:Int)=t.mach.locs∧nmsE [] t.locs=0∧nmsE [] t.evs=0∧t.mach.alpha=(List.range t.evs.length).map (fun k=>((k:Nat):Int))∧chk t.mach=0:=by
 unfold tplE at h
 by_cases h1:(t.locs.length:Int)≠t.mach.locs
 ·rw[if_pos h1] at h;cases h
 rw[if_neg h1] at h
 by_cases h2:nmsE [] t.locs≠0
 ·rw[if_pos h2] at h;exact absurd h h2
 rw[if_neg h2] at h
 by_cases h3:nmsE [] t.evs≠0
 ·rw[if_pos h3] at h;exact absurd h h3
 rw[if_neg h3] at h
 by_cases h4:t.mach.alpha.length≠t.evs.length
 ·rw[if_pos h4] at h;cases h
 rw[if_neg h4] at h
 by_cases h5:t.mach.alpha≠(List.range t.evs.length).map (fun k=>((k:Nat):Int))
 ·rw[if_pos h5] at h;cases h
 rw[if_neg h5] at h
 exact⟨by simpa using h1,by simpa using h2,by simpa using h3,by simpa using h5,h⟩
theorem zge {m:Mdl} (hmv:∀ t∈m.tpls,t.mach.moves.length≤19) (h:(mdlE m).2=0) {x:Ins} (hx:x∈m.comps∨x∈m.reqs):∃ t,mchOk m x t∧mchR m x=mchE m x t∧(t.locs.length:Int)=t.mach.locs∧nmsE [] t.locs=0∧zc4 m [] x.evs=0:=by
 obtain⟨_,_,h3,h4,_⟩:=zdY h
 have hi:insE m x=0:=by
  rcases hx with hx | hx
  ·exact zsG h4 x hx
  ·exact zvg h4 x hx
 obtain⟨t,t1,t2,t3,t4⟩:=zng hi
 obtain⟨u1,u2,u3,u4,u5⟩:=zoX (zxv h3 t t2)
 exact⟨t,⟨t1,t2,zhb u5,t3,u4,hmv t t2⟩,by unfold mchR;rw[t1],u1,u2,t4⟩
abbrev zIns:Ins:=⟨⟨#[]⟩,⟨#[]⟩,[]⟩
def zhq (m:Mdl) (p:Plc):Ins × Int:=match zc0 m p with
 | .ok x=>(x,0)
 | .error e=>(zIns,e)
theorem zsy {e:Int}:CoD (.tup [.agg [sD ⟨#[]⟩,sD ⟨#[]⟩,.i (.v (.slice none 0 0))],ii e]) (.tup [insD zIns,ii e]):=by
 repeat' (first | refine zbE ?_ | refine zby ?_ | refine zco ?_ | refine CoDL.cons ?_ ?_ | exact CoDL.nil | exact zbb | refine zcp ?_ | refine CoLL.cons ?_ ?_ | exact CoLL.nil | refine CoL.cons ?_ ?_ | exact CoL.nil | exact CoI.refl _ | exact CoL.refl _ | exact CoLL.refl _ | exact CoDL.refl _ | exact CoD.refl _)
theorem zhR (O:List Heap) (m:Mdl) (p:Plc) (hm:szOk m):zan Tryz.prog 61 [mdlD m,.agg [ii p.1,ii p.2]] O (.tup [insD (zhq m p).1,ii (zhq m p).2]) [] O:=by
 have hc:=hm.co
 have hq:=hm.rq
 obtain⟨a,b⟩:=p
 simp only
 generalize hR:zhq m (a,b)=R
 unfold zhq zc0 at hR
 simp only at hR
 obtain⟨nm,evs,tpls,comps,reqs,excs,cons⟩:=m
 simp only at hR hc hq
 refine zaa Tk Tryz.func61 rfl Tryz.call61 Tryz.ntmps61 (Nat.le_of_ble_eq_true rfl) fun E=>?_
 refine zag Tk Tryz.func61 ?_
 refine zai Tk Tryz.func61 rfl (fun c1=>?_) (fun c1=>?_)
 ·have c1:a=3:=beqT c1
  rw[if_pos c1] at hR
  refine zaC Tk Tryz.func61 rfl (fun c2=>?_) (fun c2=>?_)
  ·have c2:b<0:=of_decide_eq_true c2
   rw[if_pos c2] at hR
   simp only at hR
   subst hR
   refine gcT Tk Tryz.func61 rfl ?_
   refine zaz Tk (r:=.tup [.agg [sD ⟨#[]⟩,sD ⟨#[]⟩,.i (.v (.slice none 0 0))],ii 10]) rfl rfl rfl trivial rfl rfl ?_
   exact zsy
  have c2:¬ b<0:=of_decide_eq_false c2
  rw[if_neg c2] at hR
  refine zai Tk Tryz.func61 rfl (fun c3=>?_) (fun c3=>?_)
  ·have c3:b ≥ (comps.length:Int):=of_decide_eq_true c3
   rw[List.getElem?_eq_none (by omega)] at hR
   simp only at hR
   subst hR
   refine zaz Tk (r:=.tup [.agg [sD ⟨#[]⟩,sD ⟨#[]⟩,.i (.v (.slice none 0 0))],ii 10]) rfl rfl rfl trivial rfl rfl ?_
   exact zsy
  have c3:¬ b ≥ (comps.length:Int):=of_decide_eq_false c3
  have hb:b.toNat<comps.length:=by omega
  rw[List.getElem?_eq_getElem hb] at hR
  simp only at hR
  have gx:(comps.map insI)[b.toNat]? = some (insI comps[b.toNat]):=by simp[hb]
  generalize comps[b.toNat]=x at *
  subst hR
  refine zaf Tk Tryz.func61 (by exact⟨by omega,by show b<(comps.length:Int);omega⟩) ?_
  refine zaq Tk Tryz.func61 (gx) ?_
  refine zah Tk (r:=.tup [insD x,ii 0]) rfl rfl rfl trivial rfl rfl ?_
  rfl
 have c1:¬ a=3:=beqF c1
 rw[if_neg c1] at hR
 refine zai Tk Tryz.func61 rfl (fun c4=>?_) (fun c4=>?_)
 ·have c4:a=4:=beqT c4
  rw[if_pos c4] at hR
  refine zaC Tk Tryz.func61 rfl (fun c2=>?_) (fun c2=>?_)
  ·have c2:b<0:=of_decide_eq_true c2
   rw[if_pos c2] at hR
   simp only at hR
   subst hR
   refine gcT Tk Tryz.func61 rfl ?_
   refine zaz Tk (r:=.tup [.agg [sD ⟨#[]⟩,sD ⟨#[]⟩,.i (.v (.slice none 0 0))],ii 10]) rfl rfl rfl trivial rfl rfl ?_
   exact zsy
  have c2:¬ b<0:=of_decide_eq_false c2
  rw[if_neg c2] at hR
  refine zai Tk Tryz.func61 rfl (fun c3=>?_) (fun c3=>?_)
  ·have c3:b ≥ (reqs.length:Int):=of_decide_eq_true c3
   rw[List.getElem?_eq_none (by omega)] at hR
   simp only at hR
   subst hR
   refine zaz Tk (r:=.tup [.agg [sD ⟨#[]⟩,sD ⟨#[]⟩,.i (.v (.slice none 0 0))],ii 10]) rfl rfl rfl trivial rfl rfl ?_
   exact zsy
  have c3:¬ b ≥ (reqs.length:Int):=of_decide_eq_false c3
  have hb:b.toNat<reqs.length:=by omega
  rw[List.getElem?_eq_getElem hb] at hR
  simp only at hR
  have gx:(reqs.map insI)[b.toNat]? = some (insI reqs[b.toNat]):=by simp[hb]
  generalize reqs[b.toNat]=x at *
  subst hR
  refine zaf Tk Tryz.func61 (by exact⟨by omega,by show b<(reqs.length:Int);omega⟩) ?_
  refine zaq Tk Tryz.func61 (gx) ?_
  refine zah Tk (r:=.tup [insD x,ii 0]) rfl rfl rfl trivial rfl rfl ?_
  rfl
 have c4:¬ a=4:=beqF c4
 rw[if_neg c4] at hR
 simp only at hR
 subst hR
 refine zaz Tk (r:=.tup [.agg [sD ⟨#[]⟩,sD ⟨#[]⟩,.i (.v (.slice none 0 0))],ii 11]) rfl rfl rfl trivial rfl rfl ?_
 exact zsy
def mchA (m:Mdl) (p:Plc):Ext × Int:=if (mdlE m).2≠0 then (zExt,(mdlE m).2) else match zc0 m p with
 | .error e=>(zExt,e)
 | .ok x=>(mchR m x,0)
theorem zfj {m:Mdl} {p:Plc} {x:Ins} (h:zc0 m p = .ok x):x∈m.comps∨x∈m.reqs:=by
 unfold zc0 at h
 by_cases h1:p.1=3
 ·rw[if_pos h1] at h
  by_cases h2:p.2<0
  ·rw[if_pos h2] at h;cases h
  rw[if_neg h2] at h
  cases h3:m.comps[p.2.toNat]? with
  | none=>rw[h3] at h;cases h
  | some y=>rw[h3] at h;cases h;exact .inl (List.mem_of_getElem? h3)
 rw[if_neg h1] at h
 by_cases h1:p.1=4
 ·rw[if_pos h1] at h
  by_cases h2:p.2<0
  ·rw[if_pos h2] at h;cases h
  rw[if_neg h2] at h
  cases h3:m.reqs[p.2.toNat]? with
  | none=>rw[h3] at h;cases h
  | some y=>rw[h3] at h;cases h;exact .inr (List.mem_of_getElem? h3)
 rw[if_neg h1] at h;cases h
theorem zfk {m:Mdl} {p:Plc} {e:Int} (h:zc0 m p = .error e):e≠0:=by
 unfold zc0 at h
 by_cases h1:p.1=3
 ·rw[if_pos h1] at h
  by_cases h2:p.2<0
  ·rw[if_pos h2] at h;cases h;decide
  rw[if_neg h2] at h
  cases h3:m.comps[p.2.toNat]? with
  | none=>rw[h3] at h;cases h;decide
  | some y=>rw[h3] at h;cases h
 rw[if_neg h1] at h
 by_cases h1:p.1=4
 ·rw[if_pos h1] at h
  by_cases h2:p.2<0
  ·rw[if_pos h2] at h;cases h;decide
  rw[if_neg h2] at h
  cases h3:m.reqs[p.2.toNat]? with
  | none=>rw[h3] at h;cases h;decide
  | some y=>rw[h3] at h;cases h
 rw[if_neg h1] at h;cases h;decide
theorem zvL {e:Int}:CoD (.tup [.agg zoN,ii e]) (.tup [extD zExt,ii e]):=by
 repeat' (first | refine zbE ?_ | refine zby ?_ | refine zco ?_ | refine CoDL.cons ?_ ?_ | exact CoDL.nil | exact zbb | refine zcp ?_ | refine CoLL.cons ?_ ?_ | exact CoLL.nil | refine CoL.cons ?_ ?_ | exact CoL.nil | exact CoI.refl _ | exact CoL.refl _ | exact CoLL.refl _ | exact CoDL.refl _ | exact CoD.refl _)
theorem ziL {m:Mdl} (hm:mdlOk m) {x:Ins} (hx:x∈m.comps∨x∈m.reqs):x.evs.length≤1000000:=by
 rcases hx with h | h
 ·exact (hm.cok x h).el
 ·exact (hm.rqk x h).el
theorem ztC (O:List Heap) (m:Mdl) (p:Plc) (hm:mdlOk m) (hmv:∀ t∈m.tpls,t.mach.moves.length≤19):zan Tryz.prog 18 [mdlD m,.agg [ii p.1,ii p.2]] O (.tup [extD (mchA m p).1,ii (mchA m p).2]) [] O:=by
 have h14:=fun O=>ztF O m hm
 have h61:=fun O=>zhR O m p hm.toszOk
 have hv:=fun h x hx=>zge hmv h (x:=x) hx
 have h55:=fun x (hx:x∈m.comps∨x∈m.reqs) t ht O=>zjJ O m x t hm (ziL hm hx) ht
 generalize hR:mchA m p=R
 unfold mchA at hR
 generalize mdlE m=E0 at *
 obtain⟨⟨e1,e2⟩,e3⟩:=E0
 simp only at hv hR
 obtain⟨a,b⟩:=p
 simp only at h61 ⊢
 refine zaa Tk Tryz.func18 rfl Tryz.call18 Tryz.ntmps18 (Nat.le_of_ble_eq_true rfl) fun E=>?_
 refine zag Tk Tryz.func18 ?_
 refine zak Tk Tryz.func18 (h14 _) rfl rfl rfl rfl rfl ?_
 refine zai Tk Tryz.func18 rfl (fun c1=>?_) (fun c1=>?_)
 ·have c1:e3≠0:=bneT c1
  rw[if_pos c1] at hR
  subst hR
  refine zaz Tk (r:=.tup [.agg zoN,ii e3]) rfl rfl rfl trivial rfl rfl ?_
  exact zvL
 have c1:e3=0:=bneF c1
 rw[if_neg (fun h=>h c1)] at hR
 cases hp:zc0 m (a,b) with
 | error e=>
  have he:=zfk hp
  rw[hp] at hR
  simp only at hR
  subst hR
  rw[show zhq m (a,b)=(zIns,e) from by unfold zhq;rw[hp]] at h61
  refine zak Tk Tryz.func18 (h61 _) rfl rfl rfl rfl rfl ?_
  refine zai Tk Tryz.func18 rfl (fun _=>?_) (fun h=>absurd h (by simpa using he))
  refine zaz Tk (r:=.tup [.agg zoN,ii e]) rfl rfl rfl trivial rfl rfl ?_
  exact zvL
 | ok x=>
  have hx:=zfj hp
  rw[hp] at hR
  simp only at hR
  subst hR
  rw[show zhq m (a,b)=(x,0) from by unfold zhq;rw[hp]] at h61
  obtain⟨t,ht,he,_⟩:=hv c1 x hx
  have h:=h55 x hx t ht
  rw[← he] at h
  generalize mchR m x=X at *
  refine zak Tk Tryz.func18 (h61 _) rfl rfl rfl rfl rfl ?_
  refine gcF Tk Tryz.func18 rfl ?_
  refine zak Tk Tryz.func18 (h _) rfl rfl rfl rfl rfl ?_
  refine zah Tk (r:=.tup [extD X,ii 0]) rfl rfl rfl trivial rfl rfl ?_
  rfl
theorem zrX (O:List Heap) (l:List ByteArray) (s:ByteArray) (hl:l.length≤1000000):zan Tryz.prog 39 [ssD l,sD s] O (ii (nmIx l s)) [] O:=by
 unfold nmIx
 generalize hR:zat (fun x=>sB x s) l 0=R
 refine zaa Tk Tryz.func39 rfl Tryz.call39 Tryz.ntmps39 (Nat.le_of_ble_eq_true rfl) fun E=>?_
 refine zag Tk Tryz.func39 ?_
 refine zae ?_
 refine zaj (fun i:Nat=>[(0,ssD l),(1,sD s),(5,ii i)]) (fun _=>[]) (fun _=>O) 19
  (fun i=>i≤l.length∧zat (fun x=>sB x s) (l.drop i) i=R) (fun i=>l.length - i) 0 ⟨Nat.zero_le _,hR⟩ ⟨rfl,rfl,rfl,trivial⟩ rfl trivial rfl rfl ?_
 rintro i ⟨hi,hno⟩ ih
 clear hR
 refine zag Tk Tryz.func39 ?_
 refine zai Tk Tryz.func39 rfl (fun g1=>?_) (fun g1=>?_)
 ·have h1:i<l.length:=by simpa using g1
  have gs:(l.map fun s=>[strI s])[(i:Int).toNat]? = some [strI l[i]]:=zam (f:=fun s=>[strI s]) h1
  have hd:l.drop i=l[i]::l.drop (i+1):=List.drop_eq_getElem_cons h1
  rw[hd] at hno
  simp only[zat] at hno
  clear hd
  generalize l[i]=x at *
  refine zaf Tk Tryz.func39 (by exact⟨by omega,by show (i:Int)<(l.length:Int);omega⟩) ?_
  refine zaq Tk Tryz.func39 (gs) ?_
  refine zai Tk Tryz.func39 rfl (fun g2=>?_) (fun g2=>?_)
  ·have g2:(x.toList==s.toList)=true:=g2
   rw[za7] at g2
   rw[if_pos g2] at hno
   subst hno
   refine zah Tk (r:=ii (i:Int)) rfl rfl rfl trivial rfl rfl ?_
   rfl
  ·have g2:(x.toList==s.toList)=false:=g2
   rw[za7] at g2
   rw[if_neg (by rw[g2];decide)] at hno
   refine zae ?_
   exact ih (i+1) _ _ ⟨h1,hno⟩ (by omega) ⟨rfl,rfl,congrArg ii (zaB (n:=1000001) (by omega) (by decide)),trivial⟩ rfl trivial rfl rfl
 ·have h1:l.length≤i:=by simpa using g1
  rw[List.drop_eq_nil_of_le h1] at hno
  have hno:(-1:Int)=R:=hno
  subst hno
  refine zah Tk (r:=ii (-1)) rfl rfl rfl trivial rfl rfl ?_
  rfl
abbrev mdlO (m:Mdl) (d nm:Nat):List D:=[.i (strI m.name),.i (za3 m.evs),.i (zcg m.tpls),.i (zaV m.comps),.i (zaV m.reqs),.osl d nm,.i (.v (.slice none 0 0))]
theorem zpt (O:List Heap) (m:Mdl) (d nm:Nat) (hl:m.tpls.length≤1000000):zan Tryz.prog 40 [.agg (mdlO m d nm),ii 2] O (ssD (m.tpls.map (·.name))) [] O:=by
 refine zaa Tk Tryz.func40 rfl Tryz.call40 Tryz.ntmps40 (Nat.le_of_ble_eq_true rfl) fun E=>?_
 refine zag Tk Tryz.func40 ?_
 repeat (first | refine gcT Tk Tryz.func40 rfl ?_ | refine gkT Tk Tryz.func40 rfl ?_ | refine skT Tk ?_ | refine gcF Tk Tryz.func40 rfl ?_ | refine gkF Tk Tryz.func40 rfl ?_ | refine skF Tk ?_)
 refine g_wk (zb2 5 47 9 1 rfl rfl rfl) ?_
 refine zae ?_
 refine zaj (fun i:Nat=>[(5,.osl 0 47),(37,.i (zcg m.tpls)),(38,ii m.tpls.length),(39,ii i)]) (fun i=>[(47,oss ((m.tpls.take i).map (·.name)))]) (fun _=>O) 110
  (fun i=>i≤m.tpls.length) (fun i=>m.tpls.length - i) 0 (Nat.zero_le _) ⟨rfl,rfl,rfl,rfl,trivial⟩ rfl ⟨rfl,trivial⟩ rfl rfl ?_
 intro i hi ih
 have hi:i≤m.tpls.length:=hi
 refine zag Tk Tryz.func40 ?_
 refine zai Tk Tryz.func40 rfl (fun g1=>?_) (fun g1=>?_)
 ·have g1:i<m.tpls.length:=by simpa using g1
  have gs:(m.tpls.map tplI)[(i:Int).toNat]? = some (tplI m.tpls[i]):=zam (f:=tplI) g1
  have ht:=zaM Tpl.name g1
  have hll:((m.tpls.take i).map (·.name)).length≤1000000:=by rw[List.length_map,List.length_take];omega
  generalize (m.tpls.take i).map (·.name)=L at *
  generalize m.tpls[i]=x at *
  refine zaf Tk Tryz.func40 (by exact⟨by omega,by show (i:Int)<(m.tpls.length:Int);omega⟩) ?_
  refine zaq Tk Tryz.func40 (gs) ?_
  refine zaf Tk Tryz.func40 (by exact⟨by show (L.length+1) * 16≤140737488355328;omega,by show L.length+1≤9223372036854775807;omega⟩) ?_
  refine zae ?_
  refine ih (i+1) _ _ g1 (by omega) ⟨rfl,rfl,rfl,congrArg ii (zaB (n:=1000001) (by omega) (by decide)),trivial⟩ rfl ⟨?_,trivial⟩ rfl rfl
  rw[ht]
  exact congrArg some (zbG L x.name)
 ·have g1:m.tpls.length≤i:=by simpa using g1
  rw[List.take_of_length_le g1]
  refine za8 (zap 47 rfl rfl) ?_
  refine zah Tk (r:=ssD (m.tpls.map (·.name))) rfl rfl rfl trivial rfl rfl ?_
  rfl
theorem zeN (O:List Heap) (m:Mdl) (d nm:Nat) (x:Ins) (t:Tpl) (hm:m.tpls.length≤1000000) (h:zbS m x=some t):zan Tryz.prog 35 [.agg (mdlO m d nm),insD x] O (tplD t) [] O:=by
 have h1:=fun O=>zpt O m (d+1) nm hm
 have h2:=fun O=>zrX O (m.tpls.map (·.name)) x.tpl (by rw[List.length_map];exact hm)
 unfold zbS at h
 rcases zfK Tpl.name m.tpls x.tpl with ⟨f1,_⟩ | ⟨k,t',f1,f2,f3⟩
 ·rw[f1] at h;cases h
 rw[f2] at h
 cases h
 rw[f3] at h2
 have hk:k<m.tpls.length:=(List.getElem?_eq_some_iff.1 f1).1
 have gt:(m.tpls.map tplI)[(k:Int).toNat]? = some (tplI t):=by rw[Int.toNat_natCast,List.getElem?_map,f1];rfl
 obtain⟨xn,xt,xe⟩:=x
 simp only at h2
 refine zaa Tk Tryz.func35 rfl Tryz.call35 Tryz.ntmps35 (Nat.le_of_ble_eq_true rfl) fun E=>?_
 refine zag Tk Tryz.func35 ?_
 refine zaw Tk Tryz.func35 zaG rfl ?_
 refine za2 Tk (fun _=>h1 _) rfl rfl rfl ?_
 refine za2 Tk (fun _=>h2 _) rfl rfl rfl ?_
 refine zar Tk (by exact⟨by omega,by show (k:Int)<(m.tpls.length:Int);omega⟩) ?_
 refine zaF Tk (gt) ?_
 refine zcY Tk rfl rfl rfl ?_
 refine zaH Tk Tryz.func35 (by kernel_rfl) ?_
 refine zah Tk (r:=tplD t) rfl rfl rfl trivial rfl rfl ?_
 rfl
theorem zu5 (O:List Heap) (l:List Ins) (evs:List ByteArray) (hl:l.length≤1000000) (he:evs.length≤1000000) (hx:∀ x∈l,x.evs.length≤1000000):zan Tryz.prog 44 [.i (zaV l),ssD evs] O (bb (covB l evs)) [] O:=by
 unfold covB
 generalize hR:(evs.all fun s=>l.any fun x=>decide (nmIx x.evs s ≥ 0))=R
 refine zaa Tk Tryz.func44 rfl Tryz.call44 Tryz.ntmps44 (Nat.le_of_ble_eq_true rfl) fun E=>?_
 refine zag Tk Tryz.func44 ?_
 refine zae ?_
 refine zaj (fun i:Nat=>[(0,.i (zaV l)),(9,ssD evs),(10,ii evs.length),(11,ii i)]) (fun _=>[]) (fun _=>O) 35
  (fun i=>i≤evs.length∧((evs.drop i).all fun s=>l.any fun x=>decide (nmIx x.evs s ≥ 0))=R) (fun i=>evs.length - i) 0 ⟨Nat.zero_le _,hR⟩ ⟨rfl,rfl,rfl,rfl,trivial⟩ rfl trivial rfl rfl ?_
 rintro i ⟨hi,hno⟩ ih
 clear hR
 refine zag Tk Tryz.func44 ?_
 refine zai Tk Tryz.func44 rfl (fun g1=>?_) (fun g1=>?_)
 ·have g1:i<evs.length:=by simpa using g1
  have gs:(evs.map fun s=>[strI s])[(i:Int).toNat]? = some [strI evs[i]]:=zam (f:=fun s=>[strI s]) g1
  have hd:evs.drop i=evs[i]::evs.drop (i+1):=List.drop_eq_getElem_cons g1
  have hi1:ii (IntKind.i64.wrap ((i:Int)+1))=ii ((i+1:Nat):Int):=congrArg ii (zaB (n:=1000001) (by omega) (by decide))
  rw[hd,List.all_cons] at hno
  clear hd
  generalize evs[i]=s at *
  refine zaf Tk Tryz.func44 (by exact⟨by omega,by show (i:Int)<(evs.length:Int);omega⟩) ?_
  refine zaq Tk Tryz.func44 (gs) ?_
  refine zae ?_
  refine zaj (fun j:Nat=>[(0,.i (zaV l)),(6,sD s),(7,bb ((l.take j).any fun x=>decide (nmIx x.evs s ≥ 0))),(8,ii j),(9,ssD evs),(10,ii evs.length),(11,ii i)]) (fun _=>[]) (fun _=>O) 35
   (fun j=>j≤l.length) (fun j=>l.length - j) 0 (Nat.zero_le _) ⟨rfl,rfl,rfl,rfl,rfl,rfl,rfl,trivial⟩ rfl trivial rfl rfl ?_
  intro j hj ih2
  have hj:j≤l.length:=hj
  refine zag Tk Tryz.func44 ?_
  refine zai Tk Tryz.func44 rfl (fun g2=>?_) (fun g2=>?_)
  ·have g2:j<l.length:=by simpa using g2
   have gx:(l.map insI)[(j:Int).toNat]? = some (insI l[j]):=zam (f:=insI) g2
   have hidx:=fun O=>zrX O l[j].evs s (hx l[j] (List.getElem_mem g2))
   have hs:((l.take (j+1)).any fun x=>decide (nmIx x.evs s ≥ 0))=(((l.take j).any fun x=>decide (nmIx x.evs s ≥ 0)) || decide (nmIx l[j].evs s ≥ 0)):=by
    rw[List.take_succ_eq_append_getElem g2,List.any_append]
    simp
   have hj1:ii (IntKind.i64.wrap ((j:Int)+1))=ii ((j+1:Nat):Int):=congrArg ii (zaB (n:=1000001) (by omega) (by decide))
   generalize ((l.take j).any fun x=>decide (nmIx x.evs s ≥ 0))=B at *
   generalize l[j]=x at *
   obtain⟨xn,xt,xe⟩:=x
   simp only at hidx hs
   generalize nmIx xe s=q at *
   refine zaC Tk Tryz.func44 rfl (fun g3=>?_) (fun g3=>?_)
   ·have g3:B=true:=g3
    subst g3
    refine zae ?_
    refine ih2 (j+1) _ _ g2 (by omega) ⟨rfl,rfl,?_,hj1,rfl,rfl,rfl,trivial⟩ rfl trivial rfl rfl
    rw[hs];rfl
   ·have g3:B=false:=g3
    subst g3
    refine zaf Tk Tryz.func44 (by exact⟨by omega,by show (j:Int)<(l.length:Int);omega⟩) ?_
    refine zaq Tk Tryz.func44 (gx) ?_
    refine zak Tk Tryz.func44 (hidx _) rfl rfl rfl rfl rfl ?_
    refine zae ?_
    refine ih2 (j+1) _ _ g2 (by omega) ⟨rfl,rfl,?_,hj1,rfl,rfl,rfl,trivial⟩ rfl trivial rfl rfl
    rw[hs];rfl
  ·have g2:l.length≤j:=by simpa using g2
   rw[List.take_of_length_le g2]
   generalize (l.any fun x=>decide (nmIx x.evs s ≥ 0))=B at *
   refine zai Tk Tryz.func44 rfl (fun g3=>?_) (fun g3=>?_)
   ·have g3:(!B)=true:=g3
    have g3:B=false:=by simpa using g3
    subst g3
    have hno:false=R:=hno
    subst hno
    refine zah Tk (r:=bb false) rfl rfl rfl trivial rfl rfl ?_
    rfl
   ·have g3:(!B)=false:=g3
    have g3:B=true:=by simpa using g3
    subst g3
    rw[Bool.true_and] at hno
    refine zae ?_
    exact ih (i+1) _ _ ⟨g1,hno⟩ (by omega) ⟨rfl,rfl,rfl,hi1,trivial⟩ rfl trivial rfl rfl
 ·have g1:evs.length≤i:=by simpa using g1
  rw[List.drop_eq_nil_of_le g1] at hno
  have hno:true=R:=hno
  subst hno
  refine zah Tk (r:=bb true) rfl rfl rfl trivial rfl rfl ?_
  rfl
theorem zyb (n:Nat) (hn:n≤12):∃ q:Int,∀ O,zan Tryz.prog 191 [.i (.v (.int .u64 n))] O (ii q) [] O:=by
 have hw:IntKind.u8.wrap (n:Int)=(n:Int):=by
  have:IntKind.u8.wrap (n:Int)=(n:Int) % 256:=rfl
  rw[this];omega
 refine⟨?q,fun O=>?h⟩
 case h=>
  refine zaa Tk Tryz.func191 rfl Tryz.call191 Tryz.ntmps191 (Nat.le_of_ble_eq_true rfl) fun E=>?_
  refine zag Tk Tryz.func191 ?_
  refine zai Tk Tryz.func191 rfl (fun h=>absurd h (by simp;omega)) (fun _=>?_)
  refine zai Tk Tryz.func191 rfl (fun h=>absurd h (by simp;omega)) (fun _=>?_)
  refine zai Tk Tryz.func191 rfl (fun h=>absurd h (by simp;omega)) (fun _=>?_)
  refine zaf Tk Tryz.func191 (by rw[hw];exact⟨by omega,by show (n:Int)<256;omega⟩) ?_
  refine zah Tk (r:=ii _) rfl rfl rfl trivial rfl rfl ?_
  rfl
theorem zh8 (n:Nat) (hn:n≤12):∃ q:Int,∀ O,zan Tryz.prog 141 [.i (.v (.int .u64 (IntKind.u64.wrap n)))] O (ii q) [] O:=by
 have w:IntKind.u64.wrap (n:Int)=(n:Int):=by
  have:IntKind.u64.wrap (n:Int)=(n:Int) % 18446744073709551616:=rfl
  rw[this]
  omega
 rw[w]
 obtain⟨q,h⟩:=zyb n hn
 refine⟨q,fun O=>?_⟩
 refine zaa Tk Tryz.func141 rfl Tryz.call141 Tryz.ntmps141 (Nat.le_of_ble_eq_true rfl) fun E=>?_
 refine zag Tk Tryz.func141 ?_
 refine gcF Tk Tryz.func141 rfl ?_
 refine zak Tk Tryz.func141 (h _) rfl rfl rfl rfl rfl ?_
 refine zah Tk (r:=ii q) rfl rfl rfl trivial rfl rfl ?_
 rfl
abbrev chcI (x:Chc):List I:=[vi x.1,zdo x.2]
abbrev olCh (l:List Chc):Ob:=.arr 304 2 l.length (l.map chcI) true
def zsB (x y:Chc):Int:=cmpI x.1 y.1
abbrev ltCh (x y:Chc):Prop:=x.1<y.1
theorem zvb {x y:Chc}:zsB x y<0 ↔ ltCh x y:=by
 unfold zsB cmpI ltCh
 by_cases h1:x.1<y.1
 ·rw[if_pos h1];exact⟨fun _=>h1,fun _=>by decide⟩
 rw[if_neg h1]
 by_cases h2:x.1>y.1
 ·rw[if_pos h2];exact⟨fun h=>absurd h (by decide),fun h=>absurd h h1⟩
 ·rw[if_neg h2];exact⟨fun h=>absurd h (by decide),fun h=>absurd h h1⟩
abbrev zxE (l:List Chc):Prop:=l.Pairwise fun x y=>¬ ltCh y x
theorem zez {x:Chc}:∀ {P S:List Chc},(∀ p∈P,¬ ltCh x p)→(∀ s∈S,ltCh x s)→zeA x (P++S)=P++x::S
 | [],[],_,_=>rfl
 | [],s::r,_,h=>by
  have:=h s (by simp)
  simp only[List.nil_append,zeA]
  rw[if_pos this]
 | p::P,S,h,h2=>by
  have:=h p (by simp)
  simp only[List.cons_append,zeA]
  rw[if_neg this,zez (fun q hq=>h q (by simp[hq])) h2]
theorem zjm {x:Chc} {P S:List Chc} (h:zxE (P++S)) (hp:∀ p∈P,¬ ltCh x p) (hs:∀ s∈S,ltCh x s):zxE (P++x::S):=by
 obtain⟨h1,h2,h3⟩:=List.pairwise_append.1 h
 refine List.pairwise_append.2 ⟨h1,List.pairwise_cons.2 ⟨fun s hs'=>?_,h2⟩,fun a ha b hb=>?_⟩
 ·have:=hs s hs'
  unfold ltCh at *
  omega
 ·rcases List.mem_cons.1 hb with rfl | hb
  ·exact hp a ha
  ·exact h3 a ha b hb
theorem zvs:∀ (P:List Chc) (p x:Chc) (T:List Chc),(((P++p::x::T).map chcI).set (P.length+1) (chcI p)).set P.length (chcI x)=(P++x::p::T).map chcI
 | [],p,x,T=>rfl
 | q::P,p,x,T=>by
  have:=zvs P p x T
  simp only[List.cons_append,List.map_cons,List.length_cons,List.set_cons_succ,this]
theorem zxP (P:List Chc):P=[]∨∃ Q p,P=Q++[p]:=by
 by_cases h:P=[]
 ·exact .inl h
 ·exact .inr ⟨P.dropLast,P.getLast h,(List.dropLast_concat_getLast h).symm⟩
theorem zo2 (A:List Chc) (x:Chc):zdv (A++[x])=zeA x (zdv A):=by simp[zdv,List.foldl_append]
theorem zw5 (O:List Heap) (x y:Chc):zan Tryz.prog 179 [.agg [ii x.1,ints x.2],.agg [ii y.1,ints y.2]] O (ii (zsB x y)) [] O:=by
 have h1:=fun O=>znz O x.1 y.1
 unfold zsB
 generalize cmpI x.1 y.1=a at *
 refine zaa Tk Tryz.func179 rfl Tryz.call179 Tryz.ntmps179 (Nat.le_of_ble_eq_true rfl) fun E=>?_
 refine zag Tk Tryz.func179 ?_
 refine zak Tk Tryz.func179 (h1 _) rfl rfl rfl rfl rfl ?_
 refine zah Tk (r:=ii a) rfl rfl rfl trivial rfl rfl ?_
 rfl
abbrev zr6:D:=.fn (.func 179) [] []
theorem zyl {A:List Chc} {x:Chc} {T:List Chc} {k:Nat} (hk:k=A.length):((A++x::T).map chcI)[((k:Nat):Int).toNat]? = some (chcI x):=by
 subst hk
 simp
set_option maxHeartbeats 8000000 in
theorem zyg (O:List Heap) (d nm:Nat) (l:List Chc) (hl:l.length≤1000) (ho:zab O d nm=some (olCh l)):zan Tryz.prog 262 [.osl d nm,ii 0,ii l.length,zr6] O (.tup []) [] (setAt O d nm (olCh (zdv l))):=by
 have hc:=fun O x y=>zw5 O x y
 cases l with
 | nil=>
  refine zaa Tk Tryz.func262 rfl Tryz.call262 Tryz.ntmps262 (Nat.le_of_ble_eq_true rfl) fun E=>?_
  refine zag Tk Tryz.func262 ?_
  refine zae ?_
  refine zag Tk Tryz.func262 ?_
  refine gcF Tk Tryz.func262 rfl ?_
  refine za8 (wk_S (S':=_::setAt O d nm (olCh [])) (zaE (zbj ho))) ?_
  refine zah Tk (r:=.tup []) rfl rfl rfl trivial rfl rfl ?_
  rfl
 | cons z r=>
 generalize hL:z::r=l at *
 have hpos:1≤l.length:=by rw[← hL];simp
 refine zaa Tk Tryz.func262 rfl Tryz.call262 Tryz.ntmps262 (Nat.le_of_ble_eq_true rfl) fun E=>?_
 refine zag Tk Tryz.func262 ?_
 refine g_wk (wk_S (S':=_::setAt O d nm (olCh ([z]++r))) (zaE (zbj (by rw[ho,← hL];rfl)))) ?_
 refine zae ?_
 refine zaj (fun x:List Chc × List Chc=>[(0,.osl (d+1) nm),(1,ii 0),(2,ii l.length),(3,zr6),(8,ii x.1.length)]) (fun _=>[]) (fun x=>setAt O d nm (olCh (x.1++x.2))) 53
  (fun x=>zxE x.1∧(∃ T,T++x.2=l∧zdv T=x.1)∧x.1.length+x.2.length=l.length) (fun x=>x.2.length) ([z],r) ⟨List.pairwise_singleton _ _,⟨[z],hL,rfl⟩,by rw[← hL];simp;omega⟩ ⟨rfl,rfl,rfl,rfl,rfl,trivial⟩ rfl trivial rfl rfl ?_
 rintro ⟨A,R⟩ ⟨hA,hp,hlen⟩ ih
 simp only at hA hp hlen
 refine zag Tk Tryz.func262 ?_
 refine zai Tk Tryz.func262 rfl (fun g1=>?_) (fun g1=>?_)
 ·have g1:A.length<l.length:=by simpa using g1
  obtain⟨x,R',rfl⟩:∃ x R',R=x::R':=by
   cases R with
   | nil=>simp at hlen;omega
   | cons x R'=>exact⟨x,R',rfl⟩
  obtain⟨T,hT,hTA⟩:=hp
  have hTn:(T++[x])++R' = l:=by rw[← hT];simp
  have hTs:zdv (T++[x])=zeA x A:=by rw[zo2,hTA]
  rw[List.length_cons] at hlen
  refine zae ?_
  refine zaj (fun y:List Chc × List Chc=>[(0,.osl (d+1) nm),(1,ii 0),(2,ii l.length),(3,zr6),(8,ii A.length),(9,ii y.1.length)]) (fun _=>[]) (fun y=>setAt O d nm (olCh (y.1++x::(y.2++R')))) 53
   (fun y=>(∀ s∈y.2,ltCh x s)∧y.1++y.2=A) (fun y=>y.1.length) (A,[]) ⟨by simp,by simp⟩ ⟨rfl,rfl,rfl,rfl,rfl,rfl,trivial⟩ rfl trivial rfl rfl ?_
  rintro ⟨P,S⟩ ⟨hS,hA2⟩ ih2
  simp only at hS hA2
  rcases zxP P with rfl | ⟨Q,p,rfl⟩
  ·rw[List.nil_append] at hA2
   subst hA2
   have hi1:ii (IntKind.i64.wrap ((S.length:Int)+1))=ii ((x::S:List Chc).length:Int):=congrArg ii (zaB (n:=1000001) (by omega) (by decide))
   refine zag Tk Tryz.func262 ?_
   refine zaw Tk Tryz.func262 zaG rfl ?_
   refine zbT Tk (fun h=>absurd h (by simp)) (fun _=>?_)
   refine zaH Tk Tryz.func262 (by kernel_rfl) ?_
   refine zai Tk Tryz.func262 rfl (fun h=>absurd h (by simp)) (fun _=>?_)
   refine zae ?_
   have e1:zeA x S=x::S:=zez (P:=[]) (by simp) hS
   refine ih (x::S,R') _ _ ⟨zjm (P:=[]) hA (by simp) hS,⟨T++[x],hTn,hTs.trans e1⟩,by simp only[List.length_cons];omega⟩ (by simp) ⟨rfl,rfl,rfl,rfl,hi1,trivial⟩ rfl trivial rfl rfl
  ·have e1:(Q++[p])++x::(S++R')=Q++p::x::(S++R'):=by simp
   have e2:((Q++[p]).length:Int)=((Q.length+1:Nat):Int):=by simp
   have hQA:Q.length+1+S.length=A.length:=by rw[← hA2];simp;omega
   have w1:IntKind.i64.wrap (((Q.length+1:Nat):Int) - 1)=(Q.length:Int):=by rw[w64 (by omega) (by omega)];omega
   have gx:((Q++p::x::(S++R')).map chcI)[(((Q.length+1:Nat):Int)).toNat]? = some (chcI x):=by
    have:=zyl (A:=Q++[p]) (x:=x) (T:=S++R') (k:=Q.length+1) (by simp)
    rwa [e1] at this
   have gp:((Q++p::x::(S++R')).map chcI)[(IntKind.i64.wrap (((Q.length+1:Nat):Int) - 1)).toNat]? = some (chcI p):=by rw[w1];exact zyl rfl
   have hlt:=zvb (x:=x) (y:=p)
   have hcc:=fun O=>hc O x p
   rw[e2,e1]
   have hll:(Q++p::x::(S++R')).length=l.length:=by simp;omega
   generalize zsB x p=cw at *
   refine zag Tk Tryz.func262 ?_
   refine zaw Tk Tryz.func262 zaG rfl ?_
   refine zbT Tk (fun _=>?_) (fun h=>absurd h (by simp))
   refine zb5 Tk (zav (H:=([]:Heap)) (zad ho)) ?_
   refine zar Tk (by exact⟨by omega,by show ((Q.length+1:Nat):Int)<((Q++p::x::(S++R')).length:Int);rw[hll];omega⟩) ?_
   refine zb5 Tk (zav (H:=([]:Heap)) (zad ho)) ?_
   refine zaF Tk (gx) ?_
   refine zb5 Tk (zav (H:=([]:Heap)) (zad ho)) ?_
   refine zar Tk (by exact⟨by show (0:Int)≤IntKind.i64.wrap (((Q.length+1:Nat):Int) - 1);rw[w1];omega,by show IntKind.i64.wrap (((Q.length+1:Nat):Int) - 1)<((Q++p::x::(S++R')).length:Int);rw[w1,hll];omega⟩) ?_
   refine zb5 Tk (zav (H:=([]:Heap)) (zad ho)) ?_
   refine zaF Tk (gp) ?_
   refine za2 Tk (fun _=>hcc _) rfl rfl rfl ?_
   refine zaH Tk Tryz.func262 (by kernel_rfl) ?_
   refine zai Tk Tryz.func262 rfl (fun c1=>?_) (fun c1=>?_)
   ·have c1:cw<0:=of_decide_eq_true c1
    have hrk:=hlt.1 c1
    have e3:Ob.arr 304 2 (Q++p::x::(S++R')).length ((((Q++p::x::(S++R')).map chcI).set (((Q.length+1:Nat):Int)).toNat (chcI p)).set (IntKind.i64.wrap (((Q.length+1:Nat):Int) - 1)).toNat (chcI x)) true=olCh (Q++x::(p::S++R')):=by
     rw[w1]
     show Ob.arr 304 2 _ ((((Q++p::x::(S++R')).map chcI).set (Q.length+1) (chcI p)).set Q.length (chcI x)) true=_
     rw[zvs]
     simp[olCh]
    refine ziQ Tk 15 rfl ?_
    refine zb5 Tk (zav (H:=([]:Heap)) (zad ho)) ?_
    refine zar Tk (by exact⟨by show (0:Int)≤IntKind.i64.wrap (((Q.length+1:Nat):Int) - 1);rw[w1];omega,by show IntKind.i64.wrap (((Q.length+1:Nat):Int) - 1)<((Q++p::x::(S++R')).length:Int);rw[w1,hll];omega⟩) ?_
    refine zb5 Tk (zav (H:=([]:Heap)) (zad ho)) ?_
    refine zaF Tk (gp) ?_
    refine zb5 Tk (zav (H:=([]:Heap)) (zad ho)) ?_
    refine zar Tk (by exact⟨by omega,by show ((Q.length+1:Nat):Int)<((Q++p::x::(S++R')).length:Int);rw[hll];omega⟩) ?_
    refine zb5 Tk (zav (H:=([]:Heap)) (zad ho)) ?_
    refine zaF Tk (gx) ?_
    refine zb5 Tk (zav (H:=([]:Heap)) (zad ho)) ?_
    refine zar Tk (by exact⟨by omega,by show ((Q.length+1:Nat):Int)<((Q++p::x::(S++R')).length:Int);rw[hll];omega⟩) ?_
    refine zxn Tk Tryz.func262 zaG (N:=15) [16,17] [2,3,4] (by kernel_rfl) rfl rfl rfl rfl rfl rfl rfl rfl rfl rfl (zad ho) (by kernel_rfl) (by kernel_rfl) ?_ (by kernel_rfl) ?_
    ·intro i hi
     simp only[List.mem_cons,List.not_mem_nil,or_false] at hi
     rcases hi with rfl | rfl | rfl
     ·exact⟨_,_,_,rfl,rfl,rfl,rfl,rfl,rfl,rfl⟩
     ·exact⟨_,_,_,rfl,rfl,rfl,rfl,rfl,rfl,rfl⟩
     ·exact⟨_,_,_,rfl,rfl,rfl,rfl,rfl,rfl,rfl⟩
    refine zbz Tk Tryz.func262 (zav (H:=([]:Heap)) (zad (zad ho))) ?_
    refine zaf Tk Tryz.func262 (by exact⟨by show (0:Int)≤IntKind.i64.wrap (((Q.length+1:Nat):Int) - 1);rw[w1];omega,by show IntKind.i64.wrap (((Q.length+1:Nat):Int) - 1)<((Q++p::x::(S++R')).length:Int);rw[w1,hll];omega⟩) ?_
    refine zbz Tk Tryz.func262 (zav (H:=([]:Heap)) (zad (zad ho))) ?_
    refine g_wk (wk_S (S':=_::setAt O d nm (olCh (Q++x::(p::S++R')))) (zaE fun d' n'=>by rw[← e3];exact (zbC d' n').trans (zbC d' n'))) ?_
    refine zae ?_
    refine ih2 (Q,p::S) _ _ ⟨fun s hs=>?_,by simpa using hA2⟩ (by simp) ⟨rfl,rfl,rfl,rfl,rfl,congrArg ii w1,trivial⟩ rfl trivial rfl rfl
    rcases List.mem_cons.1 hs with rfl | hs
    ·exact hrk
    ·exact hS s hs
   ·have c1:¬ cw<0:=of_decide_eq_false c1
    have hrk:¬ ltCh x p:=fun h=>c1 (hlt.2 h)
    have hall:∀ q∈Q++[p],¬ ltCh x q:=by
     rw[← hA2] at hA
     have h1:=(List.pairwise_append.1 hA).1
     intro q hq
     rcases List.mem_append.1 hq with hq | hq
     ·have:=(List.pairwise_append.1 h1).2.2 q hq p (by simp)
      unfold ltCh at *
      omega
     ·rw[List.mem_singleton] at hq;subst hq;exact hrk
    have e4:zeA x A=(Q++[p])++x::S:=by rw[← hA2];exact zez hall hS
    have hi1:ii (IntKind.i64.wrap ((A.length:Int)+1))=ii (((Q++[p])++x::S:List Chc).length:Int):=by
     rw[zaB (n:=1000001) (by omega) (by decide),← hA2]
     simp
     omega
    refine zae ?_
    refine ih ((Q++[p])++x::S,R') _ _ ⟨zjm (by rw[hA2];exact hA) hall hS,⟨T++[x],hTn,hTs.trans e4⟩,by simp;omega⟩ (by simp) ⟨rfl,rfl,rfl,rfl,hi1,trivial⟩ (congrArg (fun L=>_::setAt O d nm (olCh L)) (by simp:Q++p::x::(S++R')=((Q++[p])++x::S)++R')) trivial rfl rfl
 ·have g1:l.length≤A.length:=by simpa using g1
  obtain rfl:R=[]:=List.eq_nil_of_length_eq_zero (by omega)
  obtain⟨T,hT,hTA⟩:=hp
  rw[List.append_nil] at hT ⊢
  subst hT
  rw[← hTA]
  refine zah Tk (r:=.tup []) rfl rfl rfl trivial rfl rfl ?_
  rfl
theorem zjU (x:Chc):∀ l,(zeA x l).length=l.length+1
 | []=>rfl
 | y::r=>by
  unfold zeA
  split
  ·simp
  ·simp[zjU x r]
theorem zeR (l:List Chc):(zdv l).length=l.length:=by
 have:∀ (r acc:List Chc),(r.foldl (fun acc x=>zeA x acc) acc).length=acc.length+r.length:=by
  intro r
  induction r with
  | nil=>simp
  | cons x r ih=>intro acc;rw[List.foldl_cons,ih,zjU,List.length_cons];omega
 have:=this l []
 simpa [zdv] using this
theorem zxY (O:List Heap) (d nm:Nat) (l:List Chc) (q:Int) (hl:l.length≤12) (ho:zab O d nm=some (olCh l)):zan Tryz.prog 231 [.osl d nm,ii 0,ii l.length,ii q,zr6] O (.tup []) [] (setAt O d nm (olCh (zdv l))):=by
 have h:=fun O d ho=>zyg O d nm l (by omega) ho
 have hsl:=zeR l
 have w:IntKind.i64.wrap ((l.length:Int) - 0)=(l.length:Int):=by rw[w64 (by omega) (by omega)];omega
 refine zaa Tk Tryz.func231 rfl Tryz.call231 Tryz.ntmps231 (Nat.le_of_ble_eq_true rfl) fun E=>?_
 refine zag Tk Tryz.func231 ?_
 refine zae ?_
 refine zag Tk Tryz.func231 ?_
 refine zai Tk Tryz.func231 rfl (fun _=>?_) (fun h=>absurd h (by rw[w];simp;omega))
 refine zak Tk Tryz.func231 (h _ (d+1) (zav (H:=([]:Heap)) ho)) rfl rfl rfl (zaN (zav (H:=([]:Heap)) ho) (by simp[Ob.sh,hsl])) rfl ?_
 refine zah Tk (r:=.tup []) rfl rfl rfl trivial rfl rfl ?_
 rfl
theorem zwc (O:List Heap) (d nm:Nat) (l:List Chc) (hl:l.length≤12) (ho:zab O d nm=some (olCh l)):zan Tryz.prog 178 [.osl d nm,zr6] O (.tup []) [] (setAt O d nm (olCh (zdv l))):=by
 obtain⟨q,hb⟩:=zh8 l.length (by omega)
 have h:=fun O d q ho=>zxY O d nm l q hl ho
 have hsl:=zeR l
 refine zaa Tk Tryz.func178 rfl Tryz.call178 Tryz.ntmps178 (Nat.le_of_ble_eq_true rfl) fun E=>?_
 refine zag Tk Tryz.func178 ?_
 refine zbz Tk Tryz.func178 (zav ho) ?_
 refine zak Tk Tryz.func178 (hb _) rfl rfl rfl rfl rfl ?_
 refine zak Tk Tryz.func178 (h _ (d+1) _ (zav (H:=([]:Heap)) ho)) rfl rfl rfl (zaN (zav (H:=([]:Heap)) ho) (by simp[Ob.sh,hsl])) rfl ?_
 refine zah Tk (r:=.tup []) rfl rfl rfl trivial rfl rfl ?_
 rfl
theorem zmI (loc:Int):∀ (l r:List Sta) (i:Nat),stAt loc (l++r) i=stAt loc l i++stAt loc r (i+l.length)
 | [],r,i=>rfl
 | s::l,r,i=>by
  simp only[List.cons_append,stAt,zmI loc l r (i+1),List.length_cons]
  rw[show i+1+l.length=i+(l.length+1) by omega]
  split <;> rfl
theorem zil (loc:Int):∀ (l:List Sta) (i:Nat),(stAt loc l i).length≤l.length
 | [],_=>Nat.le_refl _
 | s::l,i=>by
  have:=zil loc l (i+1)
  unfold stAt
  split <;> simp <;> omega
theorem zyN (O:List Heap) (l:List Sta) (loc:Int) (hl:l.length≤1000000):zan Tryz.prog 175 [zjk l,ii loc] O (ints (stAt loc l 0)) [] O:=by
 refine zaa Tk Tryz.func175 rfl Tryz.call175 Tryz.ntmps175 (Nat.le_of_ble_eq_true rfl) fun E=>?_
 refine zag Tk Tryz.func175 ?_
 refine g_wk (zb2 5 22 3 1 rfl rfl rfl) ?_
 refine zae ?_
 refine zaj (fun i:Nat=>[(1,ii loc),(5,.osl 0 22),(8,zjk l),(9,ii l.length),(10,ii i)]) (fun i=>[(22,zbV (stAt loc (l.take i) 0))]) (fun _=>O) 25
  (fun i=>i≤l.length) (fun i=>l.length - i) 0 (Nat.zero_le _) ⟨rfl,rfl,rfl,rfl,rfl,trivial⟩ rfl ⟨rfl,trivial⟩ rfl rfl ?_
 intro i hi ih
 have hi:i≤l.length:=hi
 refine zag Tk Tryz.func175 ?_
 refine zai Tk Tryz.func175 rfl (fun g1=>?_) (fun g1=>?_)
 ·have g1:i<l.length:=by simpa using g1
  have gs:(l.map staI)[(i:Int).toNat]? = some (staI l[i]):=zam (f:=staI) g1
  have ht:stAt loc (l.take (i+1)) 0=stAt loc (l.take i) 0++(if l[i].loc=loc then [(i:Int)] else []):=by
   rw[List.take_succ_eq_append_getElem g1,zmI,List.length_take,Nat.min_eq_left hi,Nat.zero_add]
   rfl
  have hll:=zil loc (l.take i) 0
  rw[List.length_take] at hll
  have hj1:ii (IntKind.i64.wrap ((i:Int)+1))=ii ((i+1:Nat):Int):=congrArg ii (zaB (n:=1000001) (by omega) (by decide))
  generalize stAt loc (l.take i) 0=L at *
  generalize l[i]=s at *
  obtain⟨sl,sv⟩:=s
  simp only at ht
  refine zaf Tk Tryz.func175 (by exact⟨by omega,by show (i:Int)<(l.length:Int);omega⟩) ?_
  refine zaq Tk Tryz.func175 (gs) ?_
  refine zai Tk Tryz.func175 rfl (fun c1=>?_) (fun c1=>?_)
  ·have c1:sl=loc:=beqT c1
   rw[if_pos c1] at ht
   refine zaf Tk Tryz.func175 (by exact⟨by show (L.length+1) * 8≤140737488355328;omega,by show L.length+1≤9223372036854775807;omega⟩) ?_
   refine zae ?_
   exact ih (i+1) _ _ g1 (by omega) ⟨rfl,rfl,rfl,rfl,hj1,trivial⟩ rfl ⟨by rw[ht];exact congrArg some (zcz L i),trivial⟩ rfl rfl
  ·have c1:¬ sl=loc:=beqF c1
   rw[if_neg c1,List.append_nil] at ht
   refine zae ?_
   exact ih (i+1) _ _ g1 (by omega) ⟨rfl,rfl,rfl,rfl,hj1,trivial⟩ rfl ⟨by rw[ht];rfl,trivial⟩ rfl rfl
 ·have g1:l.length≤i:=by simpa using g1
  rw[List.take_of_length_le g1]
  refine za8 (zap 22 rfl rfl) ?_
  refine zah Tk (r:=ints (stAt loc l 0)) rfl rfl rfl trivial rfl rfl ?_
  rfl
abbrev olc (l:List Loc2):Ob:=.arr 131 2 l.length (l.map zbt) true
abbrev lcsI (l:List Loc2):I:=.sl 2 l.length (l.map zbt)
theorem zvc (O:List Heap) (l:List Loc2) (hl:l.length≤1000000):zan Tryz.prog 180 [.i (lcsI l)] O (.osl 0 95) [(95,olc l)] O:=by
 refine zaa Tk Tryz.func180 rfl Tryz.call180 Tryz.ntmps180 (Nat.le_of_ble_eq_true rfl) fun E=>?_
 refine zag Tk Tryz.func180 ?_
 refine znk Tk Tryz.func180 rfl rfl fun b hb=>?_
 refine zai Tk Tryz.func180 rfl (fun h1=>?_) (fun h1=>?_)
 ·have hl0:l=[]:=List.eq_nil_of_length_eq_zero (hb h1)
  subst hl0
  refine za8 (zb2 2 95 131 2 rfl rfl rfl) ?_
  exact⟨zaA (hT:=Tk) (r:=.osl 0 95) rfl rfl rfl ⟨⟨_,rfl,rfl⟩,trivial⟩ (zgu _ _ _) rfl rfl⟩
 ·refine zaf Tk Tryz.func180 (by exact⟨by show (0+l.length) * 16≤140737488355328;omega,by show 0+l.length≤9223372036854775807;omega⟩) ?_
  refine za8 (zcW (l:=[(2,.osl 0 7)]) (Hv:=[(7,.arr 131 2 (0+l.length) ([]++l.map zbt) true)]) ⟨rfl,trivial⟩ rfl ⟨rfl,trivial⟩ rfl rfl) ?_
  rw[Nat.zero_add,List.nil_append]
  refine za8 (zvn 7 95 rfl rfl rfl) ?_
  exact⟨zaA (hT:=Tk) (r:=.osl 0 95) rfl rfl rfl ⟨⟨_,rfl,rfl⟩,trivial⟩ (zgu _ _ _) rfl rfl⟩
theorem zwS (O:List Heap) (x:Chc):zan Tryz.prog 177 [.agg [ii x.1,ints x.2]] O (bb (decide (x.2.length=0))) [] O:=by
 refine zaa Tk Tryz.func177 rfl Tryz.call177 Tryz.ntmps177 (Nat.le_of_ble_eq_true rfl) fun E=>?_
 refine zag Tk Tryz.func177 ?_
 refine zah Tk (r:=bb ((x.2.length:Int)==0)) rfl rfl rfl trivial rfl rfl ?_
 refine congrArg bb ?_
 by_cases h:x.2.length=0 <;> simp[h]
theorem zw4 (O:List Heap) (x:XEx):zan Tryz.prog 139 [.agg [.i (strI x.name),.i (lcsI x.locals)]] O (bb (decide (x.name.size>32))) [] O:=by
 refine zaa Tk Tryz.func139 rfl Tryz.call139 Tryz.ntmps139 (Nat.le_of_ble_eq_true rfl) fun E=>?_
 refine zag Tk Tryz.func139 ?_
 refine zah Tk (r:=bb (decide ((x.name.size:Int)>32))) rfl rfl rfl trivial rfl rfl ?_
 refine congrArg bb (decide_eq_decide.2 ?_)
 omega
theorem zuF (O:List Heap) (l:List Chc) (f:Nat) (p:Chc→Bool) (hl:l.length≤zao) (hp:∀ x∈l,zan Tryz.prog f [.agg [ii x.1,ints x.2]] ([]::O) (bb (p x)) [] ([]::O)) :
  zan Tryz.prog 230 [.i (.sl 2 l.length (l.map chcI)),.fn (.func f) [] []] O (ii (zat p l 0)) [] O:=by
 generalize hR:zat p l 0=R
 refine zaa Tk Tryz.func230 rfl Tryz.call230 Tryz.ntmps230 (Nat.le_of_ble_eq_true rfl) fun E=>?_
 refine zag Tk Tryz.func230 ?_
 refine zae ?_
 refine zaj (fun i:Nat=>[(0,.i (.sl 2 l.length (l.map chcI))),(1,.fn (.func f) [] []),(6,.i (.sl 2 l.length (l.map chcI))),(7,ii l.length),(8,ii i)]) (fun _=>[]) (fun _=>O) 19
  (fun i=>i≤l.length∧zat p (l.drop i) i=R) (fun i=>l.length - i) 0 ⟨Nat.zero_le _,hR⟩ ⟨rfl,rfl,rfl,rfl,rfl,trivial⟩ rfl trivial rfl rfl ?_
 rintro i ⟨hi,hno⟩ ih
 clear hR
 refine zag Tk Tryz.func230 ?_
 refine zai Tk Tryz.func230 rfl (fun g1=>?_) (fun g1=>?_)
 ·have h1:i<l.length:=by simpa using g1
  have gs:(l.map chcI)[(i:Int).toNat]? = some (chcI l[i]):=zam h1
  have hps:=hp l[i] (List.getElem_mem h1)
  have hd:l.drop i=l[i]::l.drop (i+1):=List.drop_eq_getElem_cons h1
  rw[hd] at hno
  simp only[zat] at hno
  clear hd
  generalize l[i]=s at *
  refine zaf Tk Tryz.func230 (by exact⟨by omega,by show (i:Int)<(l.length:Int);omega⟩) ?_
  refine zaq Tk Tryz.func230 (gs) ?_
  refine zak Tk Tryz.func230 (hps) rfl rfl rfl rfl rfl ?_
  refine zai Tk Tryz.func230 rfl (fun g2=>?_) (fun g2=>?_)
  ·rw[if_pos g2] at hno
   subst hno
   refine zah Tk (r:=ii (i:Int)) rfl rfl rfl trivial rfl rfl ?_
   rfl
  ·have g2:p s=false:=g2
   rw[if_neg (by rw[g2];decide)] at hno
   refine zae ?_
   exact ih (i+1) _ _ ⟨h1,hno⟩ (by omega) ⟨rfl,rfl,rfl,rfl,congrArg ii (zaB h1 hl),trivial⟩ rfl trivial rfl rfl
 ·have h1:l.length≤i:=by simpa using g1
  rw[List.drop_eq_nil_of_le h1] at hno
  have hno:(-1:Int)=R:=hno
  subst hno
  refine zah Tk (r:=ii (-1)) rfl rfl rfl trivial rfl rfl ?_
  rfl
theorem zlf (O:List Heap) (l:List Chc) (f:Nat) (p:Chc→Bool) (hl:l.length≤zao) (hp:∀ x∈l,zan Tryz.prog f [.agg [ii x.1,ints x.2]] ([]::[]::O) (bb (p x)) [] ([]::[]::O)) :
  zan Tryz.prog 176 [.i (.sl 2 l.length (l.map chcI)),.fn (.func f) [] []] O (bb (l.any p)) [] O:=by
 have h:=fun O hp=>zuF O l f p hl hp
 rw[← zbn p l 0]
 generalize zat p l 0=R at *
 refine zaa Tk Tryz.func176 rfl Tryz.call176 Tryz.ntmps176 (Nat.le_of_ble_eq_true rfl) fun E=>?_
 refine zag Tk Tryz.func176 ?_
 refine zak Tk Tryz.func176 (h _ hp) rfl rfl rfl rfl rfl ?_
 refine zah Tk (r:=bb (decide (R ≥ 0))) rfl rfl rfl trivial rfl rfl ?_
 rfl
theorem zuI (O:List Heap) (l:List XEx) (f:Nat) (p:XEx→Bool) (hl:l.length≤zao) (hp:∀ x∈l,zan Tryz.prog f [.agg [.i (strI x.name),.i (lcsI x.locals)]] ([]::O) (bb (p x)) [] ([]::O)) :
  zan Tryz.prog 181 [.i (.sl 2 l.length (l.map xexI)),.fn (.func f) [] []] O (ii (zat p l 0)) [] O:=by
 generalize hR:zat p l 0=R
 refine zaa Tk Tryz.func181 rfl Tryz.call181 Tryz.ntmps181 (Nat.le_of_ble_eq_true rfl) fun E=>?_
 refine zag Tk Tryz.func181 ?_
 refine zae ?_
 refine zaj (fun i:Nat=>[(0,.i (.sl 2 l.length (l.map xexI))),(1,.fn (.func f) [] []),(6,.i (.sl 2 l.length (l.map xexI))),(7,ii l.length),(8,ii i)]) (fun _=>[]) (fun _=>O) 19
  (fun i=>i≤l.length∧zat p (l.drop i) i=R) (fun i=>l.length - i) 0 ⟨Nat.zero_le _,hR⟩ ⟨rfl,rfl,rfl,rfl,rfl,trivial⟩ rfl trivial rfl rfl ?_
 rintro i ⟨hi,hno⟩ ih
 clear hR
 refine zag Tk Tryz.func181 ?_
 refine zai Tk Tryz.func181 rfl (fun g1=>?_) (fun g1=>?_)
 ·have h1:i<l.length:=by simpa using g1
  have gs:(l.map xexI)[(i:Int).toNat]? = some (xexI l[i]):=zam h1
  have hps:=hp l[i] (List.getElem_mem h1)
  have hd:l.drop i=l[i]::l.drop (i+1):=List.drop_eq_getElem_cons h1
  rw[hd] at hno
  simp only[zat] at hno
  clear hd
  generalize l[i]=s at *
  refine zaf Tk Tryz.func181 (by exact⟨by omega,by show (i:Int)<(l.length:Int);omega⟩) ?_
  refine zaq Tk Tryz.func181 (gs) ?_
  refine zak Tk Tryz.func181 (hps) rfl rfl rfl rfl rfl ?_
  refine zai Tk Tryz.func181 rfl (fun g2=>?_) (fun g2=>?_)
  ·rw[if_pos g2] at hno
   subst hno
   refine zah Tk (r:=ii (i:Int)) rfl rfl rfl trivial rfl rfl ?_
   rfl
  ·have g2:p s=false:=g2
   rw[if_neg (by rw[g2];decide)] at hno
   refine zae ?_
   exact ih (i+1) _ _ ⟨h1,hno⟩ (by omega) ⟨rfl,rfl,rfl,rfl,congrArg ii (zaB h1 hl),trivial⟩ rfl trivial rfl rfl
 ·have h1:l.length≤i:=by simpa using g1
  rw[List.drop_eq_nil_of_le h1] at hno
  have hno:(-1:Int)=R:=hno
  subst hno
  refine zah Tk (r:=ii (-1)) rfl rfl rfl trivial rfl rfl ?_
  rfl
theorem zli (O:List Heap) (l:List XEx) (f:Nat) (p:XEx→Bool) (hl:l.length≤zao) (hp:∀ x∈l,zan Tryz.prog f [.agg [.i (strI x.name),.i (lcsI x.locals)]] ([]::[]::O) (bb (p x)) [] ([]::[]::O)) :
  zan Tryz.prog 138 [.i (.sl 2 l.length (l.map xexI)),.fn (.func f) [] []] O (bb (l.any p)) [] O:=by
 have h:=fun O hp=>zuI O l f p hl hp
 rw[← zbn p l 0]
 generalize zat p l 0=R at *
 refine zaa Tk Tryz.func138 rfl Tryz.call138 Tryz.ntmps138 (Nat.le_of_ble_eq_true rfl) fun E=>?_
 refine zag Tk Tryz.func138 ?_
 refine zak Tk Tryz.func138 (h _ hp) rfl rfl rfl rfl rfl ?_
 refine zah Tk (r:=bb (decide (R ≥ 0))) rfl rfl rfl trivial rfl rfl ?_
 rfl
abbrev zkM (l:List (List Sta)):I:=.sl 1 l.length (l.map fun s=>[I.sl 2 s.length (s.map staI)])
abbrev ochs (l:List Chc):Ob:=.arr 304 2 l.length (l.map chcI) true
abbrev llsI (l:List (List Loc2)):I:=.sl 1 l.length (l.map fun b=>[lcsI b])
abbrev olls (l:List (List Loc2)):Ob:=.arr 124 1 l.length (l.map fun b=>[lcsI b]) true
abbrev zcH (l:List XEx):I:=.sl 2 l.length (l.map xexI)
abbrev zro (l:List XEx):Ob:=.arr 126 2 l.length (l.map xexI) true
structure lcOk (m:Mdl) (og:List (List Sta)) (x:NLc):Prop where
 ex:∃ (k k2:Nat) (c:Ins) (t:Tpl) (s:List Sta),nmIx (m.comps.map (·.name)) x.1=(k:Int)∧m.comps[k]? = some c∧nmIx (m.tpls.map (·.name)) c.tpl=(k2:Int)∧m.tpls[k2]? = some t∧zbS m c=some t∧t.locs.length≤1000000∧og[k]? = some s∧s.length≤100000
theorem zuS {l:List ByteArray} {s:ByteArray} {k:Nat} (h:nmIx l s=(k:Int)):fndI l s=(k:Int):=by
 unfold fndI
 rw[h,if_neg (by omega)]
theorem zxw {m:Mdl} {og:List (List Sta)} {x:NLc} {k:Nat} {c:Ins} {t:Tpl} {s:List Sta} (h1:nmIx (m.comps.map (·.name)) x.1=(k:Int)) (h2:m.comps[k]? = some c) (h3:zbS m c=some t) (h4:og[k]? = some s) :
  chcR m og x=((k:Int),stAt (nmIx t.locs x.2) s 0):=by
 unfold chcR
 simp only[zuS h1,Int.toNat_natCast,h2,h3]
 rw[List.getD_eq_getElem?_getD,h4]
 rfl
theorem zsD (l:List Chc) (y:Chc) (n:Int):chsN (l++[y]) n=if chsN l n * (y.2.length:Int)<1048576 then chsN l n * (y.2.length:Int) else 1048576:=by
 induction l generalizing n with
 | nil=>rfl
 | cons x r ih=>simp only[List.cons_append,chsN];exact ih _
theorem zi3:∀ (l:List Chc) {n:Int},0≤n→n≤1048576→0≤chsN l n∧chsN l n≤1048576
 | [],n,h,h2=>⟨h,h2⟩
 | y::r,n,h,h2=>by
  unfold chsN
  have:0≤n * (y.2.length:Int):=Int.mul_nonneg h (by omega)
  split
  ·exact zi3 r this (by omega)
  ·exact zi3 r (by omega) (by omega)
def chsP:List Chc→Nat
 | []=>1
 | y::r=>y.2.length * chsP r
theorem znC:∀ {l:List Chc},(l.any fun y=>y.2.isEmpty)=false→0<chsP l
 | [],_=>Nat.one_pos
 | y::r,h=>by
  simp only[List.any_cons,Bool.or_eq_false_iff] at h
  have h1:0<y.2.length:=by
   cases hy:y.2 with
   | nil=>rw[hy] at h;simp at h
   | cons=>simp
  exact Nat.mul_pos h1 (znC h.2)
theorem zsE:∀ {l:List Chc} {n:Nat},(l.any fun y=>y.2.isEmpty)=false→1≤n→chsN l n≤32→n * chsP l≤32
 | [],n,_,_,h=>by simp only[chsN] at h;simp only[chsP];omega
 | y::r,n,h0,hn,h=>by
  have h0':=h0
  simp only[List.any_cons,Bool.or_eq_false_iff] at h0
  have h1:0<y.2.length:=by
   cases hy:y.2 with
   | nil=>rw[hy] at h0;simp at h0
   | cons=>simp
  unfold chsN at h
  split at h
  ·have h2:=zsE (n:=n * y.2.length) h0.2 (Nat.mul_pos hn h1) (by simpa using h)
   unfold chsP
   rw[← Nat.mul_assoc]
   exact h2
  ·exfalso
   have:∀ (l:List Chc),(l.any fun y=>y.2.isEmpty)=false→∀ k:Int,1048576≤k→1048576≤chsN l k:=by
    intro l
    induction l with
    | nil=>intro _ k hk;exact hk
    | cons z q ih=>
     intro hz k hk
     simp only[List.any_cons,Bool.or_eq_false_iff] at hz
     unfold chsN
     split
     ·rename_i hlt
      exfalso
      have:0<z.2.length:=by
       cases hy:z.2 with
       | nil=>rw[hy] at hz;simp at hz
       | cons=>simp
      have:k * 1≤k * (z.2.length:Int):=Int.mul_le_mul_of_nonneg_left (by omega) (by omega)
      omega
     ·exact ih hz.2 _ (Int.le_refl _)
   have:=this r h0.2 1048576 (Int.le_refl _)
   omega
theorem zkl {l l':List Chc} (h:l.Perm l'):chsP l=chsP l':=by
 induction h with
 | nil=>rfl
 | cons x _ ih=>simp only[chsP,ih]
 | swap x y l=>simp only[chsP];rw[← Nat.mul_assoc,← Nat.mul_assoc,Nat.mul_comm x.2.length]
 | trans _ _ ih1 ih2=>exact ih1.trans ih2
theorem zhS (x:Chc):∀ l,(zeA x l).Perm (x::l)
 | []=>.refl _
 | y::r=>by
  unfold zeA
  split
  ·exact .refl _
  ·exact ((zhS x r).cons y).trans (.swap x y r)
theorem zhB (l:List Chc):(zdv l).Perm l:=by
 have:∀ (r acc:List Chc),(r.foldl (fun acc x=>zeA x acc) acc).Perm (acc++r):=by
  intro r
  induction r with
  | nil=>intro acc;rw[List.append_nil];exact .refl _
  | cons x r ih=>
   intro acc
   rw[List.foldl_cons]
   refine (ih _).trans ?_
   refine ((zhS x acc).append_right r).trans ?_
   exact List.perm_middle.symm
 exact this l []
theorem zsC (l:List Chc) (y:Chc) (all:List (List Loc2)):chsR (l++[y]) all=(chsR l all).flatMap fun b=>y.2.map fun s=>b++[(y.1,s)]:=by
 induction l generalizing all with
 | nil=>rfl
 | cons x r ih=>simp only[List.cons_append,chsR];exact ih _
theorem zfb:∀ (l:List Chc) (all:List (List Loc2)),(chsR l all).length=all.length * chsP l
 | [],all=>by simp[chsR,chsP]
 | y::r,all=>by
  unfold chsR chsP
  rw[zfb r]
  have:(all.flatMap fun b=>y.2.map fun s=>b++[(y.1,s)]).length=all.length * y.2.length:=by
   induction all with
   | nil=>simp
   | cons a q ih=>rw[List.flatMap_cons,List.length_append,List.length_map,ih,List.length_cons,Nat.add_mul];omega
  rw[this,Nat.mul_assoc]
theorem zkk {l:List Chc} (h:0<chsP l) (i:Nat):chsP (l.take i)≤chsP l:=by
 have:∀ (a b:List Chc),chsP (a++b)=chsP a * chsP b:=by
  intro a
  induction a with
  | nil=>intro b;simp[chsP]
  | cons x r ih=>intro b;simp only[List.cons_append,chsP,ih,Nat.mul_assoc]
 have h2:=this (l.take i) (l.drop i)
 rw[List.take_append_drop] at h2
 rw[h2] at h ⊢
 exact Nat.le_mul_of_pos_right _ (Nat.pos_of_mul_pos_left h)
theorem zi2:∀ (l:List Chc) {all:List (List Loc2)} {k:Nat},(∀ b∈all,b.length≤k)→∀ b∈chsR l all,b.length≤k+l.length
 | [],all,k,h,b,hb=>h b hb
 | y::r,all,k,h,b,hb=>by
  unfold chsR at hb
  have:=zi2 r (k:=k+1) (fun c hc=>by
   simp only[List.mem_flatMap,List.mem_map] at hc
   obtain⟨a,ha,s,_,rfl⟩:=hc
   have:=h a ha
   simp;omega) b hb
  rw[List.length_cons];omega
end Go.AI
