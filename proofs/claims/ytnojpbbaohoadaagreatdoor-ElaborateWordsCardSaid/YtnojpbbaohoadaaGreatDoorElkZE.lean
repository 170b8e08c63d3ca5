/- The layer of abstract runs, part 31. -/
import Derived.Test.YtnojpbbaohoadaaGreatDoorElkZD
import Derived.Test.YtnojpbbaohoadaaGreatDoorRows
import Derived.KernelRfl
import Derived.JoinedOf
import Derived.SevenTiedAt
set_option linter.unusedSimpArgs false
set_option linter.unusedVariables false
set_option linter.all false
set_option maxRecDepth 20000
set_option maxHeartbeats 4000000
namespace Go.AI
open Go.Proofs
theorem zfe:∀ {vs:List Vr} {l:List Int},within vs l = true → ∀ (i:Nat) (h:i < vs.length) (h':i < l.length),vs[i].low ≤ l[i] ∧ l[i] ≤ vs[i].high
 | v :: r,x :: ys,h,i,hi,hi' => by
  simp only [within,Bool.and_eq_true,decide_eq_true_eq] at h
  cases i with
  | zero => exact ⟨h.1.1,h.1.2⟩
  | succ i => exact zfe h.2 i (by simpa using hi) (by simpa using hi')
 | [],_,_,i,hi,_ => absurd hi (Nat.not_lt_zero _)
 | _ :: _,[],_,i,_,hi => absurd hi (Nat.not_lt_zero _)
theorem zcX {m:Ext} (h:made m):extRight m:=zbX (zuU h)
def zp7 (m:Ext) (s:Sta):Nat:=s.loc.toNat + 4 * ((s.vals.getD 0 0 - (m.vars.getD 0 ⟨⟨#[]⟩,0,0,0⟩).low).toNat + 4 * (s.vals.getD 1 0 - (m.vars.getD 1 ⟨⟨#[]⟩,0,0,0⟩).low).toNat)
theorem zk1 {m:Ext} (hm:made m) {s:Sta} (h:okS m s) (i:Nat) (hi:i < m.vars.length):∃ hi':i < s.vals.length,m.vars[i].low ≤ s.vals[i] ∧ s.vals[i] ≤ m.vars[i].low + 3:=by
 have hl:=(zbD (zcX hm) h).2.2.2.1
 have h1:=zfe h.2 i hi (by omega)
 have h2:=(hm.v _ (List.getElem_mem hi)).w
 exact ⟨by omega,h1.1,by omega⟩
theorem zvt {m:Ext} (hm:made m) {s:Sta} (h:okS m s):zp7 m s < 64:=by
 have hl:=(zbD (zcX hm) h).2.2.2.1
 have hlo:=hm.lo
 have h0:=h.1
 have hv2:=hm.vl
 have part:∀ i,(s.vals.getD i 0 - (m.vars.getD i ⟨⟨#[]⟩,0,0,0⟩).low).toNat < 4:=by
  intro i
  by_cases hi:i < m.vars.length
  ·obtain ⟨hi',h1,h2⟩:=zk1 hm h i hi
   rw [List.getD_eq_getElem?_getD,List.getD_eq_getElem?_getD,List.getElem?_eq_getElem hi',List.getElem?_eq_getElem hi]
   simp only [Option.getD_some]
   omega
  ·rw [List.getD_eq_getElem?_getD,List.getD_eq_getElem?_getD,List.getElem?_eq_none (by omega),List.getElem?_eq_none (by omega)]
   simp only [Option.getD_none]
   omega
 have:=part 0
 have:=part 1
 unfold zp7
 omega
theorem zsP {m:Ext} (hm:made m) {s t:Sta} (hs:okS m s) (ht:okS m t) (h:zp7 m s = zp7 m t):s = t:=by
 have hls:=(zbD (zcX hm) hs).2.2.2.1
 have hlt:=(zbD (zcX hm) ht).2.2.2.1
 have hlo:=hm.lo
 have h0:=hs.1
 have h0':=ht.1
 have hv2:=hm.vl
 have part:∀ (s:Sta),okS m s → s.vals.length = m.vars.length → ∀ i,(s.vals.getD i 0 - (m.vars.getD i ⟨⟨#[]⟩,0,0,0⟩).low).toNat < 4 ∧ 0 ≤ (s.vals.getD i 0 - (m.vars.getD i ⟨⟨#[]⟩,0,0,0⟩).low):=by
  intro s h hl i
  by_cases hi:i < m.vars.length
  ·obtain ⟨hi',h1,h2⟩:=zk1 hm h i hi
   rw [List.getD_eq_getElem?_getD,List.getD_eq_getElem?_getD,List.getElem?_eq_getElem hi',List.getElem?_eq_getElem hi]
   simp only [Option.getD_some]
   omega
  ·rw [List.getD_eq_getElem?_getD,List.getD_eq_getElem?_getD,List.getElem?_eq_none (by omega),List.getElem?_eq_none (by omega)]
   simp only [Option.getD_none]
   omega
 have p0:=part s hs hls 0
 have p1:=part s hs hls 1
 have q0:=part t ht hlt 0
 have q1:=part t ht hlt 1
 unfold zp7 at h
 have e0:s.loc = t.loc:=by omega
 have e1:s.vals.getD 0 0 = t.vals.getD 0 0:=by omega
 have e2:s.vals.getD 1 0 = t.vals.getD 1 0:=by omega
 have ev:s.vals = t.vals:=by
  apply List.ext_getElem (by omega)
  intro i hi hi'
  have:i = 0 ∨ i = 1:=by omega
  rcases this with rfl | rfl
  ·rw [List.getD_eq_getElem?_getD,List.getD_eq_getElem?_getD,List.getElem?_eq_getElem hi,List.getElem?_eq_getElem hi'] at e1
   exact e1
  ·rw [List.getD_eq_getElem?_getD,List.getD_eq_getElem?_getD,List.getElem?_eq_getElem hi,List.getElem?_eq_getElem hi'] at e2
   exact e2
 cases s
 cases t
 simp only at e0 ev
 rw [e0,ev]
theorem zh4 {m:Ext} (hm:made m) {l:List Sta} (ho:∀ s ∈ l,okS m s) (hn:l.Nodup):l.length ≤ 64:=by
 have h:=zen (n:=64) (l:=l.map (zp7 m)) ?_ ?_
 ·rwa [List.length_map] at h
 ·unfold List.Nodup at hn ⊢
  rw [List.pairwise_map]
  refine hn.imp_of_mem fun {a b} ha hb hne h => hne (zsP hm (ho a ha) (ho b hb) h)
 ·intro x hx
  obtain ⟨s,hs,rfl⟩:=List.mem_map.1 hx
  exact zvt hm (ho s hs)
def smallI:List Int:=(List.range 12).map fun (k:Nat) => (k:Int) - 4
def valsL:List (List Int):=[[]] ++ smallI.map (fun a => [a]) ++ smallI.flatMap fun a => smallI.map fun b => [a,b]
def combos:List Sta:=(List.range 4).flatMap fun (l:Nat) => valsL.map fun v => ⟨l,v⟩
theorem zjD {m:Ext} (hm:made m) {s:Sta} (h:okS m s):s ∈ combos:=by
 have hl:=(zbD (zcX hm) h).2.2.2.1
 have hlo:=hm.lo
 have h0:=h.1
 have hv2:=hm.vl
 have sm:∀ i (hi:i < s.vals.length),s.vals[i] ∈ smallI:=by
  intro i hi
  obtain ⟨_,h1,h2⟩:=zk1 hm h i (by omega)
  have h3:=(hm.v _ (List.getElem_mem (show i < m.vars.length by omega)))
  have:=h3.lo
  have:=h3.hi
  have h4:=zfe h.2 i (by omega) hi
  unfold smallI
  rw [List.mem_map]
  exact ⟨(s.vals[i] + 4).toNat,List.mem_range.2 (by omega),by omega⟩
 unfold combos
 rw [List.mem_flatMap]
 refine ⟨s.loc.toNat,List.mem_range.2 (by omega),?_⟩
 rw [List.mem_map]
 refine ⟨s.vals,?_,by cases s; simp only at h0 ⊢; congr 1; omega⟩
 unfold valsL
 match hv:s.vals,(show s.vals.length ≤ 2 by omega) with
 | [],_ => simp
 | [a],_ =>
  have h1:=sm 0 (by rw [hv]; simp)
  simp only [hv,List.getElem_cons_zero] at h1
  simp [h1]
 | [a,b],_ =>
  have h1:=sm 0 (by rw [hv]; simp)
  have h2:=sm 1 (by rw [hv]; simp)
  simp only [hv,List.getElem_cons_zero,List.getElem_cons_succ] at h1 h2
  simp [h1,h2]
def decF (l:List UInt8):List Int:=
 (l.foldl (fun (x:List Int × Bool × Int) c =>
  if c = 32 then (x.1 ++ [if x.2.1 then -x.2.2 else x.2.2],false,0) else if c = 59 then x else if c = 45 then (x.1,true,x.2.2) else (x.1,x.2.1,x.2.2 * 10 + ((c.toNat:Int) - 48))) ([],false,0)).1
def decK (b:ByteArray):Sta:=match decF b.data.toList with
 | [] => zec
 | l :: v => ⟨l,v⟩
theorem zh9:(combos.all fun s => decide (decK (fkey s) = s)) = true:=by kernel_rfl
theorem zkC {a b:ByteArray}:(a == b) = true ↔ a = b:=by
 constructor
 ·intro h
  have h':(a.data == b.data) = true:=h
  exact ByteArray.ext (by simpa using h')
 ·rintro rfl
  show (a.data == a.data) = true
  simp
theorem zuY {m:Ext} (hm:made m) {s t:Sta} (hs:okS m s) (ht:okS m t):keq s t = eqB s t:=by
 have h1:=of_decide_eq_true (List.all_eq_true.1 zh9 s (zjD hm hs))
 have h2:=of_decide_eq_true (List.all_eq_true.1 zh9 t (zjD hm ht))
 by_cases h:s = t
 ·subst h
  have:keq s s = true:=zkC.2 rfl
  rw [this]; simp [eqB]
 ·have:keq s t = false:=by
   cases hk:keq s t with
   | false => rfl
   | true =>
    have e:fkey s = fkey t:=zkC.1 hk
    exact absurd (by rw [← h1,← h2,e]) h
  rw [this]; simp [eqB,h]
abbrev mkdM (m:Ext) (s:Sta):Bool:=decide (s.loc ∈ m.marked)
theorem zw2 {m:Ext} (hc:chk m = 0) {s:Sta} (h:okS m s):ckS m s = 0:=by
 have hl:=(zbD (zbX hc) h).2.2.2.1
 unfold ckS
 rw [hc,if_neg (by simp),if_neg (by have:=h.1; omega),if_neg (by rw [hl]; simp),if_neg (by rw [h.2]; simp)]
theorem zwt {m:Ext} (hc:chk m = 0) {s:Sta} (h:okS m s) {ev:Int} (he:ev ∈ m.alpha):stpR m s ev = zdl m s ev:=by
 unfold stpR
 rw [zw2 hc h,if_neg (by simp),if_neg (by simpa using he)]
theorem zc6 {m:Ext} {V:Unf Sta} (h:za7 m = .ok V):chk m = 0:=by
 unfold za7 at h
 by_cases h1:chk m ≠ 0
 ·rw [if_pos h1] at h; cases h
 ·exact Classical.byContradiction h1
theorem zt9 {m M:Ext} (hm:made m) (hl:M.locs = m.locs) (hv:M.vars = m.vars) {V:Unf Sta} (h:za7 M = .ok V):UAt (mkdM M) M.alpha (okS M) (stpR M) V.sts.length V:=by
 have hc:=zc6 h
 have hr:=zbX hc
 have hiff:∀ s,okS M s ↔ okS m s:=fun s => by unfold okS; rw [hl,hv]
 have hfew:∀ l:List Sta,(∀ s ∈ l,okS M s) → l.Nodup → l.length ≤ 64:=fun l h1 h2 => zh4 hm (fun s hs => (hiff s).1 (h1 s hs)) h2
 have hF:Fin1 (stpR M) keq true (okS M):=
  ⟨fun s ev h hp => zrb hr h hp,fun s t hs ht => zuY hm ((hiff s).1 hs) ((hiff t).1 ht),fun _ l h1 h2 => by have:=hfew l h1 h2; omega⟩
 unfold za7 at h
 rw [hc,if_neg (by simp)] at h
 rcases zq2 (mkdM M) hF (alpha:=M.alpha) (zir hr) (B:=64) hfew (by decide) with ⟨e,he,_⟩ | ⟨V',hV',hA⟩
 ·unfold unfX at h
  have he:unfR keq true (stpR M) (fun s => decide (s.loc ∈ M.marked)) M.alpha (zcf M) = .error e:=he
  rw [he] at h
  cases h
 ·unfold unfX at h
  have hV':unfR keq true (stpR M) (fun s => decide (s.loc ∈ M.marked)) M.alpha (zcf M) = .ok V':=hV'
  rw [hV'] at h
  cases h
  exact hA
end Go.AI
namespace Go.AI
open Go.Proofs
set_option maxRecDepth 20000
end Go.AI
namespace Go.AI
structure Sys where
 p:Aut
 s:Aut
 ob:List Int
 ct:List Int
structure gSys (x:Sys):Prop where
 p:chkA x.p = 0
 s:chkA x.s = 0
 al:x.s.alpha = x.p.alpha
 ob:zaw 32 x.ob none = 0
 ct:zaw 32 x.ct none = 0
 obs:∀ e ∈ x.ob,e ∈ x.p.alpha
 cts:∀ e ∈ x.ct,e ∈ x.p.alpha
end Go.AI
namespace Go.AI
open Go.Proofs
section
variable {c:Cx} {s:St} {k:List Item} {ops:Array Oper} {rest:List Nat} {o:Oper}
end
section
variable {c:Cx} {s:St} {k:List Item} {ops:Array Oper} {rest:List Nat} {o:Oper}
end
end Go.AI
namespace Go.AI
open Go.Proofs
set_option maxRecDepth 20000
structure smallS (x:Sys):Prop where
 p:smallA x.p
 s:smallA x.s
 ob:x.ob.length ≤ 1000000
 ct:x.ct.length ≤ 1000000
end Go.AI
namespace Go.AI
section
variable {c:Cx} {s:St} {k:List Item} {ops:Array Oper}
end
end Go.AI
namespace Go.AI
open Go.Proofs
set_option maxRecDepth 20000
theorem zyK (O:List Heap) (e:Edg) (s:Int):zan Tryz.prog 245 [edgD e,ii s] O (ii (IntKind.i64.wrap (e.1 - s))) [] O:=by
 obtain ⟨a,b,c⟩:=e
 refine zaa Tk Tryz.func245 rfl Tryz.call245 Tryz.ntmps245 (Nat.le_of_ble_eq_true rfl) fun E => ?_
 refine zah Tk Tryz.func245 ?_
 refine zae Tk (r:=ii (IntKind.i64.wrap (a - s))) rfl rfl rfl trivial rfl rfl ?_
 rfl
theorem zyJ (O:List Heap) (e:Edg) (s:Int):zan Tryz.prog 246 [edgD e,ii s] O (ii (IntKind.i64.wrap (e.1 - s))) [] O:=by
 obtain ⟨a,b,c⟩:=e
 refine zaa Tk Tryz.func246 rfl Tryz.call246 Tryz.ntmps246 (Nat.le_of_ble_eq_true rfl) fun E => ?_
 refine zah Tk Tryz.func246 ?_
 refine zae Tk (r:=ii (IntKind.i64.wrap (a - s))) rfl rfl rfl trivial rfl rfl ?_
 rfl
theorem zv8 (O:List Heap) (l:List Edg) (s:Int) (f:Nat) (hf:∀ e O,zan Tryz.prog f [edgD e,ii s] O (ii (IntKind.i64.wrap (e.1 - s))) [] O) (hl:l.length ≤ zao) (hs:zeh l) (hb:∀ e ∈ l,0 ≤ e.1 ∧ e.1 ≤ 5000) (hsb:0 ≤ s ∧ s ≤ 5000) :
  zan Tryz.prog 244 [edgs l,ii s,.fn (.func f) [] []] O (.tup [ii (lowE l s:Nat),bb (fndE l s)]) [] O:=by
 have hw:∀ e ∈ l,IntKind.i64.wrap (e.1 - s) = e.1 - s:=fun e he => by
  have:=hb e he
  exact w64 (by omega) (by omega)
 have hsort:∀ i j (hi:i < l.length) (hj:j < l.length),i ≤ j → l[i].1 ≤ l[j].1:=fun i j hi hj h => by
  rcases Nat.lt_or_eq_of_le h with h | h
  ·exact List.pairwise_iff_getElem.1 hs i j hi hj h
  ·subst h; exact Int.le_refl _
 refine zaa Tk Tryz.func244 rfl Tryz.call244 Tryz.ntmps244 (Nat.le_of_ble_eq_true rfl) fun E => ?_
 refine zah Tk Tryz.func244 ?_
 refine zaf ?_
 refine zal (fun p:Nat × Nat => [(0,edgs l),(1,ii s),(2,.fn (.func f) [] []),(8,ii l.length),(9,ii p.1),(10,ii p.2)]) (fun _ => []) (fun _ => O) 49
  (fun p => p.1 ≤ p.2 ∧ p.2 ≤ l.length ∧ (∀ k (h:k < l.length),k < p.1 → l[k].1 < s) ∧ ∀ k (h:k < l.length),p.2 ≤ k → s ≤ l[k].1) (fun p => p.2 - p.1) (0,l.length)
  ⟨Nat.zero_le _,Nat.le_refl _,fun k h h' => by simp at h',fun k h h' => by simp at h'; omega⟩ ⟨rfl,rfl,rfl,rfl,rfl,rfl,trivial⟩ rfl trivial rfl rfl ?_
 rintro ⟨i,j⟩ ⟨hij,hj,hlo,hhi⟩ ih
 simp only at hij hj hlo hhi
 have hlj:j ≤ zao:=Nat.le_trans hj hl
 refine zah Tk Tryz.func244 ?_
 refine zai Tk Tryz.func244 rfl (fun h1 => ?_) (fun h1 => ?_)
 ·have h1:i < j:=by simpa using h1
  have hm:=zym (Nat.le_trans hij hlj) hlj
  have hmj:(i + j) / 2 < j:=by omega
  have hml:(i + j) / 2 < l.length:=by omega
  have ge:(l.map edgI)[((((i + j) / 2:Nat):Int)).toNat]? = some (edgI l[(i + j) / 2]):=zam hml
  have hwm:=hw _ (List.getElem_mem hml)
  have hfm:=hf l[(i + j) / 2]
  generalize he:l[(i + j) / 2] = e at *
  refine zaj Tk Tryz.func244 (by simp [IntKind.bits]) ?_
  refine zaj Tk Tryz.func244 (by rw [hm]; exact ⟨by omega,by show (((i + j) / 2:Nat):Int) < (l.length:Int); omega⟩) ?_
  refine zaq Tk Tryz.func244 (by rw [hm]; exact ge) ?_
  refine zag Tk Tryz.func244 (hfm _) rfl rfl rfl rfl rfl ?_
  refine zai Tk Tryz.func244 rfl (fun h2 => ?_) (fun h2 => ?_)
  ·have h2:IntKind.i64.wrap (e.1 - s) < 0:=of_decide_eq_true h2
   rw [hwm] at h2
   refine zaf ?_
   refine ih ((i + j) / 2 + 1,j) _ _ ⟨by show (i + j) / 2 + 1 ≤ j; omega,hj,fun k h h' => ?_,hhi⟩ (by simp only; omega) ⟨rfl,rfl,rfl,rfl,?_,rfl,trivial⟩ rfl trivial rfl rfl
   ·have h':k < (i + j) / 2 + 1:=h'
    have:=hsort k ((i + j) / 2) h hml (by omega)
    rw [he] at this
    omega
   ·show D.i (.v (.int .i64 _)) = _
    rw [hm]
    exact congrArg ii (zaE (n:=j) (by omega) hlj)
  ·have h2:¬ IntKind.i64.wrap (e.1 - s) < 0:=of_decide_eq_false h2
   rw [hwm] at h2
   refine zaf ?_
   refine ih (i,(i + j) / 2) _ _ ⟨by show i ≤ (i + j) / 2; omega,by show (i + j) / 2 ≤ l.length; omega,hlo,fun k h h' => ?_⟩ (by simp only; omega) ⟨rfl,rfl,rfl,rfl,rfl,?_,trivial⟩ rfl trivial rfl rfl
   ·have h':(i + j) / 2 ≤ k:=h'
    have:=hsort ((i + j) / 2) k hml h h'
    rw [he] at this
    omega
   ·show D.i (.v (.int .i64 _)) = _
    rw [hm]
 ·have h1:j ≤ i:=by simpa using h1
  have hij:i = j:=by omega
  subst hij
  have hlow:lowE l s = i:=zxf hj hlo hhi
  have hfd:fndE l s = match l[i]? with | some e => e.1 - s == 0 | none => false:=by unfold fndE; rw [hlow]; rfl
  rw [hlow,hfd]
  refine zaA Tk Tryz.func244 rfl (fun h2 => ?_) (fun h2 => ?_)
  ·have h2:i < l.length:=by simpa using h2
   have ge:(l.map edgI)[(i:Int).toNat]? = some (edgI l[i]):=zam h2
   have hwm:=hw _ (List.getElem_mem h2)
   have hfm:=hf l[i]
   rw [List.getElem?_eq_getElem h2]
   generalize l[i] = e at *
   refine zaj Tk Tryz.func244 (by exact ⟨by omega,by show (i:Int) < (l.length:Int); omega⟩) ?_
   refine zaq Tk Tryz.func244 (ge) ?_
   refine zag Tk Tryz.func244 (hfm _) rfl rfl rfl rfl rfl ?_
   refine zae Tk (r:=.tup [ii (i:Nat),bb (IntKind.i64.wrap (e.1 - s) == 0)]) rfl rfl rfl trivial rfl rfl ?_
   rw [hwm]
  ·have h2:l.length ≤ i:=by simpa using h2
   rw [List.getElem?_eq_none h2]
   refine zae Tk (r:=.tup [ii (i:Nat),bb false]) rfl rfl rfl trivial rfl rfl ?_
   rfl
theorem zyg (O:List Heap) (a:Aut) (s:Int) (hl:a.edges.length ≤ zao) (hs:zeh a.edges) (hb:∀ e ∈ a.edges,0 ≤ e.1 ∧ e.1 ≤ 5000) (hsb:0 ≤ s ∧ s ≤ 4999):zan Tryz.prog 211 [autD a,ii s] O (edgs (outR a.edges s)) [] O:=by
 obtain ⟨al,n,mk,es⟩:=a
 simp only at hl hs hb ⊢
 have h1:=fun O => zv8 O es s 245 (fun e O => zyK O e s) hl hs hb (by omega)
 have hw:IntKind.i64.wrap (s + 1) = s + 1:=w64 (by omega) (by omega)
 have h2:∀ O,zan Tryz.prog 244 [edgs es,ii (IntKind.i64.wrap (s + 1)),.fn (.func 246) [] []] O (.tup [ii (lowE es (s + 1):Nat),bb (fndE es (s + 1))]) [] O:=fun O => by
  rw [hw]
  exact zv8 O es (s + 1) 246 (fun e O => zyJ O e (s + 1)) hl hs hb (by omega)
 have hle:=zr1 hs (show s ≤ s + 1 by omega)
 have hle2:=zfl es (s + 1)
 have hlen:=zeP es s
 have ho:outR es s = (es.take (lowE es (s + 1))).drop (lowE es s):=rfl
 have hres:edgs (outR es s) = .i (.sl 3 (((lowE es (s + 1):Nat):Int).toNat - ((lowE es s:Nat):Int).toNat) (((es.map edgI).take ((lowE es (s + 1):Nat):Int).toNat).drop ((lowE es s:Nat):Int).toNat)):=by
  unfold edgs
  rw [hlen]
  unfold outR
  rw [List.map_drop,List.map_take]
  rfl
 rw [hres]
 generalize lowE es s = p at *
 generalize lowE es (s + 1) = q at *
 refine zaa Tk Tryz.func211 rfl Tryz.call211 Tryz.ntmps211 (Nat.le_of_ble_eq_true rfl) fun E => ?_
 refine zah Tk Tryz.func211 ?_
 refine zag Tk Tryz.func211 (h1 _) rfl rfl rfl rfl rfl ?_
 refine zag Tk Tryz.func211 (h2 _) rfl rfl rfl rfl rfl ?_
 refine zaj Tk Tryz.func211 (by exact ⟨by omega,by omega,by show ((q:Nat):Int) ≤ (es.length:Int); omega⟩) ?_
 refine zae Tk (r:=.i (.sl 3 (((q:Nat):Int).toNat - ((p:Nat):Int).toNat) (((es.map edgI).take ((q:Nat):Int).toNat).drop ((p:Nat):Int).toNat))) rfl rfl rfl trivial rfl rfl ?_
 rfl
theorem zj3 (O:List Heap) (l:List Edg) (f:Nat) (d nm:Nat) (p:Edg → Bool) (hl:l.length ≤ zao) (hp:∀ x ∈ l,zan Tryz.prog f [edgD x,.own (d + 1) nm 0 0] ([] :: O) (bb (p x)) [] ([] :: O)) :
  zan Tryz.prog 212 [edgs l,.fn (.func f) [] [.own d nm 0 0]] O (ii (zar p l 0)) [] O:=by
 generalize hR:zar p l 0 = R
 refine zaa Tk Tryz.func212 rfl Tryz.call212 Tryz.ntmps212 (Nat.le_of_ble_eq_true rfl) fun E => ?_
 refine zah Tk Tryz.func212 ?_
 refine zaf ?_
 refine zal (fun i:Nat => [(0,edgs l),(1,.fn (.func f) [] [.own (d + 1) nm 0 0]),(7,ii l.length),(8,ii i)]) (fun _ => []) (fun _ => O) 19
  (fun i => i ≤ l.length ∧ zar p (l.drop i) i = R) (fun i => l.length - i) 0 ⟨Nat.zero_le _,hR⟩ ⟨rfl,rfl,rfl,rfl,trivial⟩ rfl trivial rfl rfl ?_
 rintro i ⟨hi,hno⟩ ih
 clear hR
 refine zah Tk Tryz.func212 ?_
 refine zai Tk Tryz.func212 rfl (fun g1 => ?_) (fun g1 => ?_)
 ·have h1:i < l.length:=by simpa using g1
  have gs:(l.map edgI)[(i:Int).toNat]? = some (edgI l[i]):=zam h1
  have hps:=hp l[i] (List.getElem_mem h1)
  have hd:l.drop i = l[i] :: l.drop (i + 1):=List.drop_eq_getElem_cons h1
  rw [hd] at hno
  simp only [zar] at hno
  clear hd
  generalize l[i] = s at *
  refine zaj Tk Tryz.func212 (by exact ⟨by omega,by show (i:Int) < (l.length:Int); omega⟩) ?_
  refine zaq Tk Tryz.func212 (gs) ?_
  refine zag Tk Tryz.func212 (hps) rfl rfl rfl rfl rfl ?_
  refine zai Tk Tryz.func212 rfl (fun g2 => ?_) (fun g2 => ?_)
  ·rw [if_pos g2] at hno
   subst hno
   refine zae Tk (r:=ii (i:Int)) rfl rfl rfl trivial rfl rfl ?_
   rfl
  ·rw [if_neg (by rw [g2]; simp)] at hno
   refine zaf ?_
   exact ih (i + 1) _ _ ⟨h1,hno⟩ (by omega) ⟨rfl,rfl,rfl,congrArg ii (zaE h1 hl),trivial⟩ rfl trivial rfl rfl
 ·have h1:l.length ≤ i:=by simpa using g1
  rw [List.drop_eq_nil_of_le h1] at hno
  simp only [zar] at hno
  subst hno
  refine zae Tk (r:=ii (-1)) rfl rfl rfl trivial rfl rfl ?_
  rfl
theorem zxB (O:List Heap) (x:Edg) (ev:Int) (d nm:Nat) (ho:zab O d nm = some (.box [ii ev])):zan Tryz.prog 213 [edgD x,.own d nm 0 0] O (bb (x.2.1 == ev)) [] O:=by
 obtain ⟨a,b,c⟩:=x
 refine zaa Tk Tryz.func213 rfl Tryz.call213 Tryz.ntmps213 (Nat.le_of_ble_eq_true rfl) fun E => ?_
 refine zah Tk Tryz.func213 ?_
 refine zbu Tk Tryz.func213 (zau ho) ?_
 refine zae Tk (r:=bb (b == ev)) rfl rfl rfl trivial rfl rfl ?_
 rfl
def zhr (es:List Edg) (s ev:Int):Int:=match (outR es s).find? (fun x => x.2.1 == ev) with
 | some e => e.2.2
 | none => -1
theorem zg5 {α:Type} {p:α → Bool}:∀ (l:List α) (i:Nat),(l.find? p = none ∧ zar p l i = -1) ∨ ∃ (k:Nat) (e:α),l[k]? = some e ∧ l.find? p = some e ∧ zar p l i = ((i + k:Nat):Int)
 | [],i => .inl ⟨rfl,rfl⟩
 | x :: r,i => by
  cases h:p x with
  | true => exact .inr ⟨0,x,rfl,by simp [h],by simp [zar,h]⟩
  | false =>
   rcases zg5 r (i + 1) with ⟨h1,h2⟩ | ⟨k,e,h1,h2,h3⟩
   ·exact .inl ⟨by rw [List.find?_cons,h]; exact h1,by simp only [zar,h]; rw [if_neg (by simp)]; exact h2⟩
   ·refine .inr ⟨k + 1,e,by simpa using h1,by rw [List.find?_cons,h]; exact h2,?_⟩
    simp only [zar,h]
    rw [if_neg (by simp),h3]
    congr 1
    omega
theorem zw6 (O:List Heap) (a:Aut) (s ev:Int) (ha:autOk a) (hs:0 ≤ s ∧ s ≤ 4999):zan Tryz.prog 153 [autD a,ii s,ii ev] O (ii (zhr a.edges s ev)) [] O:=by
 obtain ⟨c1,c2,c3,c4⟩:=zkv ha.chk
 obtain ⟨es1,eb,_⟩:=zdh c4
 have hso:=zhG es1
 have hed:=ha.ed
 have hout:=fun O => zyg O a s (by simp only [zao]; omega) hso (fun e he => by have:=(eb e he).1; omega) hs
 have hol:(outR a.edges s).length ≤ 1000000:=by rw [zeP]; have:=zfl a.edges (s + 1); omega
 have hix:=fun O d nm ho => zj3 O (outR a.edges s) 213 d nm (fun x => x.2.1 == ev) (by simp only [zao]; omega) (fun x _ => zxB _ x ev (d + 1) nm (zau ho))
 have hf:=zg5 (p:=fun x:Edg => x.2.1 == ev) (outR a.edges s) 0
 unfold zhr
 generalize outR a.edges s = L at *
 obtain ⟨al,st,mk,es⟩:=a
 rcases hf with ⟨h1,h2⟩ | ⟨k,e,h1,h2,h3⟩
 ·simp only [h2] at hix
  simp only [h1]
  refine zaa Tk Tryz.func153 rfl Tryz.call153 Tryz.ntmps153 (Nat.le_of_ble_eq_true rfl) fun E => ?_
  refine zah Tk Tryz.func153 ?_
  refine zag Tk Tryz.func153 (hout _) rfl rfl rfl rfl rfl ?_
  refine zag Tk Tryz.func153 (hix _ 0 5 rfl) rfl rfl rfl rfl rfl ?_
  refine gcT Tk Tryz.func153 rfl ?_
  refine zae Tk (r:=ii (-1)) rfl rfl rfl trivial rfl rfl ?_
  rfl
 ·simp only [h3,Nat.zero_add] at hix
  simp only [h2]
  have hkl:k < L.length:=(List.getElem?_eq_some_iff.1 h1).1
  have ge:(L.map edgI)[((k:Nat):Int).toNat]? = some (edgI e):=by
   rw [List.getElem?_map,show ((k:Nat):Int).toNat = k by omega,h1]
   rfl
  obtain ⟨xf,xe,xt⟩:=e
  refine zaa Tk Tryz.func153 rfl Tryz.call153 Tryz.ntmps153 (Nat.le_of_ble_eq_true rfl) fun E => ?_
  refine zah Tk Tryz.func153 ?_
  refine zag Tk Tryz.func153 (hout _) rfl rfl rfl rfl rfl ?_
  refine zag Tk Tryz.func153 (hix _ 0 5 rfl) rfl rfl rfl rfl rfl ?_
  refine zai Tk Tryz.func153 rfl (fun c1 => ?_) (fun c1 => ?_)
  ·have c1:((k:Nat):Int) < 0:=of_decide_eq_true c1
   omega
  refine zaj Tk Tryz.func153 (by exact ⟨by omega,by show ((k:Nat):Int) < (L.length:Int); omega⟩) ?_
  refine zaq Tk Tryz.func153 (ge) ?_
  refine zae Tk (r:=ii xt) rfl rfl rfl trivial rfl rfl ?_
  rfl
def folL (es:List Edg):List Int → Int → Nat → Int × Int
 | [],s,i => (s,i)
 | x :: r,s,i => if zhr es s x < 0 then (s,i) else folL es r (zhr es s x) (i + 1)
theorem zuN {a:Aut} (ha:autOk a) {s ev:Int}:zhr a.edges s ev < a.states ∧ -1 ≤ zhr a.edges s ev ∧ 0 ≤ a.states ∧ a.states ≤ 4096:=by
 obtain ⟨c1,c2,c3,c4⟩:=zkv ha.chk
 obtain ⟨es1,eb,_⟩:=zdh c4
 unfold zhr
 cases hf:(outR a.edges s).find? (fun x => x.2.1 == ev) with
 | none => simp only; omega
 | some e =>
  have:=(eb _ (znc _ (List.mem_of_find?_eq_some hf))).2.1
  simp only
  omega
theorem zso (O:List Heap) (a:Aut) (s:Int) (w:List Int) (ha:autOk a) (hs:0 ≤ s ∧ s < a.states) (hw:w.length ≤ zao):zan Tryz.prog 76 [autD a,ii s,ints w] O (.tup [ii (folL a.edges w s 0).1,ii (folL a.edges w s 0).2]) [] O:=by
 have hnx:=fun O s ev hs => zw6 O a s ev ha hs
 have hnl:=fun s ev => zuN ha (s:=s) (ev:=ev)
 have hR0:folL a.edges w s 0 = folL a.edges (w.drop 0) s 0:=rfl
 generalize folL a.edges w s 0 = R at *
 obtain ⟨al,st,mk,es⟩:=a
 simp only at hs hnl hR0
 refine zaa Tk Tryz.func76 rfl Tryz.call76 Tryz.ntmps76 (Nat.le_of_ble_eq_true rfl) fun E => ?_
 refine zah Tk Tryz.func76 ?_
 refine zaf ?_
 refine zal (fun x:Nat × Int => [(1,ii x.2),(2,ints w),(3,.own 0 3 0 0),(11,ints w),(12,ii w.length),(13,ii x.1)]) (fun _ => [(3,.box [ints al,ii st,ints mk,edgs es])]) (fun _ => O) 31
  (fun x => x.1 ≤ w.length ∧ (0 ≤ x.2 ∧ x.2 < st) ∧ R = folL es (w.drop x.1) x.2 x.1) (fun x => w.length - x.1) (0,s) ⟨Nat.zero_le _,hs,hR0⟩ ⟨rfl,rfl,rfl,rfl,rfl,rfl,trivial⟩ rfl ⟨rfl,trivial⟩ rfl rfl ?_
 clear hR0
 rintro ⟨i,q⟩ ⟨hi,hq,hno⟩ ih
 simp only at hi hq hno
 have hst:=(hnl 0 0).2.2.2
 refine zah Tk Tryz.func76 ?_
 refine zai Tk Tryz.func76 rfl (fun g1 => ?_) (fun g1 => ?_)
 ·have h1:i < w.length:=by simpa using g1
  have gw:(w.map fun x => [vi x])[(i:Int).toNat]? = some [vi w[i]]:=zam (f:=fun x => [vi x]) h1
  have dw:w.drop i = w[i] :: w.drop (i + 1):=List.drop_eq_getElem_cons h1
  rw [dw] at hno
  simp only [folL] at hno
  clear dw
  generalize w[i] = ev at *
  have hn1:=fun O => hnx O q ev (by omega)
  have hn2:=hnl q ev
  generalize zhr es q ev = N at *
  refine zaj Tk Tryz.func76 (by exact ⟨by omega,by show (i:Int) < (w.length:Int); omega⟩) ?_
  refine zaq Tk Tryz.func76 (gw) ?_
  refine zag Tk Tryz.func76 (hn1 _) rfl rfl rfl rfl rfl ?_
  refine zai Tk Tryz.func76 rfl (fun g2 => ?_) (fun g2 => ?_)
  ·have g2:N < 0:=of_decide_eq_true g2
   rw [if_pos g2] at hno
   subst hno
   refine zae Tk (r:=.tup [ii q,ii (i:Int)]) rfl rfl rfl trivial rfl rfl ?_
   rfl
  ·have g2:¬ N < 0:=of_decide_eq_false g2
   rw [if_neg g2] at hno
   refine zaf ?_
   exact ih (i + 1,N) _ _ ⟨h1,⟨by simp only; omega,hn2.1⟩,hno⟩ (by simp only; omega) ⟨rfl,rfl,rfl,rfl,rfl,congrArg ii (zaE h1 hw),trivial⟩ rfl ⟨rfl,trivial⟩ rfl rfl
 ·have h1:w.length ≤ i:=by simpa using g1
  rw [List.drop_eq_nil_of_le h1] at hno
  simp only [folL] at hno
  have hie:i = w.length:=by omega
  subst hie
  subst hno
  refine zae Tk (r:=.tup [ii q,ii (w.length:Int)]) rfl rfl rfl trivial rfl rfl ?_
  rfl
theorem zi9 (O:List Heap) (a:Aut) (s:Int) (ha:autOk a) (hs:0 ≤ s ∧ s < a.states):zan Tryz.prog 72 [autD a,ii s] O (ii 0) [] O:=by
 have h1:=fun O => zvE O a (by have:=ha.ed; simp only [zao]; omega) (by have:=ha.al; simp only [zao]; omega) (by have:=ha.mkd; simp only [zao]; omega)
 rw [ha.chk] at h1
 obtain ⟨al,st,mk,es⟩:=a
 simp only at hs
 refine zaa Tk Tryz.func72 rfl Tryz.call72 Tryz.ntmps72 (Nat.le_of_ble_eq_true rfl) fun E => ?_
 refine zah Tk Tryz.func72 ?_
 refine zag Tk Tryz.func72 (h1 _) rfl rfl rfl rfl rfl ?_
 refine gcF Tk Tryz.func72 rfl ?_
 refine zaA Tk Tryz.func72 rfl (fun c1 => ?_) (fun c1 => ?_)
 ·have c1:s < 0:=of_decide_eq_true c1
  omega
 refine zai Tk Tryz.func72 rfl (fun c2 => ?_) (fun c2 => ?_)
 ·have c2:s ≥ st:=of_decide_eq_true c2
  omega
 refine zae Tk (r:=ii 0) rfl rfl rfl trivial rfl rfl ?_
 rfl
theorem zuL (O:List Heap) (a:Aut) (x:Int) (ha:a.alpha.length ≤ 1000000) (d nm:Nat) (ho:zab O d nm = some (.box (autC a))):zan Tryz.prog 74 [ii x,.own d nm 0 0] O (bb (!decide (x ∈ a.alpha))) [] O:=by
 have h:=fun O => zhb O a.alpha x (by simp only [zao]; omega)
 obtain ⟨al,st,mk,es⟩:=a
 refine zaa Tk Tryz.func74 rfl Tryz.call74 Tryz.ntmps74 (Nat.le_of_ble_eq_true rfl) fun E => ?_
 refine zah Tk Tryz.func74 ?_
 refine zbu Tk Tryz.func74 (zau ho) ?_
 refine zag Tk Tryz.func74 (h _) rfl rfl rfl rfl rfl ?_
 refine zae Tk (r:=bb (!decide (x ∈ al))) rfl rfl rfl trivial rfl rfl ?_
 rfl
theorem zya (O:List Heap) (a:Aut) (s:Int) (w:List Int) (ha:autOk a) (hs:0 ≤ s ∧ s < a.states) (hw:w.length ≤ zao) (hal:∀ x ∈ w,x ∈ a.alpha):zan Tryz.prog 24 [autD a,ii s,ints w] O (.tup [ii (folL a.edges w s 0).1,ii (folL a.edges w s 0).2,ii 0]) [] O:=by
 have h1:=fun O => zi9 O a s ha hs
 have h2:=fun O ho => zeb O w 74 0 3 (fun x => !decide (x ∈ a.alpha)) hw (fun x _ => zuL _ a x ha.al 2 3 ho)
 have h3:=fun O => zso O a s w ha hs hw
 have hany:w.any (fun x => !decide (x ∈ a.alpha)) = false:=by
  rw [List.any_eq_false]
  intro x hx
  simp [hal x hx]
 rw [hany] at h2
 generalize folL a.edges w s 0 = R at *
 obtain ⟨al,st,mk,es⟩:=a
 refine zaa Tk Tryz.func24 rfl Tryz.call24 Tryz.ntmps24 (Nat.le_of_ble_eq_true rfl) fun E => ?_
 refine zah Tk Tryz.func24 ?_
 refine zag Tk Tryz.func24 (h1 _) rfl rfl rfl rfl rfl ?_
 refine gcF Tk Tryz.func24 rfl ?_
 refine zag Tk Tryz.func24 (h2 _ rfl) rfl rfl rfl rfl rfl ?_
 refine gcF Tk Tryz.func24 rfl ?_
 refine zag Tk Tryz.func24 (h3 _) rfl rfl rfl rfl rfl ?_
 refine zae Tk (r:=.tup [ii R.1,ii R.2,ii 0]) rfl rfl rfl trivial rfl rfl ?_
 rfl
end Go.AI
set_option maxRecDepth 20000
namespace Go.AI
open Go.Proofs
theorem zke {α β:Type} {f:α → List β}:∀ {l:List α},(∀ x ∈ l,(f x).length ≤ 4) → (l.flatMap f).length ≤ 4 * l.length
 | [],_ => by simp
 | x :: r,h => by
  have h1:=h x (by simp)
  have h2:=zke (l:=r) fun y hy => h y (by simp [hy])
  simp only [List.flatMap_cons,List.length_append,List.length_cons]
  omega
theorem zq1 {m:Ext} {U:Unf Sta} (hA:UAt (mkdM m) m.alpha (okS m) (stpR m) U.sts.length U) (hs:m.alpha.Pairwise (· < ·)) :
  U.eds.Pairwise ltE ∧ ∀ x ∈ U.eds,x.2.1 ∈ m.alpha:=by
 rw [hA.eds]
 constructor
 ·rw [List.pairwise_flatMap]
  refine ⟨fun k hk => ?_,?_⟩
  ·split
   ·exact .nil
   ·rw [List.pairwise_filterMap]
    refine hs.imp fun {a b} hab x hx y hy => ?_
    unfold eOf at hx hy
    split at hx
    ·split at hy
     ·simp only [Option.some.injEq] at hx hy
      subst hx hy
      exact .inr ⟨rfl,hab⟩
     ·cases hy
    ·cases hx
  ·refine List.pairwise_lt_range.imp fun {a b} hab x hx y hy => ?_
   have frm:∀ (k:Nat) (s:Sta) (z:Edg),z ∈ m.alpha.filterMap (eOf (stpR m) U.sts k s) → z.1 = (k:Int):=by
    intro k s z hz
    rw [List.mem_filterMap] at hz
    obtain ⟨ev,_,he⟩:=hz
    unfold eOf at he
    split at he
    ·simp only [Option.some.injEq] at he
     subst he
     rfl
    ·cases he
   have h1:x.1 = (a:Int):=by
    split at hx
    ·cases hx
    ·exact frm _ _ _ hx
   have h2:y.1 = (b:Int):=by
    split at hy
    ·cases hy
    ·exact frm _ _ _ hy
   left
   omega
 ·intro x hx
  rw [List.mem_flatMap] at hx
  obtain ⟨k,_,hz⟩:=hx
  split at hz
  ·cases hz
  ·rw [List.mem_filterMap] at hz
   obtain ⟨ev,hev,he⟩:=hz
   unfold eOf at he
   split at he
   ·simp only [Option.some.injEq] at he
    subst he
    exact hev
   ·cases he
theorem zwn {m:Ext} {U:Unf Sta} (hA:UAt (mkdM m) m.alpha (okS m) (stpR m) U.sts.length U) (h3:m.alpha.length ≤ 4):U.eds.length ≤ 4 * U.sts.length ∧ U.mkl.length ≤ U.sts.length:=by
 constructor
 ·rw [hA.eds]
  refine Nat.le_trans (zke fun k _ => ?_) (by rw [List.length_range]; exact Nat.le_refl _)
  split
  ·simp
  ·exact Nat.le_trans (List.length_filterMap_le _ _) h3
 ·rw [hA.mkl,List.length_map]
  exact Nat.le_trans (List.length_filter_le _ _) (by simp)
theorem zwo {m:Ext} {U:Unf Sta} (hr:extRight m) (hA:UAt (mkdM m) m.alpha (okS m) (stpR m) U.sts.length U) (h64:U.sts.length ≤ 64):chkA (autU m.alpha U) = 0:=by
 obtain ⟨hs,_,_⟩:=zbq hr.alpha
 obtain ⟨e1,e2⟩:=zq1 hA hs
 have hb:=(znp hA.fr).2
 have hm:zaw (U.sts.length:Int) U.mkl none = 0:=by
  refine zhf ?_ ?_ (fun y h => by cases h)
  ·rw [hA.mkl,List.pairwise_map]
   exact (List.Pairwise.filter _ List.pairwise_lt_range).imp fun {a b} h => by omega
  ·intro x hx
   rw [hA.mkl,List.mem_map] at hx
   obtain ⟨k,hk,rfl⟩:=hx
   have:=(List.mem_filter.1 hk).1
   rw [List.mem_range] at this
   omega
 have he:zcL m.alpha (U.sts.length:Int) none U.eds = 0:=zkw e1 (fun x hx => ⟨(hb x hx).1,(hb x hx).2,e2 x hx⟩) (fun y h => by cases h)
 unfold chkA autU
 simp only
 rw [if_neg (by rw [hr.alpha]; simp),if_neg (by omega),if_neg (by omega),if_neg (by rw [hm]; simp)]
 exact he
theorem zrW {m:Ext} {V:Unf Sta} (hA:UAt (mkdM m) m.alpha (okS m) (stpR m) V.sts.length V) {e:Edg}:e ∈ V.eds ↔ ∃ k s,V.sts[k]? = some s ∧ ∃ ev ∈ m.alpha,eOf (stpR m) V.sts k s ev = some e:=by
 rw [hA.eds,List.mem_flatMap]
 constructor
 ·rintro ⟨k,_,hz⟩
  split at hz
  ·cases hz
  ·rename_i s hs
   obtain ⟨ev,h1,h2⟩:=List.mem_filterMap.1 hz
   exact ⟨k,s,hs,ev,h1,h2⟩
 ·rintro ⟨k,s,hs,ev,h1,h2⟩
  refine ⟨k,List.mem_range.2 (List.getElem?_eq_some_iff.1 hs).1,?_⟩
  simp only [hs]
  exact List.mem_filterMap.2 ⟨ev,h1,h2⟩
theorem zuM {m:Ext} {V:Unf Sta} (hr:extRight m) (hA:UAt (mkdM m) m.alpha (okS m) (stpR m) V.sts.length V) {k:Nat} {s:Sta} (hk:V.sts[k]? = some s) {ev:Int} (hev:ev ∈ m.alpha) :
  zhr V.eds k ev = if (stpR m s ev).2.1 = true then ((V.sts.findIdx (eqB (stpR m s ev).1):Nat):Int) else -1:=by
 obtain ⟨hs,_,_⟩:=zbq hr.alpha
 have hso:=zhG (zq1 hA hs).1
 unfold zhr
 cases hf:(outR V.eds (k:Int)).find? (fun x => x.2.1 == ev) with
 | some e =>
  have he:e.2.1 = ev:=by simpa using List.find?_some hf
  have hm:=List.mem_of_find?_eq_some hf
  have hfr:=zuD hso e hm
  obtain ⟨k',s',hk',ev',_,heq⟩:=(zrW hA).1 (znc e hm)
  unfold eOf at heq
  split at heq
  ·rename_i hp
   simp only [Option.some.injEq] at heq
   subst heq
   simp only at he hfr
   subst he
   obtain rfl:k' = k:=by omega
   rw [hk] at hk'
   obtain rfl:s = s':=Option.some.inj hk'
   rw [if_pos hp]
  ·cases heq
 | none =>
  show (-1:Int) = _
  split
  ·rename_i hp
   have hmem:((k:Int),ev,((V.sts.findIdx (eqB (stpR m s ev).1):Nat):Int)) ∈ V.eds:=(zrW hA).2 ⟨k,s,hk,ev,hev,by unfold eOf; rw [if_pos hp]⟩
   have h:=List.find?_eq_none.1 hf _ (zuC hso hmem)
   simp at h
  ·rfl
theorem znE {m:Ext} (hc:chk m = 0) {V:Unf Sta} (hA:UAt (mkdM m) m.alpha (okS m) (stpR m) V.sts.length V):∀ (w:List Int) (s:Sta) (k i:Nat),V.sts[k]? = some s → (∀ x ∈ w,x ∈ m.alpha) →
  ∃ (k':Nat) (s':Sta) (j:Int),V.sts[k']? = some s' ∧ folL V.eds w k i = ((k':Int),j) ∧ runL m w s (i:Int) = (s',j,0)
 | [],s,k,i,hk,_ => ⟨k,s,i,hk,rfl,rfl⟩
 | ev :: r,s,k,i,hk,hw => by
  have hev:=hw ev (by simp)
  obtain ⟨hkl,hks⟩:=List.getElem?_eq_some_iff.1 hk
  have hok:okS m s:=hA.ok s (hks ▸ List.getElem_mem hkl)
  obtain ⟨h0,hnx⟩:=hA.fine k s hkl hk ev hev
  have hn:=zuM (zbX hc) hA hk hev
  rw [zwt hc hok hev] at h0 hnx hn
  simp only [folL,runL]
  rw [if_neg (show ¬ (zdl m s ev).2.2 ≠ 0 by rw [h0]; simp)]
  rcases Bool.eq_false_or_eq_true (zdl m s ev).2.1 with hp | hp
  rotate_left
  ·rw [if_neg (by rw [hp]; simp)] at hn
   rw [hn,if_pos (show (-1:Int) < 0 by decide),if_pos hp]
   exact ⟨k,s,i,hk,rfl,rfl⟩
  ·rw [if_pos hp] at hn
   rw [hn,if_neg (by omega),if_neg (by rw [hp]; simp)]
   obtain ⟨k',s',j,h1,h2,h3⟩:=znE hc hA r _ _ (i + 1) (zxv (hnx hp)) (fun x hx => hw x (by simp [hx]))
   refine ⟨k',s',j,h1,h2,?_⟩
   rw [show ((i:Int) + 1) = ((i + 1:Nat):Int) by omega]
   exact h3
theorem zpe {m:Ext} {V:Unf Sta} (h:za7 m = .ok V):V.sts[0]? = some (zcf m):=by
 have hc:=zc6 h
 unfold za7 at h
 rw [hc,if_neg (by simp)] at h
 unfold unfX unfR at h
 obtain ⟨r,hr⟩:=zji h
 rw [← hr]
 rfl
theorem zjW {m:Mdl}:∀ {l:List Ins} {i:Nat} {a:List Itm} {o:List (List Sta)},zch m l i = .ok (a,o) → a.length = l.length ∧ o.length = l.length ∧ ∀ (j:Nat) (x:Ins),l[j]? = some x → ∃ U,za7 (mchR m x) = .ok U ∧ a[j]? = some ⟨x.name,⟨(mchR m x).alpha,U.sts.length,U.mkl,U.eds⟩⟩ ∧ o[j]? = some U.sts
 | [],i,a,o,h => by
  simp only [zch,Except.ok.injEq,Prod.mk.injEq] at h
  obtain ⟨rfl,rfl⟩:=h
  exact ⟨rfl,rfl,fun j x h => by simp at h⟩
 | y :: r,i,a,o,h => by
  simp only [zch] at h
  cases hu:za7 (mchR m y) with
  | error e => rw [hu] at h; cases h
  | ok U =>
   rw [hu] at h
   simp only at h
   cases hr:zch m r (i + 1) with
   | error e => rw [hr] at h; cases h
   | ok p =>
    obtain ⟨a',o'⟩:=p
    rw [hr] at h
    simp only [Except.ok.injEq,Prod.mk.injEq] at h
    obtain ⟨rfl,rfl⟩:=h
    obtain ⟨h1,h2,h3⟩:=zjW hr
    refine ⟨by simp [h1],by simp [h2],fun j x hj => ?_⟩
    cases j with
    | zero =>
     simp only [List.getElem?_cons_zero,Option.some.injEq] at hj
     subst hj
     exact ⟨U,hu,rfl,rfl⟩
    | succ j =>
     simp only [List.getElem?_cons_succ] at hj ⊢
     exact h3 j x hj
theorem zxM {m:Mdl} (h:(celR m).2.2 = 0):(mdlE m).2 = 0 ∧ ∃ a o,zch m m.comps 0 = .ok (a,o) ∧ (celR m).1.comps = a:=by
 unfold celR at h ⊢
 by_cases h1:(mdlE m).2 ≠ 0
 ·rw [if_pos h1] at h; exact absurd h h1
 refine ⟨Classical.byContradiction h1,?_⟩
 rw [if_neg h1] at h ⊢
 cases hc:zch m m.comps 0 with
 | error p =>
  obtain ⟨i,e⟩:=p
  rw [hc] at h
  simp only at h
  have:∀ {l:List Ins} {i:Nat} {j:Nat} {e:Int},zch m l i = .error (j,e) → e ≠ 0:=by
   intro l
   induction l with
   | nil => intro i j e h; simp [zch] at h
   | cons y r ih =>
    intro i j e h
    simp only [zch] at h
    cases hu:za7 (mchR m y) with
    | error e' =>
     rw [hu] at h
     simp only [Except.error.injEq,Prod.mk.injEq] at h
     rw [← h.2]
     exact zc5 hu
    | ok U =>
     rw [hu] at h
     simp only at h
     cases hr:zch m r (i + 1) with
     | error p =>
      obtain ⟨j',e'⟩:=p
      rw [hr] at h
      simp only [Except.error.injEq,Prod.mk.injEq] at h
      rw [← h.2]
      exact ih hr
     | ok p => rw [hr] at h; cases h
  exact absurd h (this hc)
 | ok p =>
  obtain ⟨a,o⟩:=p
  refine ⟨a,o,rfl,?_⟩
  rw [hc] at h
  simp only at h ⊢
  cases hq:zch m m.reqs 0 with
  | error p =>
   obtain ⟨i,e⟩:=p
   rw [hq] at h
   simp only at h
   have:∀ {l:List Ins} {i:Nat} {j:Nat} {e:Int},zch m l i = .error (j,e) → e ≠ 0:=by
    intro l
    induction l with
    | nil => intro i j e h; simp [zch] at h
    | cons y r ih =>
     intro i j e h
     simp only [zch] at h
     cases hu:za7 (mchR m y) with
     | error e' =>
      rw [hu] at h
      simp only [Except.error.injEq,Prod.mk.injEq] at h
      rw [← h.2]
      exact zc5 hu
     | ok U =>
      rw [hu] at h
      simp only at h
      cases hr:zch m r (i + 1) with
      | error p =>
       obtain ⟨j',e'⟩:=p
       rw [hr] at h
       simp only [Except.error.injEq,Prod.mk.injEq] at h
       rw [← h.2]
       exact ih hr
      | ok p => rw [hr] at h; cases h
   exact absurd h (this hq)
  | ok p =>
   obtain ⟨b,o'⟩:=p
   rw [hq] at h
   simp only at h ⊢
   cases hx:zfu m o m.excs 0 [] [] with
   | error p =>
    obtain ⟨i,e⟩:=p
    rw [hx] at h
    exact absurd h (zg7 hx)
   | ok out => rfl
theorem zul {M:Ext} {V:Unf Sta} (hV:za7 M = .ok V) (hA:UAt (mkdM M) M.alpha (okS M) (stpR M) V.sts.length V) (w:List Int) (hw:∀ x ∈ w,x ∈ M.alpha) :
  ∃ (k:Nat) (s:Sta) (j:Int),V.sts[k]? = some s ∧ folL V.eds w 0 0 = ((k:Int),j) ∧ runR M w = (s,j,0):=by
 have hc:=zc6 hV
 obtain ⟨k,s,j,h1,h2,h3⟩:=znE hc hA w (zcf M) 0 0 (zpe hV) hw
 refine ⟨k,s,j,h1,h2,?_⟩
 unfold runR
 rw [if_neg (by rw [hc]; simp),if_neg]
 ·exact h3
 ·rw [Bool.not_eq_true,List.any_eq_false]
  intro x hx
  simp [hw x hx]
end Go.AI
namespace Go.AI
open Go.Proofs
set_option maxRecDepth 20000
theorem zyU (O:List Heap) (m:Ext) (w:List Int) (hok:extOk m) (hw:w.length ≤ zao):zan Tryz.prog 23 [extD m,ints w] O (.tup [staD (runR m w).1,ii (runR m w).2.1,ii (runR m w).2.2]) [] O:=by
 generalize hR:runR m w = R
 unfold runR at hR
 refine zaN [10] Tk Tryz.func23 rfl Tryz.call23 Tryz.ntmps23 (Nat.le_of_ble_eq_true rfl) fun E => ?_
 refine zah Tk Tryz.func23 ?_
 refine zag Tk Tryz.func23 (zjb _ m hok) rfl rfl rfl rfl rfl ?_
 refine zai Tk Tryz.func23 rfl (fun h1 => ?_) (fun h1 => ?_)
 ·have h1:=bneT h1
  rw [if_pos h1] at hR
  subst hR
  refine zax Tk (r:=_) rfl rfl rfl trivial rfl rfl ?_
  repeat' (first | refine zbi ?_ | refine za9 ?_ | refine zbO ?_ | refine CoDL.cons ?_ ?_ | exact CoDL.nil | exact zaX | refine zbH ?_ | refine CoLL.cons ?_ ?_ | exact CoLL.nil | refine CoL.cons ?_ ?_ | exact CoL.nil | exact CoI.refl _ | exact CoL.refl _ | exact CoLL.refl _ | exact CoDL.refl _ | exact CoD.refl _)
 have h1:=bneF h1
 rw [if_neg (by simpa using h1)] at hR
 have hr:=zbX h1
 have hs:=(zbq hr.alpha).1
 have hal:=hok.al
 apply zbR (P:=w.any (fun ev => decide (ev ∉ m.alpha)) = false) (s6:={ σ:=[(1,ints w),(2,.own 0 2 0 0),(4,.own 0 4 0 0),(5,ii 0),(6,ii 0)],S:=[(4,.box [ii 0,.i (.v (.slice none 0 0))]),(2,.box (extC m))] :: O,n:=60 })
 ·intro J
  refine zaf ?_
  refine zal (fun i:Nat => [(1,ints w),(2,.own 0 2 0 0),(4,.own 0 4 0 0),(5,ii 0),(6,ii 0),(19,ints w),(20,ii w.length),(21,ii i)]) (fun _ => [(4,.box [ii 0,.i (.v (.slice none 0 0))]),(2,.box (extC m))]) (fun _ => O) 60
   (fun i => i ≤ w.length ∧ w.any (fun ev => decide (ev ∉ m.alpha)) = (w.drop i).any (fun ev => decide (ev ∉ m.alpha))) (fun i => w.length - i) 0 ⟨Nat.zero_le _,rfl⟩ ⟨rfl,rfl,rfl,rfl,rfl,rfl,rfl,rfl,trivial⟩ rfl ⟨rfl,rfl,trivial⟩ rfl rfl ?_
  rintro i ⟨hi,hno⟩ ih
  refine zah Tk Tryz.func23 ?_
  refine zai Tk Tryz.func23 rfl (fun h2 => ?_) (fun h2 => ?_)
  ·have h2:i < w.length:=by simpa using h2
   have hd:w.drop i = w[i] :: w.drop (i + 1):=List.drop_eq_getElem_cons h2
   have hg:(w.map fun x => [vi x])[(i:Int).toNat]? = some [vi w[i]]:=zam (f:=fun x => [vi x]) h2
   generalize w[i] = ev at hd hg
   rw [hd,List.any_cons] at hno
   refine zaj Tk Tryz.func23 (by omega) ?_
   refine zaq Tk Tryz.func23 (hg) ?_
   refine zag Tk Tryz.func23 (zfz _ m.alpha ev hal hs) rfl rfl rfl rfl rfl ?_
   refine zai Tk Tryz.func23 rfl (fun h3 => ?_) (fun h3 => ?_)
   ·have h3:ev ∉ m.alpha:=by simpa using h3
    rw [decide_eq_true h3,Bool.true_or] at hno
    rw [if_pos hno] at hR
    subst hR
    refine zax Tk (r:=_) rfl rfl rfl trivial rfl rfl ?_
    repeat' (first | refine zbi ?_ | refine za9 ?_ | refine zbO ?_ | refine CoDL.cons ?_ ?_ | exact CoDL.nil | exact zaX | refine zbH ?_ | refine CoLL.cons ?_ ?_ | exact CoLL.nil | refine CoL.cons ?_ ?_ | exact CoL.nil | exact CoI.refl _ | exact CoL.refl _ | exact CoLL.refl _ | exact CoDL.refl _ | exact CoD.refl _)
   ·have h3:ev ∈ m.alpha:=by simpa using h3
    rw [decide_eq_false (by simpa using h3),Bool.false_or] at hno
    refine zaf ?_
    refine ih (i + 1) _ _ ⟨h2,hno⟩ (by omega) ⟨rfl,rfl,rfl,rfl,rfl,rfl,rfl,congrArg ii (zaE h2 hw),trivial⟩ rfl ⟨rfl,rfl,trivial⟩ rfl rfl
  ·have h2:w.length ≤ i:=by simpa using h2
   rw [List.drop_eq_nil_of_le h2] at hno
   refine zaz ?_
   refine zaF (J hno) ⟨rfl,rfl,rfl,rfl,rfl,trivial⟩ rfl ⟨rfl,rfl,trivial⟩ rfl rfl
 ·intro hP
  rw [if_neg (by rw [hP]; simp)] at hR
  refine zah Tk Tryz.func23 ?_
  refine g_go Tk Tryz.func23 ?_
  refine zag Tk Tryz.func23 (zre _ m (zii hr.vars)) rfl rfl rfl rfl rfl ?_
  refine zaf ?_
  refine zal (fun x:Nat × Sta => [(1,ints w),(2,.own 0 2 0 0),(4,.own 0 4 0 0),(5,ii x.1),(6,ii 0)]) (fun x => [(4,.box [ii x.2.loc,ints x.2.vals]),(2,.box (extC m))]) (fun _ => O) 60
   (fun x => x.1 ≤ w.length ∧ okS m x.2 ∧ runL m (w.drop x.1) x.2 x.1 = R) (fun x => w.length - x.1) (0,zcf m) ⟨Nat.zero_le _,zir hr,hR⟩ ⟨rfl,rfl,rfl,rfl,rfl,trivial⟩ rfl ⟨rfl,rfl,trivial⟩ rfl rfl ?_
  rintro ⟨i,s⟩ ⟨hi,hsk,hno⟩ ih
  clear hR
  simp only at hi hsk hno
  refine zah Tk Tryz.func23 ?_
  refine zai Tk Tryz.func23 rfl (fun h2 => ?_) (fun h2 => ?_)
  ·have h2:i < w.length:=by simpa using h2
   have hd:w.drop i = w[i] :: w.drop (i + 1):=List.drop_eq_getElem_cons h2
   have hg:(w.map fun x => [vi x])[(i:Int).toNat]? = some [vi w[i]]:=zam (f:=fun x => [vi x]) h2
   generalize w[i] = ev at hd hg
   rw [hd] at hno
   simp only [runL] at hno
   have hstep:=fun O => zvP O m s ev hok hr (zbD hr hsk).2.2.2.1
   have hnext:=fun h => zrc hr hsk (ev:=ev) h
   generalize zdl m s ev = n at *
   obtain ⟨⟨nl,nv⟩,np,ne⟩:=n
   simp only at hno hstep hnext
   refine zay Tk Tryz.func23 zaG rfl ?_
   refine zas Tk (by exact ⟨by omega,by show (i:Int) < (w.length:Int); omega⟩) ?_
   refine zaJ Tk (hg) ?_
   refine zaY Tk (fun _ => hstep _) rfl rfl rfl ?_
   refine zdq Tk rfl rfl rfl ?_
   refine zaI Tk Tryz.func23 (by kernel_rfl) ?_
   refine zai Tk Tryz.func23 rfl (fun h3 => ?_) (fun h3 => ?_)
   ·have h3:=bneT h3
    rw [if_pos h3] at hno
    subst hno
    refine zax Tk (r:=_) rfl rfl rfl trivial rfl rfl ?_
    repeat' (first | refine zbi ?_ | refine za9 ?_ | refine zbO ?_ | refine CoDL.cons ?_ ?_ | exact CoDL.nil | exact zaX | refine zbH ?_ | refine CoLL.cons ?_ ?_ | exact CoLL.nil | refine CoL.cons ?_ ?_ | exact CoL.nil | exact CoI.refl _ | exact CoL.refl _ | exact CoLL.refl _ | exact CoDL.refl _ | exact CoD.refl _)
   have h3:=bneF h3
   rw [if_neg (by simpa using h3)] at hno
   refine zai Tk Tryz.func23 rfl (fun h4 => ?_) (fun h4 => ?_)
   ·have h4:=notT h4
    rw [if_pos h4] at hno
    subst hno
    refine zax Tk (r:=_) rfl rfl rfl trivial rfl rfl ?_
    repeat' (first | refine zbi ?_ | refine za9 ?_ | refine zbO ?_ | refine CoDL.cons ?_ ?_ | exact CoDL.nil | exact zaX | refine zbH ?_ | refine CoLL.cons ?_ ?_ | exact CoLL.nil | refine CoL.cons ?_ ?_ | exact CoL.nil | exact CoI.refl _ | exact CoL.refl _ | exact CoLL.refl _ | exact CoDL.refl _ | exact CoD.refl _)
   ·have h4:=notF h4
    rw [if_neg (by rw [h4]; simp)] at hno
    refine zaf ?_
    refine ih (i + 1,⟨nl,nv⟩) _ _ ⟨h2,hnext h4,hno⟩ (by simp only; omega) ⟨rfl,rfl,rfl,congrArg ii (zaE h2 hw),rfl,trivial⟩ rfl ⟨rfl,rfl,trivial⟩ rfl rfl
  ·have h2:w.length ≤ i:=by simpa using h2
   rw [List.drop_eq_nil_of_le h2] at hno
   simp only [runL] at hno
   subst hno
   refine zax Tk (r:=_) rfl rfl rfl trivial rfl rfl ?_
   repeat' (first | refine zbi ?_ | refine za9 ?_ | refine zbO ?_ | refine CoDL.cons ?_ ?_ | exact CoDL.nil | exact zaX | refine zbH ?_ | refine CoLL.cons ?_ ?_ | exact CoLL.nil | refine CoL.cons ?_ ?_ | exact CoL.nil | exact CoI.refl _ | exact CoL.refl _ | exact CoLL.refl _ | exact CoDL.refl _ | exact CoD.refl _)
theorem zt3 (O:List Heap) (l r:List Int) (hl:l.length ≤ zao):zan Tryz.prog 22 [ints l,ints r] O (bb (decide (l = r))) [] O:=by
 have h:=fun O => zi2 O l r hl
 generalize decide (l = r) = b at *
 refine zaa Tk Tryz.func22 rfl Tryz.call22 Tryz.ntmps22 (Nat.le_of_ble_eq_true rfl) fun E => ?_
 refine zah Tk Tryz.func22 ?_
 refine zag Tk Tryz.func22 (h _) rfl rfl rfl rfl rfl ?_
 refine zae Tk (r:=bb b) rfl rfl rfl trivial rfl rfl ?_
 rfl
theorem zo6 (O:List Heap) (l:List Int) (hl:l.length ≤ zao):zan Tryz.prog 22 [ints l,ints l] O (bb true) [] O:=by
 have h:=zt3 O l l hl
 rwa [decide_eq_true rfl] at h
theorem zkR (O:List Heap) (s:Sta) (h:s.vals.length ≤ zao):zan Tryz.prog 25 [staD s,staD s] O (bb true) [] O:=by
 have h1:=fun O => zi2 O s.vals s.vals h
 rw [decide_eq_true rfl] at h1
 obtain ⟨l,v⟩:=s
 simp only at h1
 show zan Tryz.prog 25 [.agg [ii l,ints v],.agg [ii l,ints v]] O (bb true) [] O
 refine zaa Tk Tryz.func25 rfl Tryz.call25 Tryz.ntmps25 (Nat.le_of_ble_eq_true rfl) fun E => ?_
 refine zah Tk Tryz.func25 ?_
 refine zaA Tk Tryz.func25 rfl (fun _ => ?_) (fun h => absurd h (by simp))
 refine zag Tk Tryz.func25 (h1 _) rfl rfl rfl rfl rfl ?_
 refine zae Tk (r:=bb true) rfl rfl rfl trivial rfl rfl ?_
 rfl
def wrdW (al:List Int) (w:List Int) (i:Nat):List Int:=(w.take i).map fun b => al.getD (b % (al.length:Int)).toNat 0
theorem zt0 {al w:List Int} {i:Nat} (h:i < w.length):wrdW al w (i + 1) = wrdW al w i ++ [al.getD (w[i] % (al.length:Int)).toNat 0]:=za8 _ h
theorem zt1 {al w:List Int} (h0:0 < al.length) (hw:∀ b ∈ w,0 ≤ b) (i:Nat):∀ x ∈ wrdW al w i,x ∈ al:=by
 intro x hx
 obtain ⟨b,hb,rfl⟩:=List.mem_map.1 hx
 have h1:=Int.emod_nonneg b (show (al.length:Int) ≠ 0 by omega)
 have h2:=Int.emod_lt_of_pos b (show 0 < (al.length:Int) by omega)
 exact zf7 (by omega)
theorem zxX {g:Nat} (hg:zfd g) {ty:TypeId} {fr:Nat × Nat} (O:List Heap) (k:Sk22) (c0:Int) (w:List Int) (hk:sk22Ok k) (hc0:0 ≤ c0 ∧ c0 ≤ 255) (hwb:zb2 w) (hwl:w.length ≤ zao) :
  zbd g (ptab ty fr) Tryz.prog 4 [zwE k,.i (.v (.int .u8 c0)),byts w] O (bb true) [] O:=by
 have hkn:=fun O => zxm hg (ty:=ty) (fr:=fr) O
 have hmk:=fun O => zyo hg (ty:=ty) (fr:=fr) O k hk
 have hm:=zuS hk
 have hmv:=zuT hk
 have hev3:∀ x ∈ (zcq k).comps,x.evs.length = 3:=fun x hx => by
  rw [zeq] at hx
  exact znt (mkT k).length k.ins (zd6 k) x (List.mem_append_left _ hx)
 have hmade:∀ t ∈ (zcq k).tpls,made t.mach:=by
  rw [zdR]
  intro t h
  obtain ⟨j,_,h2,rfl⟩:=zk3 h
  exact zjM (hk.t _ (zf7 (d:=zSk) h2))
 clear hk
 generalize zcq k = m at *
 have h16:=fun O => zwg hg (ty:=ty) (fr:=fr) O m hm hmv
 have hcel:=zxM (m:=m)
 by_cases hce:(celR m).2.2 = 0
 rotate_left
 ·generalize celR m = C at *
  obtain ⟨⟨ce,cc,cr,cx,cn⟩,⟨p1,p2⟩,e⟩:=C
  simp only at hce
  have h16:∀ O,zbd g (ptab ty fr) Tryz.prog 16 [mdlD m] O (.tup [celD ⟨ce,cc,cr,cx,cn⟩,.agg [ii p1,ii p2],ii e]) [] O:=h16
  refine zaU [] Tk Tryz.func4 rfl Tryz.call4 Tryz.ntmps4 (Nat.le_of_ble_eq_true rfl) fun E hE => ?_
  refine zah Tk Tryz.func4 ?_
  refine zbc Tk Tryz.func4 hE (hkn _) rfl rfl rfl rfl rfl rfl ?_
  refine gcF Tk Tryz.func4 rfl ?_
  refine zbc Tk Tryz.func4 hE (hmk _) rfl rfl rfl rfl rfl rfl ?_
  refine zbc Tk Tryz.func4 hE (h16 _) rfl rfl rfl rfl rfl rfl ?_
  refine zaA Tk Tryz.func4 rfl (fun _ => ?_) (fun h => absurd h (by simpa using hce))
  refine gcT Tk Tryz.func4 rfl ?_
  refine zae Tk (r:=bb (e != 0)) rfl rfl rfl trivial rfl rfl ?_
  simpa using hce
 obtain ⟨hE0,a,o,hit,hca⟩:=hcel hce
 obtain ⟨hal,hol,hget⟩:=zjW hit
 have hcl:=(zgc (zcW hE0).2.2.2.1)
 have hj1:=Int.emod_nonneg c0 (show (m.comps.length:Int) ≠ 0 by omega)
 have hj2:=Int.emod_lt_of_pos c0 (show 0 < (m.comps.length:Int) by omega)
 have hgx:m.comps[(c0 % (m.comps.length:Int)).toNat]? = some m.comps[(c0 % (m.comps.length:Int)).toNat]:=List.getElem?_eq_getElem (by omega)
 have hxm:m.comps[(c0 % (m.comps.length:Int)).toNat] ∈ m.comps:=List.getElem_mem (by omega)
 have hx3:=hev3 _ hxm
 obtain ⟨U,hu,hga,hgo⟩:=hget _ _ hgx
 obtain ⟨t,hmo,hme,hlo,hnm,hie⟩:=zeH hmv hE0 (.inl hxm)
 have hp:zcw m (3,c0 % (m.comps.length:Int)) = .ok m.comps[(c0 % (m.comps.length:Int)).toNat]:=by
  unfold zcw
  simp only [if_true]
  rw [if_neg (by omega),hgx]
 have hA:mchA m (3,c0 % (m.comps.length:Int)) = (mchR m m.comps[(c0 % (m.comps.length:Int)).toNat],0):=by
  unfold mchA
  rw [if_neg (fun h => h hE0),hp]
 have hO:orgA m (3,c0 % (m.comps.length:Int)) = (U.sts,0):=by
  unfold orgA
  rw [hA,if_neg (by simp),hu]
 have h18:=fun O => zhi O m (3,c0 % (m.comps.length:Int)) hm hmv
 have h19:=fun O => ztV hg (ty:=ty) (fr:=fr) O m (3,c0 % (m.comps.length:Int)) hm hmv
 rw [hA] at h18
 rw [hO] at h19
 have hmd:=hmade t hmo.mem
 have hxe:m.comps[(c0 % (m.comps.length:Int)).toNat].evs.length ≤ 1000000:=by omega
 have hok:extOk (mchR m m.comps[(c0 % (m.comps.length:Int)).toNat]):=by rw [hme]; exact zk5 hm hxe hmo
 have hXl:(mchR m m.comps[(c0 % (m.comps.length:Int)).toNat]).locs = t.mach.locs:=by rw [hme]; rfl
 have hXv:(mchR m m.comps[(c0 % (m.comps.length:Int)).toNat]).vars = t.mach.vars:=by rw [hme]; rfl
 have hXa:(mchR m m.comps[(c0 % (m.comps.length:Int)).toNat]).alpha.length = 3:=by
  rw [hme]
  show (srtZ _).length = 3
  rw [(zeL _).length_eq,List.length_map]
  exact hx3
 generalize m.comps[(c0 % (m.comps.length:Int)).toNat] = x at *
 generalize mchR m x = X at *
 have hUA:=zt9 hmd hXl hXv hu
 have h64:U.sts.length ≤ 64:=zh4 hmd (fun s hs => by have:=hUA.ok s hs; unfold okS at this ⊢; rwa [← hXl,← hXv]) hUA.nd
 obtain ⟨hl1,hl2⟩:=zwn hUA (by omega)
 have hrX:=zbX (zc6 hu)
 have haut:autOk (autU X.alpha U):=⟨by show U.eds.length ≤ _; omega,by show X.alpha.length ≤ _; omega,by show U.mkl.length ≤ _; omega,zwo hrX hUA h64⟩
 have hWm:=zt1 (al:=X.alpha) (w:=w) (by omega) (fun b hb => (hwb b hb).1) (min w.length 6)
 have hWl:(wrdW X.alpha w (min w.length 6)).length ≤ 6:=by
  unfold wrdW
  rw [List.length_map,List.length_take]
  omega
 obtain ⟨q,s,j,hq,hfol,hrun⟩:=zul hu hUA (wrdW X.alpha w (min w.length 6)) hWm
 have hpos:0 < U.sts.length:=hUA.pos
 have h23:=fun O => zyU O X (wrdW X.alpha w (min w.length 6)) hok (by simp only [zao]; omega)
 rw [hrun] at h23
 have h24:=fun O => zya O (autU X.alpha U) 0 (wrdW X.alpha w (min w.length 6)) haut ⟨Int.le_refl _,by show (0:Int) < (U.sts.length:Int); omega⟩ (by simp only [zao]; omega) hWm
 rw [show folL (autU X.alpha U).edges (wrdW X.alpha w (min w.length 6)) 0 0 = ((q:Int),j) from hfol] at h24
 obtain ⟨hql,hqs⟩:=List.getElem?_eq_some_iff.1 hq
 have hoks:okS X s:=hUA.ok s (hqs ▸ List.getElem_mem hql)
 have h25:=fun O => zkR O s (by have:=(zbD hrX hoks).2.2.1; simp only [zao]; omega)
 have gq:(U.sts.map staI)[((q:Nat):Int).toNat]? = some (staI s):=by rw [List.getElem?_map,Int.toNat_natCast,hq]; rfl
 have ga:(a.map itmI)[(c0 % (m.comps.length:Int)).toNat]? = some (itmI ⟨x.name,⟨X.alpha,U.sts.length,U.mkl,U.eds⟩⟩):=by rw [List.getElem?_map,hga]; rfl
 have h22:=fun O => zo6 O X.alpha (by simp only [zao]; omega)
 have hw0:IntKind.i64.wrap c0 = c0:=w64 (by omega) (by omega)
 have hcm:(IntKind.i64.wrap c0).tmod (m.comps.length:Int) = c0 % (m.comps.length:Int):=by rw [hw0,Int.tmod_eq_emod_of_nonneg hc0.1]
 generalize hC:celR m = C at *
 obtain ⟨⟨ce,cc,cr,cx,cn⟩,⟨p1,p2⟩,e⟩:=C
 simp only at hce hca
 subst hce
 subst hca
 have h16:∀ O,zbd g (ptab ty fr) Tryz.prog 16 [mdlD m] O (.tup [celD ⟨ce,cc,cr,cx,cn⟩,.agg [ii p1,ii p2],ii 0]) [] O:=h16
 rw [← hcm] at ga
 have h18:∀ O,zan Tryz.prog 18 [mdlD m,.agg [ii 3,ii ((IntKind.i64.wrap c0).tmod (m.comps.length:Int))]] O (.tup [extD X,ii 0]) [] O:=fun O => by rw [hcm]; exact h18 O
 have h19:∀ O,zbd g (ptab ty fr) Tryz.prog 19 [mdlD m,.agg [ii 3,ii ((IntKind.i64.wrap c0).tmod (m.comps.length:Int))]] O (.tup [zdo U.sts,ii 0]) [] O:=fun O => by rw [hcm]; exact h19 O
 clear hA hO hp hC hit hget hgx hxm hga hgo hu hUA hmo hme hnm hie hmd hXl hXv hrun hfol haut hWm hmade hev3 hqs hoks hrX hl1 hl2 hq hcel
 rw [← hal] at hcm h18 h19 ga hj1 hj2 hcl
 generalize hW:wrdW X.alpha w (min w.length 6) = W at *
 have hXal:0 < X.alpha.length:=by omega
 obtain ⟨sts,mkl,eds⟩:=U
 simp only at h64 hpos h24 hql gq ga h19
 obtain ⟨sl,sv⟩:=s
 have h23:∀ O,zan Tryz.prog 23 [extD X,ints W] O (.tup [staD ⟨sl,sv⟩,ii j,ii 0]) [] O:=h23
 have h24:∀ O,zan Tryz.prog 24 [.agg [ints X.alpha,ii (sts.length:Nat),ints mkl,edgs eds],ii 0,ints W] O (.tup [ii (q:Nat),ii j,ii 0]) [] O:=h24
 refine zaU [18] Tk Tryz.func4 rfl Tryz.call4 Tryz.ntmps4 (Nat.le_of_ble_eq_true rfl) fun E hE => ?_
 refine zah Tk Tryz.func4 ?_
 refine zbc Tk Tryz.func4 hE (hkn _) rfl rfl rfl rfl rfl rfl ?_
 refine gcF Tk Tryz.func4 rfl ?_
 refine zbc Tk Tryz.func4 hE (hmk _) rfl rfl rfl rfl rfl rfl ?_
 refine zbc Tk Tryz.func4 hE (h16 _) rfl rfl rfl rfl rfl rfl ?_
 refine gkF Tk Tryz.func4 rfl ?_
 refine zai Tk Tryz.func4 rfl (fun h => absurd h (by simp; intro h; rw [h] at hcl; simp at hcl)) (fun _ => ?_)
 refine zaj Tk Tryz.func4 (by show (cc.length:Int) ≠ 0; omega) ?_
 refine zaj Tk Tryz.func4 (by rw [hcm]; exact ⟨hj1,hj2⟩) ?_
 refine zaq Tk Tryz.func4 (ga) ?_
 refine zag Tk Tryz.func4 (h18 _) rfl rfl rfl rfl rfl ?_
 refine zbc Tk Tryz.func4 hE (h19 _) rfl rfl rfl rfl rfl rfl ?_
 refine gkF Tk Tryz.func4 rfl ?_
 refine gkF Tk Tryz.func4 rfl ?_
 refine zaA Tk Tryz.func4 rfl (fun h => absurd h (by simp; intro h; rw [h] at hXal; simp at hXal)) (fun _ => ?_)
 refine zaA Tk Tryz.func4 rfl (fun h => absurd h (by simp)) (fun _ => ?_)
 refine zag Tk Tryz.func4 (h22 _) rfl rfl rfl rfl rfl ?_
 refine gcF Tk Tryz.func4 rfl ?_
 apply zbR (P:=True) (s6:={ σ:=[(12,.own 0 12 0 0),(13,.own 0 13 0 0),(15,zdo sts),(17,ints W)],S:=[(12,.box [ints X.alpha,ii (sts.length:Nat),ints mkl,edgs eds]),(13,.box (extC X))] :: O,n:=167 })
 ·intro J
  refine g_wk (zbZ 17 123 3 1 rfl rfl rfl) ?_
  refine zaf ?_
  refine zal (fun i:Nat => [(2,byts w),(12,.own 0 12 0 0),(13,.own 0 13 0 0),(15,zdo sts),(17,.osl 0 123),(18,ii i)]) (fun i => [(12,.box [ints X.alpha,ii (sts.length:Nat),ints mkl,edgs eds]),(13,.box (extC X)),(123,zbT (wrdW X.alpha w i))]) (fun _ => O) 167
   (fun i => i ≤ min w.length 6) (fun i => min w.length 6 - i) 0 (Nat.zero_le _) ⟨rfl,rfl,rfl,rfl,rfl,rfl,trivial⟩ rfl ⟨rfl,rfl,rfl,trivial⟩ rfl rfl ?_
  intro i hi ih
  have hi:i ≤ min w.length 6:=hi
  have hend:i = min w.length 6 → wrdW X.alpha w i = W:=fun e => by rw [e]; exact hW
  refine zah Tk Tryz.func4 ?_
  refine zaA Tk Tryz.func4 rfl (fun g1 => ?_) (fun g1 => ?_)
  rotate_left
  ·have g1:w.length ≤ i:=by simpa using g1
   rw [hend (by omega)]
   refine gcF Tk Tryz.func4 rfl ?_
   refine zaz ?_
   refine zav (zap 123 rfl rfl) ?_
   refine zav (za4 rfl) ?_
   exact zaF (J trivial) ⟨rfl,rfl,rfl,rfl,trivial⟩ rfl ⟨rfl,rfl,trivial⟩ rfl rfl
  have g1:i < w.length:=by simpa using g1
  refine zai Tk Tryz.func4 rfl (fun g2 => ?_) (fun g2 => ?_)
  rotate_left
  ·have g2:¬ i < 6:=by have:¬ (i:Int) < 6:=of_decide_eq_false g2;omega
   rw [hend (by omega)]
   refine zaz ?_
   refine zav (zap 123 rfl rfl) ?_
   refine zav (za4 rfl) ?_
   exact zaF (J trivial) ⟨rfl,rfl,rfl,rfl,trivial⟩ rfl ⟨rfl,rfl,trivial⟩ rfl rfl
  have g2:i < 6:=by have:(i:Int) < 6:=of_decide_eq_true g2;omega
  clear J hend
  have gw:(w.map u8I)[(i:Int).toNat]? = some (u8I w[i]):=zam g1
  have hbi:=hwb _ (List.getElem_mem g1)
  have hsu:=zt0 (al:=X.alpha) g1
  have hll:(wrdW X.alpha w i).length ≤ 6:=by unfold wrdW; rw [List.length_map,List.length_take]; omega
  have hj1:ii (IntKind.i64.wrap ((i:Int) + 1)) = ii ((i + 1:Nat):Int):=congrArg ii (zaE (n:=1000001) (by omega) (by decide))
  generalize w[i] = b at *
  generalize wrdW X.alpha w i = A at *
  have hm1:=Int.emod_nonneg b (show (X.alpha.length:Int) ≠ 0 by omega)
  have hm2:=Int.emod_lt_of_pos b (show 0 < (X.alpha.length:Int) by omega)
  have hbm:(IntKind.i64.wrap b).tmod (X.alpha.length:Int) = b % (X.alpha.length:Int):=by rw [w64 (by omega) (by omega),Int.tmod_eq_emod_of_nonneg hbi.1]
  have gal:(X.alpha.map fun x => [vi x])[((IntKind.i64.wrap b).tmod (X.alpha.length:Int)).toNat]? = some [vi (X.alpha.getD (b % (X.alpha.length:Int)).toNat 0)]:=by
   rw [hbm,List.getElem?_map,List.getD_eq_getElem?_getD,List.getElem?_eq_getElem (by omega)]; rfl
  refine zay Tk Tryz.func4 zaG rfl ?_
  refine zas Tk (by exact ⟨by omega,by show (i:Int) < (w.length:Int); omega⟩) ?_
  refine zaJ Tk (gw) ?_
  refine zas Tk (by show (X.alpha.length:Int) ≠ 0; omega) ?_
  refine zas Tk (by rw [hbm]; exact ⟨hm1,hm2⟩) ?_
  refine zaJ Tk (gal) ?_
  refine zd9 Tk Tryz.func4 ([15,16]) (by kernel_rfl) (by kernel_rfl) ?_
  refine zaj Tk Tryz.func4 (by exact ⟨by show (A.length + 1) * 8 ≤ 140737488355328; omega,by show A.length + 1 ≤ 9223372036854775807; omega⟩) ?_
  refine zaf ?_
  refine ih (i + 1) _ _ (by show i + 1 ≤ _; omega) (by omega) ⟨rfl,rfl,rfl,rfl,rfl,hj1,trivial⟩ rfl ⟨rfl,rfl,?_,trivial⟩ rfl rfl
  rw [hsu]
  exact congrArg some (zcg A _)
 intro _
 refine zah Tk Tryz.func4 ?_
 refine g_go Tk Tryz.func4 ?_
 refine zag Tk Tryz.func4 (h23 _) rfl rfl rfl rfl rfl ?_
 refine zag Tk Tryz.func4 (h24 _) rfl rfl rfl rfl rfl ?_
 refine zay Tk Tryz.func4 zaG rfl ?_
 refine skT Tk ?_
 refine skT Tk ?_
 refine zbI Tk (fun _ => ?_) (fun h => absurd h (by simp))
 refine zbI Tk (fun _ => ?_) (fun h => absurd h (by simp))
 refine zbI Tk (fun _ => ?_) (fun h => absurd h (by simp; omega))
 refine zas Tk (by exact ⟨by omega,by show ((q:Nat):Int) < (sts.length:Int); omega⟩) ?_
 refine zaJ Tk (gq) ?_
 refine zaY Tk (fun _ => h25 _) rfl rfl rfl ?_
 refine zaI Tk Tryz.func4 (by kernel_rfl) ?_
 refine zae Tk (r:=bb true) rfl rfl rfl trivial rfl rfl ?_
 rfl
end Go.AI
namespace Go.Proofs.YtnojpbbaohoadaaGreatDoor
set_option maxRecDepth 100000
theorem zbG:laidOutB Tryz.prog = true:=by kernel_rfl
theorem zfx:mapsRowed Tryz.prog = true:=by kernel_rfl
theorem ze6:(Rows.elaborateWordsRow.inPlace == Tryz.prog.inPlace 4) = true:=by kernel_rfl
theorem ze5:(Rows.elaborateWordsRow.unfollowed == Tryz.prog.unfollowed 4) = true:=by kernel_rfl
theorem ze4:(Rows.elaborateWordsRow.recurses == Tryz.prog.recurses 4) = true:=by kernel_rfl
theorem ze3:(Rows.elaborateWordsRow.named == Tryz.prog.varsNamed 4) = true:=by kernel_rfl
theorem zdD:joinedFacts Tryz.prog 4 Tryz.f4 Rows.elaborateWordsSpec Rows.elaborateWordsRow = true:=by
 simp only [joinedFacts,Bool.and_eq_true]
 repeat' refine And.intro ?_ ?_
 ·kernel_rfl
 ·exact zbG
 ·exact zfx
 ·kernel_rfl
 ·kernel_rfl
 ·kernel_rfl
 ·kernel_rfl
 ·kernel_rfl
 ·kernel_rfl
 ·exact ze6
 ·exact ze5
 ·exact ze4
 ·exact ze3
 ·kernel_rfl
 ·kernel_rfl
 ·kernel_rfl
 ·kernel_rfl
 ·kernel_rfl
 ·kernel_rfl
 ·kernel_rfl
 ·kernel_rfl
 ·kernel_rfl
 ·kernel_rfl
 ·kernel_rfl
 ·kernel_rfl
 ·kernel_rfl
 ·kernel_rfl
 ·kernel_rfl
 ·kernel_rfl
 ·kernel_rfl
 ·kernel_rfl
 ·kernel_rfl
theorem zeB : Tryz.prog.mainIs = some (true, "9aa124d96d2f2fea36404c3e6649a1942013d744947b2e2ae648d5b84282eb38".toList) := by kernel_rfl
theorem zd1:false = Tryz.prog.looks []:=by kernel_rfl
theorem zeC:false = Rows.elaborateWordsRow.goesBy Tryz.prog:=by kernel_rfl
end Go.Proofs.YtnojpbbaohoadaaGreatDoor
